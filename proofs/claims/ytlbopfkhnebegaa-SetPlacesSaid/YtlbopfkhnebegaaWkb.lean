/- The functions do what their models say. -/
import Derived.Test.YtlbopfkhnebegaaWka
namespace Go.Proofs.Ytlbopfkhnebegaa
open Go Go.Nx
set_option linter.unusedVariables false
set_option linter.unusedSimpArgs false
set_option maxRecDepth 8000
-- narthex/narthexlaw01.SetMembers
theorem w_narthexlaw01_SetMembers (N : Nat) (a0 : List Int) (a1 : List Int) (a2 : Int) (r : Bool) (h : narthexlaw01_SetMembers N a0 a1 a2 = some r) : Nx.Call Try.prog 5 [.c (.slv (a0.map eI)), .c (.slv (a1.map eI)), .c (I a2)] [] fun r' _ => r' = .c (B r) := by
  refine Nx.Call.of_body Try.func5 rfl en5 Try.ntmps5 rfl (fun Γ hok => ?_)
  unfold narthexlaw01_SetMembers at h
  refine Wp.seq ?_
  refine Wp.text [0, 1, 2] rfl rfl ?_ -- region 0
  refine TextR.assign rfl ?_
  refine TextR.done (.cons rfl (.cons rfl (.cons rfl .nil))) ?_
  refine Wp.seq ?_
  refine Wp.seq ?_
  obtain ⟨y1, hy1, h⟩ := bind_some h
  refine Wp.go false none [[], [], [], [(11, false)], [(11, false)], [(11, false)], [], [], [(16, false)], [(16, false)], [(16, false)], []] [] [0, 1, 2, 20] mixed rfl rfl (by kernel_rfl) ?_ -- region 1
  refine RunR.call rfl rfl rfl (fun H => c_narthexlaw01_awake N y1 hy1 H) ?_
  refine RunR.not rfl rfl rfl ?_
  refine RunR.move rfl rfl rfl ?_
  refine RunR.move rfl rfl rfl ?_
  refine RunR.lenM us22 rfl rfl rfl rfl ?_
  refine RunR.int rfl rfl rfl rfl rfl ?_
  refine RunR.pickOr rfl rfl rfl rfl ?_
  refine RunR.move rfl rfl rfl ?_
  refine RunR.move rfl rfl rfl ?_
  refine RunR.lenM us22 rfl rfl rfl rfl ?_
  refine RunR.int rfl rfl rfl rfl rfl ?_
  refine RunR.pickOr rfl rfl rfl rfl ?_
  refine RunR.doneQ (.cons rfl (.cons rfl (.cons rfl (.cons rfl .nil)))) ?_
  refine Wp.condM h rfl (fun hc1 h => ?_) (fun hc1 h => ?_)
  · refine Wp.seq ?_
    obtain ⟨y2, hy2, h⟩ := bind_some h
    refine Wp.text [6] rfl rfl ?_ -- region 2
    refine TextR.dcall rfl rfl (c_narthexlaw01_awake N y2 hy2 _) ?_
    refine TextR.assign rfl ?_
    refine TextR.done (.cons rfl .nil) ?_
    refine Wp.ret ?_
    obtain rfl := Option.some.inj h
    exact Ret.one rfl (resV_tmp rfl) rfl
  · refine Wp.skip ?_
    refine Wp.seq ?_
    obtain ⟨y3, hy3, h⟩ := bind_some h
    obtain ⟨y4, hy4, h⟩ := bind_some h
    obtain ⟨y5, hy5, h⟩ := bind_some h
    obtain ⟨y6, hy6, h⟩ := bind_some h
    refine Wp.text [0, 1, 2, 7, 8] rfl rfl ?_ -- region 3
    refine TextR.move rfl ?_
    refine TextR.dcall rfl rfl (c_narthexlaw01_own N a0 y3 hy3 _) ?_
    refine TextR.move rfl ?_
    refine TextR.dcall rfl rfl (c_set_Has N y3 a2 y4 hy4 _) ?_
    refine TextR.move rfl ?_
    refine TextR.dcall rfl rfl (c_narthexlaw01_own N a1 y5 hy5 _) ?_
    refine TextR.move rfl ?_
    refine TextR.dcall rfl rfl (c_set_Has N y5 a2 y6 hy6 _) ?_
    refine TextR.assign rfl ?_
    refine TextR.assign rfl ?_
    refine TextR.done (.cons rfl (.cons rfl (.cons rfl (.cons rfl (.cons rfl .nil))))) ?_
    refine Wp.seq ?_
    obtain ⟨y7, hy7, h⟩ := bind_some h
    obtain ⟨y8, hy8, h⟩ := bind_some h
    obtain ⟨y9, hy9, h⟩ := bind_some h
    obtain ⟨y10, hy10, h⟩ := bind_some h
    obtain ⟨y11, hy11, h⟩ := bind_some h
    obtain ⟨y12, hy12, h⟩ := bind_some h
    obtain ⟨y13, hy13, h⟩ := bind_some h
    obtain ⟨y14, hy14, h⟩ := bind_some h
    obtain ⟨y15, hy15, h⟩ := bind_some h
    obtain ⟨y16, hy16, h⟩ := bind_some h
    obtain ⟨y17, hy17, h⟩ := bind_some h
    obtain ⟨y18, hy18, h⟩ := bind_some h
    obtain ⟨y19, hy19, h⟩ := bind_some h
    obtain ⟨y20, hy20, h⟩ := bind_some h
    obtain ⟨y21, hy21, h⟩ := bind_some h
    obtain ⟨y22, hy22, h⟩ := bind_some h
    obtain ⟨y23, hy23, h⟩ := bind_some h
    obtain ⟨y24, hy24, h⟩ := bind_some h
    refine Wp.go false none [[], [], [], [], [], [], [], [], [], [(38, false)], [], [], [], [(42, true)], [(42, true)], [(42, true)], [(42, true)], [(42, true)], [(42, true)], [(42, true)], [(42, true)], [(42, true)], [(51, true), (42, true)], [(42, true)], [(42, true)], [], [], [(56, true)], [(56, true)], [(56, true)], [(56, true)], [(56, true)], [(56, true)], [(56, true)], [(56, true)], [(56, true)], [(65, true), (56, true)], [(65, true), (56, true)], [(56, true)], [(56, true)], [], [], [(71, true)], [(71, true)], [(71, true)], [(71, true)], [(71, true)], [(71, true)], [], [], [(79, true)], [(79, true)], [(79, true)], [(79, true)], [(79, true)], [(79, true)], [(79, true)], [], []] [] [6] mixed rfl rfl (by kernel_rfl) ?_ -- region 4
    refine RunR.move rfl rfl rfl ?_
    refine RunR.call rfl rfl rfl (fun H => c_narthexlaw01_own N a0 y7 hy7 H) ?_
    refine RunR.move rfl rfl rfl ?_
    refine RunR.call rfl rfl rfl (fun H => c_narthexlaw01_own N a1 y8 hy8 H) ?_
    refine RunR.call rfl rfl rfl (fun H => c_set_Union N y7 y8 y9 hy9 H) ?_
    refine RunR.move rfl rfl rfl ?_
    refine RunR.call rfl rfl rfl (fun H => c_set_Has N y9 a2 y10 hy10 H) ?_
    refine RunR.move rfl rfl rfl ?_
    refine RunR.move rfl rfl rfl ?_
    refine RunR.move rfl rfl rfl ?_
    refine RunR.pickOr rfl rfl rfl rfl ?_
    refine RunR.eqBool (by kernel_rfl) rfl rfl rfl rfl ?_
    refine RunR.move rfl rfl rfl ?_
    refine RunR.move rfl rfl rfl ?_
    refine RunR.callG rfl rfl rfl (fun hb H => c_narthexlaw01_own N a0 y11 (ifT hy11 gT hb) H) ?_
    refine RunR.move rfl rfl rfl ?_
    refine RunR.callG rfl rfl rfl (fun hb H => c_narthexlaw01_own N a1 y12 (ifT hy12 gT hb) H) ?_
    refine RunR.callG rfl rfl rfl (fun hb H => c_set_Both N y11 y12 y13 (ifT hy13 gT hb) H) ?_
    refine RunR.move rfl rfl rfl ?_
    refine RunR.callG rfl rfl rfl (fun hb H => c_set_Has N y13 a2 y14 (ifT hy14 gT hb) H) ?_
    refine RunR.move rfl rfl rfl ?_
    refine RunR.move rfl rfl rfl ?_
    refine RunR.move rfl rfl rfl ?_
    refine RunR.pickAnd rfl rfl rfl rfl ?_
    refine RunR.eqBool (by kernel_rfl) rfl rfl rfl rfl ?_
    refine RunR.pickAnd rfl rfl rfl rfl ?_
    refine RunR.move rfl rfl rfl ?_
    refine RunR.move rfl rfl rfl ?_
    refine RunR.callG rfl rfl rfl (fun hb H => c_narthexlaw01_own N a0 y15 (ifT hy15 gT hb) H) ?_
    refine RunR.move rfl rfl rfl ?_
    refine RunR.callG rfl rfl rfl (fun hb H => c_narthexlaw01_own N a1 y16 (ifT hy16 gT hb) H) ?_
    refine RunR.callG rfl rfl rfl (fun hb H => c_set_Minus N y15 y16 y17 (ifT hy17 gT hb) H) ?_
    refine RunR.move rfl rfl rfl ?_
    refine RunR.callG rfl rfl rfl (fun hb H => c_set_Has N y17 a2 y18 (ifT hy18 gT hb) H) ?_
    refine RunR.move rfl rfl rfl ?_
    refine RunR.move rfl rfl rfl ?_
    refine RunR.move rfl rfl rfl ?_
    refine RunR.not rfl rfl rfl ?_
    refine RunR.pickAnd rfl rfl rfl rfl ?_
    refine RunR.eqBool (by kernel_rfl) rfl rfl rfl rfl ?_
    refine RunR.pickAnd rfl rfl rfl rfl ?_
    refine RunR.move rfl rfl rfl ?_
    refine RunR.move rfl rfl rfl ?_
    refine RunR.callG rfl rfl rfl (fun hb H => c_narthexlaw01_own N a0 y19 (ifT hy19 gT hb) H) ?_
    refine RunR.move rfl rfl rfl ?_
    refine RunR.callG rfl rfl rfl (fun hb H => c_set_Add N y19 a2 y20 (ifT hy20 gT hb) H) ?_
    refine RunR.move rfl rfl rfl ?_
    refine RunR.callG rfl rfl rfl (fun hb H => c_set_Has N y20 a2 y21 (ifT hy21 gT hb) H) ?_
    refine RunR.pickAnd rfl rfl rfl rfl ?_
    refine RunR.move rfl rfl rfl ?_
    refine RunR.move rfl rfl rfl ?_
    refine RunR.callG rfl rfl rfl (fun hb H => c_narthexlaw01_own N a0 y22 (ifT hy22 gT hb) H) ?_
    refine RunR.move rfl rfl rfl ?_
    refine RunR.callG rfl rfl rfl (fun hb H => c_set_Del N y22 a2 y23 (ifT hy23 gT hb) H) ?_
    refine RunR.move rfl rfl rfl ?_
    refine RunR.callG rfl rfl rfl (fun hb H => c_set_Has N y23 a2 y24 (ifT hy24 gT hb) H) ?_
    refine RunR.not rfl rfl rfl ?_
    refine RunR.pickAnd rfl rfl rfl rfl ?_
    refine RunR.assign rfl rfl rfl ?_
    refine RunR.doneQ (.cons rfl .nil) ?_
    refine Wp.ret ?_
    obtain rfl := Option.some.inj h
    exact Ret.one rfl (resV_tmp rfl) rfl
theorem c_narthexlaw01_SetMembers (N : Nat) (a0 : List Int) (a1 : List Int) (a2 : Int) (r : Bool) (h : narthexlaw01_SetMembers N a0 a1 a2 = some r) (H : List Ob) : DCall Try.prog 5 [.c (.slv (a0.map eI)), .c (.slv (a1.map eI)), .c (I a2)] H (.c (B r)) := DCall.lift (by first | rfl | simp [List.map_take, List.map_drop, rvL, rvK, bwL, hfVs, hfV, hfL, hfAll, hfRows, mvV, mvL, mv0, sh0, mvO, mpE, mpV, mpVs, mpO, fzL, rnL, rn0, ok0, nzI, nzB, nzN, nzF, nzP, nzO, nzQ, nzC, shL, shV, shO, okV, okL, okO, List.take_of_length_le, h_I, hfRows_map h_I, ok_eI, okR_eI, fx_eI, fxR_eI, h_L_I, hfRows_map h_L_I, ok_eL_I, okR_eL_I, fx_eL_I, fxR_eL_I, -List.map_set]) (by first | rfl | simp [List.map_take, List.map_drop, rvL, rvK, bwL, hfVs, hfV, hfL, hfAll, hfRows, mvV, mvL, mv0, sh0, mvO, mpE, mpV, mpVs, mpO, fzL, rnL, rn0, ok0, nzI, nzB, nzN, nzF, nzP, nzO, nzQ, nzC, shL, shV, shO, okV, okL, okO, List.take_of_length_le, h_I, hfRows_map h_I, ok_eI, okR_eI, fx_eI, fxR_eI, h_L_I, hfRows_map h_L_I, ok_eL_I, okR_eL_I, fx_eL_I, fxR_eL_I, -List.map_set]) (fun _ => by simp [List.map_take, List.map_drop, rvL, rvK, bwL, hfVs, hfV, hfL, hfAll, hfRows, mvV, mvL, mv0, sh0, mvO, mpE, mpV, mpVs, mpO, fzL, rnL, rn0, ok0, nzI, nzB, nzN, nzF, nzP, nzO, nzQ, nzC, shL, shV, shO, okV, okL, okO, List.take_of_length_le, h_I, hfRows_map h_I, ok_eI, okR_eI, fx_eI, fxR_eI, h_L_I, hfRows_map h_L_I, ok_eL_I, okR_eL_I, fx_eL_I, fxR_eL_I, -List.map_set]) (w_narthexlaw01_SetMembers N a0 a1 a2 r h) H
-- narthex/narthexlaw01.SetStays
theorem w_narthexlaw01_SetStays (N : Nat) (a0 : List Int) (a1 : List Int) (a2 : Int) (r : Bool) (h : narthexlaw01_SetStays N a0 a1 a2 = some r) : Nx.Call Try.prog 6 [.c (.slv (a0.map eI)), .c (.slv (a1.map eI)), .c (I a2)] [] fun r' _ => r' = .c (B r) := by
  refine Nx.Call.of_body Try.func6 rfl en6 Try.ntmps6 rfl (fun Γ hok => ?_)
  unfold narthexlaw01_SetStays at h
  refine Wp.seq ?_
  refine Wp.text [0, 1, 2] rfl rfl ?_ -- region 0
  refine TextR.assign rfl ?_
  refine TextR.done (.cons rfl (.cons rfl (.cons rfl .nil))) ?_
  refine Wp.seq ?_
  refine Wp.seq ?_
  obtain ⟨y1, hy1, h⟩ := bind_some h
  refine Wp.go false none [[], [], [], [(9, false)], [(9, false)], [(9, false)], [], [], [(14, false)], [(14, false)], [(14, false)], []] [] [0, 1, 2, 18] mixed rfl rfl (by kernel_rfl) ?_ -- region 1
  refine RunR.call rfl rfl rfl (fun H => c_narthexlaw01_awake N y1 hy1 H) ?_
  refine RunR.not rfl rfl rfl ?_
  refine RunR.move rfl rfl rfl ?_
  refine RunR.move rfl rfl rfl ?_
  refine RunR.lenM us22 rfl rfl rfl rfl ?_
  refine RunR.int rfl rfl rfl rfl rfl ?_
  refine RunR.pickOr rfl rfl rfl rfl ?_
  refine RunR.move rfl rfl rfl ?_
  refine RunR.move rfl rfl rfl ?_
  refine RunR.lenM us22 rfl rfl rfl rfl ?_
  refine RunR.int rfl rfl rfl rfl rfl ?_
  refine RunR.pickOr rfl rfl rfl rfl ?_
  refine RunR.doneQ (.cons rfl (.cons rfl (.cons rfl (.cons rfl .nil)))) ?_
  refine Wp.condM h rfl (fun hc1 h => ?_) (fun hc1 h => ?_)
  · refine Wp.seq ?_
    obtain ⟨y2, hy2, h⟩ := bind_some h
    refine Wp.text [6] rfl rfl ?_ -- region 2
    refine TextR.dcall rfl rfl (c_narthexlaw01_awake N y2 hy2 _) ?_
    refine TextR.assign rfl ?_
    refine TextR.done (.cons rfl .nil) ?_
    refine Wp.ret ?_
    obtain rfl := Option.some.inj h
    exact Ret.one rfl (resV_tmp rfl) rfl
  · refine Wp.skip ?_
    refine Wp.seq ?_
    obtain ⟨y3, hy3, h⟩ := bind_some h
    obtain ⟨y4, hy4, h⟩ := bind_some h
    obtain ⟨y5, hy5, h⟩ := bind_some h
    obtain ⟨y6, hy6, h⟩ := bind_some h
    obtain ⟨y7, hy7, h⟩ := bind_some h
    obtain ⟨y8, hy8, h⟩ := bind_some h
    obtain ⟨y9, hy9, h⟩ := bind_some h
    obtain ⟨y10, hy10, h⟩ := bind_some h
    obtain ⟨y11, hy11, h⟩ := bind_some h
    obtain ⟨y12, hy12, h⟩ := bind_some h
    obtain ⟨y13, hy13, h⟩ := bind_some h
    obtain ⟨y14, hy14, h⟩ := bind_some h
    obtain ⟨y15, hy15, h⟩ := bind_some h
    obtain ⟨y16, hy16, h⟩ := bind_some h
    obtain ⟨y17, hy17, h⟩ := bind_some h
    obtain ⟨y18, hy18, h⟩ := bind_some h
    obtain ⟨y19, hy19, h⟩ := bind_some h
    obtain ⟨y20, hy20, h⟩ := bind_some h
    obtain ⟨y21, hy21, h⟩ := bind_some h
    obtain ⟨y22, hy22, h⟩ := bind_some h
    obtain ⟨y23, hy23, h⟩ := bind_some h
    refine Wp.go false none [[], [], [], [], [], [(24, true)], [(24, true)], [(24, true)], [(24, true)], [(24, true)], [(24, true)], [], [], [(32, true)], [(32, true)], [(32, true)], [(32, true)], [(32, true)], [(32, true)], [], [], [(40, true)], [(40, true)], [(40, true)], [(40, true)], [(40, true)], [(40, true)], [], [], [(48, true)], [(48, true)], [(48, true)], [(48, true)], [(48, true)], [], [], [(55, true)], [(55, true)], [(55, true)], [(55, true)], [(55, true)], [], []] [] [6] mixed rfl rfl (by kernel_rfl) ?_ -- region 3
    refine RunR.move rfl rfl rfl ?_
    refine RunR.call rfl rfl rfl (fun H => c_narthexlaw01_own N a0 y3 hy3 H) ?_
    refine RunR.call rfl rfl rfl (fun H => c_set_Of N y3 y4 hy4 H) ?_
    refine RunR.call rfl rfl rfl (fun H => c_set_Valid N y4 y5 hy5 H) ?_
    refine RunR.move rfl rfl rfl ?_
    refine RunR.move rfl rfl rfl ?_
    refine RunR.callG rfl rfl rfl (fun hb H => c_narthexlaw01_own N a0 y6 (ifT hy6 gT hb) H) ?_
    refine RunR.move rfl rfl rfl ?_
    refine RunR.callG rfl rfl rfl (fun hb H => c_narthexlaw01_own N a1 y7 (ifT hy7 gT hb) H) ?_
    refine RunR.callG rfl rfl rfl (fun hb H => c_set_Union N y6 y7 y8 (ifT hy8 gT hb) H) ?_
    refine RunR.callG rfl rfl rfl (fun hb H => c_set_Valid N y8 y9 (ifT hy9 gT hb) H) ?_
    refine RunR.pickAnd rfl rfl rfl rfl ?_
    refine RunR.move rfl rfl rfl ?_
    refine RunR.move rfl rfl rfl ?_
    refine RunR.callG rfl rfl rfl (fun hb H => c_narthexlaw01_own N a0 y10 (ifT hy10 gT hb) H) ?_
    refine RunR.move rfl rfl rfl ?_
    refine RunR.callG rfl rfl rfl (fun hb H => c_narthexlaw01_own N a1 y11 (ifT hy11 gT hb) H) ?_
    refine RunR.callG rfl rfl rfl (fun hb H => c_set_Both N y10 y11 y12 (ifT hy12 gT hb) H) ?_
    refine RunR.callG rfl rfl rfl (fun hb H => c_set_Valid N y12 y13 (ifT hy13 gT hb) H) ?_
    refine RunR.pickAnd rfl rfl rfl rfl ?_
    refine RunR.move rfl rfl rfl ?_
    refine RunR.move rfl rfl rfl ?_
    refine RunR.callG rfl rfl rfl (fun hb H => c_narthexlaw01_own N a0 y14 (ifT hy14 gT hb) H) ?_
    refine RunR.move rfl rfl rfl ?_
    refine RunR.callG rfl rfl rfl (fun hb H => c_narthexlaw01_own N a1 y15 (ifT hy15 gT hb) H) ?_
    refine RunR.callG rfl rfl rfl (fun hb H => c_set_Minus N y14 y15 y16 (ifT hy16 gT hb) H) ?_
    refine RunR.callG rfl rfl rfl (fun hb H => c_set_Valid N y16 y17 (ifT hy17 gT hb) H) ?_
    refine RunR.pickAnd rfl rfl rfl rfl ?_
    refine RunR.move rfl rfl rfl ?_
    refine RunR.move rfl rfl rfl ?_
    refine RunR.callG rfl rfl rfl (fun hb H => c_narthexlaw01_own N a0 y18 (ifT hy18 gT hb) H) ?_
    refine RunR.move rfl rfl rfl ?_
    refine RunR.callG rfl rfl rfl (fun hb H => c_set_Add N y18 a2 y19 (ifT hy19 gT hb) H) ?_
    refine RunR.callG rfl rfl rfl (fun hb H => c_set_Valid N y19 y20 (ifT hy20 gT hb) H) ?_
    refine RunR.pickAnd rfl rfl rfl rfl ?_
    refine RunR.move rfl rfl rfl ?_
    refine RunR.move rfl rfl rfl ?_
    refine RunR.callG rfl rfl rfl (fun hb H => c_narthexlaw01_own N a0 y21 (ifT hy21 gT hb) H) ?_
    refine RunR.move rfl rfl rfl ?_
    refine RunR.callG rfl rfl rfl (fun hb H => c_set_Del N y21 a2 y22 (ifT hy22 gT hb) H) ?_
    refine RunR.callG rfl rfl rfl (fun hb H => c_set_Valid N y22 y23 (ifT hy23 gT hb) H) ?_
    refine RunR.pickAnd rfl rfl rfl rfl ?_
    refine RunR.assign rfl rfl rfl ?_
    refine RunR.doneQ (.cons rfl .nil) ?_
    refine Wp.ret ?_
    obtain rfl := Option.some.inj h
    exact Ret.one rfl (resV_tmp rfl) rfl
theorem c_narthexlaw01_SetStays (N : Nat) (a0 : List Int) (a1 : List Int) (a2 : Int) (r : Bool) (h : narthexlaw01_SetStays N a0 a1 a2 = some r) (H : List Ob) : DCall Try.prog 6 [.c (.slv (a0.map eI)), .c (.slv (a1.map eI)), .c (I a2)] H (.c (B r)) := DCall.lift (by first | rfl | simp [List.map_take, List.map_drop, rvL, rvK, bwL, hfVs, hfV, hfL, hfAll, hfRows, mvV, mvL, mv0, sh0, mvO, mpE, mpV, mpVs, mpO, fzL, rnL, rn0, ok0, nzI, nzB, nzN, nzF, nzP, nzO, nzQ, nzC, shL, shV, shO, okV, okL, okO, List.take_of_length_le, h_I, hfRows_map h_I, ok_eI, okR_eI, fx_eI, fxR_eI, h_L_I, hfRows_map h_L_I, ok_eL_I, okR_eL_I, fx_eL_I, fxR_eL_I, -List.map_set]) (by first | rfl | simp [List.map_take, List.map_drop, rvL, rvK, bwL, hfVs, hfV, hfL, hfAll, hfRows, mvV, mvL, mv0, sh0, mvO, mpE, mpV, mpVs, mpO, fzL, rnL, rn0, ok0, nzI, nzB, nzN, nzF, nzP, nzO, nzQ, nzC, shL, shV, shO, okV, okL, okO, List.take_of_length_le, h_I, hfRows_map h_I, ok_eI, okR_eI, fx_eI, fxR_eI, h_L_I, hfRows_map h_L_I, ok_eL_I, okR_eL_I, fx_eL_I, fxR_eL_I, -List.map_set]) (fun _ => by simp [List.map_take, List.map_drop, rvL, rvK, bwL, hfVs, hfV, hfL, hfAll, hfRows, mvV, mvL, mv0, sh0, mvO, mpE, mpV, mpVs, mpO, fzL, rnL, rn0, ok0, nzI, nzB, nzN, nzF, nzP, nzO, nzQ, nzC, shL, shV, shO, okV, okL, okO, List.take_of_length_le, h_I, hfRows_map h_I, ok_eI, okR_eI, fx_eI, fxR_eI, h_L_I, hfRows_map h_L_I, ok_eL_I, okR_eL_I, fx_eL_I, fxR_eL_I, -List.map_set]) (w_narthexlaw01_SetStays N a0 a1 a2 r h) H
-- narthex/narthexlaw01.SetSame
theorem w_narthexlaw01_SetSame (N : Nat) (a0 : List Int) (a1 : List Int) (r : Bool) (h : narthexlaw01_SetSame N a0 a1 = some r) : Nx.Call Try.prog 7 [.c (.slv (a0.map eI)), .c (.slv (a1.map eI))] [] fun r' _ => r' = .c (B r) := by
  refine Nx.Call.of_body Try.func7 rfl en7 Try.ntmps7 rfl (fun Γ hok => ?_)
  unfold narthexlaw01_SetSame at h
  refine Wp.seq ?_
  refine Wp.text [0, 1] rfl rfl ?_ -- region 0
  refine TextR.assign rfl ?_
  refine TextR.done (.cons rfl (.cons rfl .nil)) ?_
  refine Wp.seq ?_
  refine Wp.seq ?_
  obtain ⟨y1, hy1, h⟩ := bind_some h
  refine Wp.go false none [[], [], [], [(8, false)], [(8, false)], [(8, false)], [], [], [(13, false)], [(13, false)], [(13, false)], []] [] [0, 1, 17] mixed rfl rfl (by kernel_rfl) ?_ -- region 1
  refine RunR.call rfl rfl rfl (fun H => c_narthexlaw01_awake N y1 hy1 H) ?_
  refine RunR.not rfl rfl rfl ?_
  refine RunR.move rfl rfl rfl ?_
  refine RunR.move rfl rfl rfl ?_
  refine RunR.lenM us22 rfl rfl rfl rfl ?_
  refine RunR.int rfl rfl rfl rfl rfl ?_
  refine RunR.pickOr rfl rfl rfl rfl ?_
  refine RunR.move rfl rfl rfl ?_
  refine RunR.move rfl rfl rfl ?_
  refine RunR.lenM us22 rfl rfl rfl rfl ?_
  refine RunR.int rfl rfl rfl rfl rfl ?_
  refine RunR.pickOr rfl rfl rfl rfl ?_
  refine RunR.doneQ (.cons rfl (.cons rfl (.cons rfl .nil))) ?_
  refine Wp.condM h rfl (fun hc1 h => ?_) (fun hc1 h => ?_)
  · refine Wp.seq ?_
    obtain ⟨y2, hy2, h⟩ := bind_some h
    refine Wp.text [4] rfl rfl ?_ -- region 2
    refine TextR.dcall rfl rfl (c_narthexlaw01_awake N y2 hy2 _) ?_
    refine TextR.assign rfl ?_
    refine TextR.done (.cons rfl .nil) ?_
    refine Wp.ret ?_
    obtain rfl := Option.some.inj h
    exact Ret.one rfl (resV_tmp rfl) rfl
  · refine Wp.skip ?_
    refine Wp.seq ?_
    obtain ⟨y3, hy3, h⟩ := bind_some h
    obtain ⟨y4, hy4, h⟩ := bind_some h
    obtain ⟨y5, hy5, h⟩ := bind_some h
    obtain ⟨y6, hy6, h⟩ := bind_some h
    obtain ⟨y7, hy7, h⟩ := bind_some h
    obtain ⟨y8, hy8, h⟩ := bind_some h
    refine Wp.go false none [[], [], [], [], [], [], [(24, true)], [(24, true)], [(24, true)], [(24, true)], [(24, true)], [], []] [] [0, 1, 5] mixed rfl rfl (by kernel_rfl) ?_ -- region 3
    refine RunR.move rfl rfl rfl ?_
    refine RunR.call rfl rfl rfl (fun H => c_narthexlaw01_own N a0 y3 hy3 H) ?_
    refine RunR.move rfl rfl rfl ?_
    refine RunR.call rfl rfl rfl (fun H => c_narthexlaw01_own N a1 y4 hy4 H) ?_
    refine RunR.call rfl rfl rfl (fun H => c_set_Within N y3 y4 y5 hy5 H) ?_
    refine RunR.move rfl rfl rfl ?_
    refine RunR.move rfl rfl rfl ?_
    refine RunR.callG rfl rfl rfl (fun hb H => c_narthexlaw01_own N a1 y6 (ifT hy6 gT hb) H) ?_
    refine RunR.move rfl rfl rfl ?_
    refine RunR.callG rfl rfl rfl (fun hb H => c_narthexlaw01_own N a0 y7 (ifT hy7 gT hb) H) ?_
    refine RunR.callG rfl rfl rfl (fun hb H => c_set_Within N y6 y7 y8 (ifT hy8 gT hb) H) ?_
    refine RunR.pickAnd rfl rfl rfl rfl ?_
    refine RunR.assign rfl rfl rfl ?_
    refine RunR.doneQ (.cons rfl (.cons rfl (.cons rfl .nil))) ?_
    refine Wp.seq ?_
    obtain ⟨y9, hy9, h⟩ := bind_some h
    obtain ⟨y10, hy10, h⟩ := bind_some h
    obtain ⟨y11, hy11, h⟩ := bind_some h
    obtain ⟨y12, hy12, h⟩ := bind_some h
    obtain ⟨y13, hy13, h⟩ := bind_some h
    obtain ⟨y14, hy14, h⟩ := bind_some h
    obtain ⟨y15, hy15, h⟩ := bind_some h
    obtain ⟨y16, hy16, h⟩ := bind_some h
    obtain ⟨y17, hy17, h⟩ := bind_some h
    obtain ⟨y18, hy18, h⟩ := bind_some h
    obtain ⟨y19, hy19, h⟩ := bind_some h
    obtain ⟨y20, hy20, h⟩ := bind_some h
    obtain ⟨y21, hy21, h⟩ := bind_some h
    obtain ⟨y22, hy22, h⟩ := bind_some h
    obtain ⟨y23, hy23, h⟩ := bind_some h
    obtain ⟨y24, hy24, h⟩ := bind_some h
    obtain ⟨y25, hy25, h⟩ := bind_some h
    obtain ⟨y26, hy26, h⟩ := bind_some h
    obtain ⟨y27, hy27, h⟩ := bind_some h
    refine Wp.go false none [[], [], [], [], [], [], [], [], [], [], [(40, true)], [(40, true)], [(40, true)], [(40, true)], [(40, true)], [(40, true)], [(40, true)], [(40, true)], [(40, true)], [(40, true)], [(40, true)], [], [], [(53, true)], [(53, true)], [(53, true)], [(53, true)], [(53, true)], [(53, true)], [(53, true)], [(53, true)], [(53, true)], [(53, true)], [(53, true)], [], []] [] [4] mixed rfl rfl (by kernel_rfl) ?_ -- region 4
    refine RunR.move rfl rfl rfl ?_
    refine RunR.move rfl rfl rfl ?_
    refine RunR.call rfl rfl rfl (fun H => c_narthexlaw01_own N a0 y9 hy9 H) ?_
    refine RunR.call rfl rfl rfl (fun H => c_set_Of N y9 y10 hy10 H) ?_
    refine RunR.move rfl rfl rfl ?_
    refine RunR.call rfl rfl rfl (fun H => c_narthexlaw01_own N a1 y11 hy11 H) ?_
    refine RunR.call rfl rfl rfl (fun H => c_set_Of N y11 y12 hy12 H) ?_
    refine RunR.call rfl rfl rfl (fun H => c_narthexref01_Same N y10 y12 y13 hy13 H) ?_
    refine RunR.eqBool (by kernel_rfl) rfl rfl rfl rfl ?_
    refine RunR.move rfl rfl rfl ?_
    refine RunR.move rfl rfl rfl ?_
    refine RunR.callG rfl rfl rfl (fun hb H => c_narthexlaw01_own N a0 y14 (ifT hy14 gT hb) H) ?_
    refine RunR.move rfl rfl rfl ?_
    refine RunR.callG rfl rfl rfl (fun hb H => c_narthexlaw01_own N a1 y15 (ifT hy15 gT hb) H) ?_
    refine RunR.callG rfl rfl rfl (fun hb H => c_set_Union N y14 y15 y16 (ifT hy16 gT hb) H) ?_
    refine RunR.move rfl rfl rfl ?_
    refine RunR.callG rfl rfl rfl (fun hb H => c_narthexlaw01_own N a1 y17 (ifT hy17 gT hb) H) ?_
    refine RunR.move rfl rfl rfl ?_
    refine RunR.callG rfl rfl rfl (fun hb H => c_narthexlaw01_own N a0 y18 (ifT hy18 gT hb) H) ?_
    refine RunR.callG rfl rfl rfl (fun hb H => c_set_Union N y17 y18 y19 (ifT hy19 gT hb) H) ?_
    refine RunR.callG rfl rfl rfl (fun hb H => c_narthexref01_Same N y16 y19 y20 (ifT hy20 gT hb) H) ?_
    refine RunR.pickAnd rfl rfl rfl rfl ?_
    refine RunR.move rfl rfl rfl ?_
    refine RunR.move rfl rfl rfl ?_
    refine RunR.callG rfl rfl rfl (fun hb H => c_narthexlaw01_own N a0 y21 (ifT hy21 gT hb) H) ?_
    refine RunR.move rfl rfl rfl ?_
    refine RunR.callG rfl rfl rfl (fun hb H => c_narthexlaw01_own N a1 y22 (ifT hy22 gT hb) H) ?_
    refine RunR.callG rfl rfl rfl (fun hb H => c_set_Both N y21 y22 y23 (ifT hy23 gT hb) H) ?_
    refine RunR.move rfl rfl rfl ?_
    refine RunR.callG rfl rfl rfl (fun hb H => c_narthexlaw01_own N a1 y24 (ifT hy24 gT hb) H) ?_
    refine RunR.move rfl rfl rfl ?_
    refine RunR.callG rfl rfl rfl (fun hb H => c_narthexlaw01_own N a0 y25 (ifT hy25 gT hb) H) ?_
    refine RunR.callG rfl rfl rfl (fun hb H => c_set_Both N y24 y25 y26 (ifT hy26 gT hb) H) ?_
    refine RunR.callG rfl rfl rfl (fun hb H => c_narthexref01_Same N y23 y26 y27 (ifT hy27 gT hb) H) ?_
    refine RunR.pickAnd rfl rfl rfl rfl ?_
    refine RunR.assign rfl rfl rfl ?_
    refine RunR.doneQ (.cons rfl .nil) ?_
    refine Wp.ret ?_
    obtain rfl := Option.some.inj h
    exact Ret.one rfl (resV_tmp rfl) rfl
theorem c_narthexlaw01_SetSame (N : Nat) (a0 : List Int) (a1 : List Int) (r : Bool) (h : narthexlaw01_SetSame N a0 a1 = some r) (H : List Ob) : DCall Try.prog 7 [.c (.slv (a0.map eI)), .c (.slv (a1.map eI))] H (.c (B r)) := DCall.lift (by first | rfl | simp [List.map_take, List.map_drop, rvL, rvK, bwL, hfVs, hfV, hfL, hfAll, hfRows, mvV, mvL, mv0, sh0, mvO, mpE, mpV, mpVs, mpO, fzL, rnL, rn0, ok0, nzI, nzB, nzN, nzF, nzP, nzO, nzQ, nzC, shL, shV, shO, okV, okL, okO, List.take_of_length_le, h_I, hfRows_map h_I, ok_eI, okR_eI, fx_eI, fxR_eI, h_L_I, hfRows_map h_L_I, ok_eL_I, okR_eL_I, fx_eL_I, fxR_eL_I, -List.map_set]) (by first | rfl | simp [List.map_take, List.map_drop, rvL, rvK, bwL, hfVs, hfV, hfL, hfAll, hfRows, mvV, mvL, mv0, sh0, mvO, mpE, mpV, mpVs, mpO, fzL, rnL, rn0, ok0, nzI, nzB, nzN, nzF, nzP, nzO, nzQ, nzC, shL, shV, shO, okV, okL, okO, List.take_of_length_le, h_I, hfRows_map h_I, ok_eI, okR_eI, fx_eI, fxR_eI, h_L_I, hfRows_map h_L_I, ok_eL_I, okR_eL_I, fx_eL_I, fxR_eL_I, -List.map_set]) (fun _ => by simp [List.map_take, List.map_drop, rvL, rvK, bwL, hfVs, hfV, hfL, hfAll, hfRows, mvV, mvL, mv0, sh0, mvO, mpE, mpV, mpVs, mpO, fzL, rnL, rn0, ok0, nzI, nzB, nzN, nzF, nzP, nzO, nzQ, nzC, shL, shV, shO, okV, okL, okO, List.take_of_length_le, h_I, hfRows_map h_I, ok_eI, okR_eI, fx_eI, fxR_eI, h_L_I, hfRows_map h_L_I, ok_eL_I, okR_eL_I, fx_eL_I, fxR_eL_I, -List.map_set]) (w_narthexlaw01_SetSame N a0 a1 r h) H
-- narthex/narthexlaw01.SetParts
theorem w_narthexlaw01_SetParts (N : Nat) (a0 : List Int) (a1 : List Int) (r : Bool) (h : narthexlaw01_SetParts N a0 a1 = some r) : Nx.Call Try.prog 8 [.c (.slv (a0.map eI)), .c (.slv (a1.map eI))] [] fun r' _ => r' = .c (B r) := by
  refine Nx.Call.of_body Try.func8 rfl en8 Try.ntmps8 rfl (fun Γ hok => ?_)
  unfold narthexlaw01_SetParts at h
  refine Wp.seq ?_
  refine Wp.text [0, 1] rfl rfl ?_ -- region 0
  refine TextR.assign rfl ?_
  refine TextR.done (.cons rfl (.cons rfl .nil)) ?_
  refine Wp.seq ?_
  refine Wp.seq ?_
  obtain ⟨y1, hy1, h⟩ := bind_some h
  refine Wp.go false none [[], [], [], [(9, false)], [(9, false)], [(9, false)], [], [], [(14, false)], [(14, false)], [(14, false)], []] [] [0, 1, 18] mixed rfl rfl (by kernel_rfl) ?_ -- region 1
  refine RunR.call rfl rfl rfl (fun H => c_narthexlaw01_awake N y1 hy1 H) ?_
  refine RunR.not rfl rfl rfl ?_
  refine RunR.move rfl rfl rfl ?_
  refine RunR.move rfl rfl rfl ?_
  refine RunR.lenM us22 rfl rfl rfl rfl ?_
  refine RunR.int rfl rfl rfl rfl rfl ?_
  refine RunR.pickOr rfl rfl rfl rfl ?_
  refine RunR.move rfl rfl rfl ?_
  refine RunR.move rfl rfl rfl ?_
  refine RunR.lenM us22 rfl rfl rfl rfl ?_
  refine RunR.int rfl rfl rfl rfl rfl ?_
  refine RunR.pickOr rfl rfl rfl rfl ?_
  refine RunR.doneQ (.cons rfl (.cons rfl (.cons rfl .nil))) ?_
  refine Wp.condM h rfl (fun hc1 h => ?_) (fun hc1 h => ?_)
  · refine Wp.seq ?_
    obtain ⟨y2, hy2, h⟩ := bind_some h
    refine Wp.text [4] rfl rfl ?_ -- region 2
    refine TextR.dcall rfl rfl (c_narthexlaw01_awake N y2 hy2 _) ?_
    refine TextR.assign rfl ?_
    refine TextR.done (.cons rfl .nil) ?_
    refine Wp.ret ?_
    obtain rfl := Option.some.inj h
    exact Ret.one rfl (resV_tmp rfl) rfl
  · refine Wp.skip ?_
    refine Wp.seq ?_
    obtain ⟨y3, hy3, h⟩ := bind_some h
    obtain ⟨y4, hy4, h⟩ := bind_some h
    obtain ⟨y5, hy5, h⟩ := bind_some h
    obtain ⟨y6, hy6, h⟩ := bind_some h
    obtain ⟨y7, hy7, h⟩ := bind_some h
    obtain ⟨y8, hy8, h⟩ := bind_some h
    refine Wp.text [0, 5, 6] rfl rfl ?_ -- region 3
    refine TextR.move rfl ?_
    refine TextR.dcall rfl rfl (c_narthexlaw01_own N a0 y3 hy3 _) ?_
    refine TextR.move rfl ?_
    refine TextR.dcall rfl rfl (c_narthexlaw01_own N a1 y4 hy4 _) ?_
    refine TextR.dcall rfl rfl (c_set_Both N y3 y4 y5 hy5 _) ?_
    refine TextR.move rfl ?_
    refine TextR.dcall rfl rfl (c_narthexlaw01_own N a0 y6 hy6 _) ?_
    refine TextR.move rfl ?_
    refine TextR.dcall rfl rfl (c_narthexlaw01_own N a1 y7 hy7 _) ?_
    refine TextR.dcall rfl rfl (c_set_Minus N y6 y7 y8 hy8 _) ?_
    refine TextR.assign rfl ?_
    refine TextR.assign rfl ?_
    refine TextR.done (.cons rfl (.cons rfl (.cons rfl .nil))) ?_
    refine Wp.seq ?_
    obtain ⟨y9, hy9, h⟩ := bind_some h
    obtain ⟨y10, hy10, h⟩ := bind_some h
    obtain ⟨y11, hy11, h⟩ := bind_some h
    obtain ⟨y12, hy12, h⟩ := bind_some h
    obtain ⟨y13, hy13, h⟩ := bind_some h
    obtain ⟨y14, hy14, h⟩ := bind_some h
    obtain ⟨y15, hy15, h⟩ := bind_some h
    refine Wp.go false none [[], [], [], [], [], [], [], [], [(37, true)], [(37, true)], [(37, true)], [(37, true)], [(37, true)], [(37, true)], [(37, true)], [(37, true)], [(37, true)], [(37, true)], [], [], [(49, true)], [(49, true)], [(49, true)], [(49, true)], [(49, true)], [], []] [] [4] mixed rfl rfl (by kernel_rfl) ?_ -- region 4
    refine RunR.move rfl rfl rfl ?_
    refine RunR.move rfl rfl rfl ?_
    refine RunR.call rfl rfl rfl (fun H => c_set_Union N y5 y8 y9 hy9 H) ?_
    refine RunR.move rfl rfl rfl ?_
    refine RunR.call rfl rfl rfl (fun H => c_narthexlaw01_own N a0 y10 hy10 H) ?_
    refine RunR.call rfl rfl rfl (fun H => c_set_Of N y10 y11 hy11 H) ?_
    refine RunR.call rfl rfl rfl (fun H => c_narthexref01_Same N y9 y11 y12 hy12 H) ?_
    refine RunR.move rfl rfl rfl ?_
    refine RunR.move rfl rfl rfl ?_
    refine RunR.lenM us22 rfl rfl rfl rfl ?_
    refine RunR.move rfl rfl rfl ?_
    refine RunR.lenM us22 rfl rfl rfl rfl ?_
    refine RunR.int rfl rfl rfl rfl rfl ?_
    refine RunR.move rfl rfl rfl ?_
    refine RunR.callG rfl rfl rfl (fun hb H => c_narthexlaw01_own N a0 y13 (ifT hy13 gT hb) H) ?_
    refine RunR.callG rfl rfl rfl (fun hb H => c_set_Of N y13 y14 (ifT hy14 gT hb) H) ?_
    refine RunR.lenM us22 rfl rfl rfl rfl ?_
    refine RunR.int rfl rfl rfl rfl rfl ?_
    refine RunR.pickAnd rfl rfl rfl rfl ?_
    refine RunR.move rfl rfl rfl ?_
    refine RunR.move rfl rfl rfl ?_
    refine RunR.move rfl rfl rfl ?_
    refine RunR.callG rfl rfl rfl (fun hb H => c_set_Both N y5 y8 y15 (ifT hy15 gT hb) H) ?_
    refine RunR.lenM us22 rfl rfl rfl rfl ?_
    refine RunR.int rfl rfl rfl rfl rfl ?_
    refine RunR.pickAnd rfl rfl rfl rfl ?_
    refine RunR.assign rfl rfl rfl ?_
    refine RunR.doneQ (.cons rfl .nil) ?_
    refine Wp.ret ?_
    obtain rfl := Option.some.inj h
    exact Ret.one rfl (resV_tmp rfl) rfl
theorem c_narthexlaw01_SetParts (N : Nat) (a0 : List Int) (a1 : List Int) (r : Bool) (h : narthexlaw01_SetParts N a0 a1 = some r) (H : List Ob) : DCall Try.prog 8 [.c (.slv (a0.map eI)), .c (.slv (a1.map eI))] H (.c (B r)) := DCall.lift (by first | rfl | simp [List.map_take, List.map_drop, rvL, rvK, bwL, hfVs, hfV, hfL, hfAll, hfRows, mvV, mvL, mv0, sh0, mvO, mpE, mpV, mpVs, mpO, fzL, rnL, rn0, ok0, nzI, nzB, nzN, nzF, nzP, nzO, nzQ, nzC, shL, shV, shO, okV, okL, okO, List.take_of_length_le, h_I, hfRows_map h_I, ok_eI, okR_eI, fx_eI, fxR_eI, h_L_I, hfRows_map h_L_I, ok_eL_I, okR_eL_I, fx_eL_I, fxR_eL_I, -List.map_set]) (by first | rfl | simp [List.map_take, List.map_drop, rvL, rvK, bwL, hfVs, hfV, hfL, hfAll, hfRows, mvV, mvL, mv0, sh0, mvO, mpE, mpV, mpVs, mpO, fzL, rnL, rn0, ok0, nzI, nzB, nzN, nzF, nzP, nzO, nzQ, nzC, shL, shV, shO, okV, okL, okO, List.take_of_length_le, h_I, hfRows_map h_I, ok_eI, okR_eI, fx_eI, fxR_eI, h_L_I, hfRows_map h_L_I, ok_eL_I, okR_eL_I, fx_eL_I, fxR_eL_I, -List.map_set]) (fun _ => by simp [List.map_take, List.map_drop, rvL, rvK, bwL, hfVs, hfV, hfL, hfAll, hfRows, mvV, mvL, mv0, sh0, mvO, mpE, mpV, mpVs, mpO, fzL, rnL, rn0, ok0, nzI, nzB, nzN, nzF, nzP, nzO, nzQ, nzC, shL, shV, shO, okV, okL, okO, List.take_of_length_le, h_I, hfRows_map h_I, ok_eI, okR_eI, fx_eI, fxR_eI, h_L_I, hfRows_map h_L_I, ok_eL_I, okR_eL_I, fx_eL_I, fxR_eL_I, -List.map_set]) (w_narthexlaw01_SetParts N a0 a1 r h) H
-- narthex/narthexlaw01.SetPlaces
theorem w_narthexlaw01_SetPlaces (N : Nat) (a0 : List Int) (a1 : Int) (r : Bool) (h : narthexlaw01_SetPlaces N a0 a1 = some r) : Nx.Call Try.prog 9 [.c (.slv (a0.map eI)), .c (I a1)] [] fun r' _ => r' = .c (B r) := by
  refine Nx.Call.of_body Try.func9 rfl en9 Try.ntmps9 rfl (fun Γ hok => ?_)
  unfold narthexlaw01_SetPlaces at h
  refine Wp.seq ?_
  refine Wp.text [0, 1] rfl rfl ?_ -- region 0
  refine TextR.assign rfl ?_
  refine TextR.done (.cons rfl (.cons rfl .nil)) ?_
  refine Wp.seq ?_
  refine Wp.seq ?_
  obtain ⟨y1, hy1, h⟩ := bind_some h
  refine Wp.go false none [[], [], [], [(10, false)], [(10, false)], [(10, false)], []] [] [0, 1, 14] mixed rfl rfl (by kernel_rfl) ?_ -- region 1
  refine RunR.call rfl rfl rfl (fun H => c_narthexlaw01_awake N y1 hy1 H) ?_
  refine RunR.not rfl rfl rfl ?_
  refine RunR.move rfl rfl rfl ?_
  refine RunR.move rfl rfl rfl ?_
  refine RunR.lenM us22 rfl rfl rfl rfl ?_
  refine RunR.int rfl rfl rfl rfl rfl ?_
  refine RunR.pickOr rfl rfl rfl rfl ?_
  refine RunR.doneQ (.cons rfl (.cons rfl (.cons rfl .nil))) ?_
  refine Wp.condM h rfl (fun hc1 h => ?_) (fun hc1 h => ?_)
  · refine Wp.seq ?_
    obtain ⟨y2, hy2, h⟩ := bind_some h
    refine Wp.text [4] rfl rfl ?_ -- region 2
    refine TextR.dcall rfl rfl (c_narthexlaw01_awake N y2 hy2 _) ?_
    refine TextR.assign rfl ?_
    refine TextR.done (.cons rfl .nil) ?_
    refine Wp.ret ?_
    obtain rfl := Option.some.inj h
    exact Ret.one rfl (resV_tmp rfl) rfl
  · refine Wp.skip ?_
    refine Wp.seq ?_
    obtain ⟨y3, hy3, h⟩ := bind_some h
    obtain ⟨y4, hy4, h⟩ := bind_some h
    refine Wp.text [0, 1, 5] rfl rfl ?_ -- region 3
    refine TextR.move rfl ?_
    refine TextR.dcall rfl rfl (c_narthexlaw01_own N a0 y3 hy3 _) ?_
    refine TextR.dcall rfl rfl (c_set_Of N y3 y4 hy4 _) ?_
    refine TextR.assign rfl ?_
    refine TextR.done (.cons rfl (.cons rfl (.cons rfl .nil))) ?_
    refine Wp.seq ?_
    refine Wp.seq ?_
    refine Wp.text [0, 1, 5, 6] rfl rfl ?_ -- region 4
    refine TextR.assign rfl ?_
    refine TextR.done (.cons rfl (.cons rfl (.cons rfl (.cons rfl .nil)))) ?_
    obtain ⟨z5, hz5, h⟩ := bind_some h
    refine Wp.fragR (fun S => ∃ z7, z5 = .inr z7 ∧ ∃ S', St.Weak ⟨Try.prog, 73, Γ⟩ S S' ∧ S' = ⟨[(0, .c (.slv (a0.map eI))), (1, .c (I a1)), (5, .c (.slv (y4.map eI)))], []⟩) (fun S => ∃ v, z5 = .inl v ∧ Ret Try.prog Try.f9 (fun r' _ => r' = .c (B v)) .ret S) ?_ ?_ ?_
    · replace h := hz5
      refine Wp.block ?_
      refine Wp.weak (keepW (live := [0, 1, 5, 6]) (.cons rfl (.cons rfl (.cons rfl (.cons rfl .nil))))) ?_
      refine Wp.loop (fun m S => ∃ s6_1, narthexlaw01_SetPlaces_L1 N a0 y4 m s6_1 = some z5 ∧ S = ⟨[(0, .c (.slv (a0.map eI))), (1, .c (I a1)), (5, .c (.slv (y4.map eI))), (6, .c (I s6_1))], []⟩) N ⟨_, h, rfl⟩ ?_
      rintro m1 _ ⟨s6_1, h, rfl⟩
      cases m1 with
      | zero => rw [narthexlaw01_SetPlaces_L1.eq_1] at h; cases h
      | succ m1 =>
      rw [narthexlaw01_SetPlaces_L1.eq_2] at h
      refine Wp.seq ?_
      refine Wp.seq ?_
      refine Wp.text [0, 1, 5, 6, 22] rfl rfl ?_ -- region 5
      refine TextR.move rfl ?_
      refine TextR.move rfl ?_
      refine TextR.lenM us22 rfl rfl ?_
      refine TextR.int rfl rfl rfl ?_
      refine TextR.done (.cons rfl (.cons rfl (.cons rfl (.cons rfl (.cons rfl .nil))))) ?_
      refine Wp.condM h rfl (fun hc3 h => ?_) (fun hc3 h => ?_)
      · refine Wp.skip ?_
        refine Wp.seq ?_
        refine Wp.block ?_
        refine Wp.seq ?_
        obtain ⟨y8, hy8, h⟩ := bind_some h
        obtain ⟨x9, hx9, h⟩ := bind_some h
        obtain ⟨y10, hy10, h⟩ := bind_some h
        refine Wp.go true (some []) [] [] [0, 1, 5, 6, 33] mixed rfl rfl (by kernel_rfl) ?_ -- region 7
        refine RunR.move rfl rfl rfl ?_
        refine RunR.call rfl rfl rfl (fun H => c_narthexlaw01_own N a0 y8 hy8 H) ?_
        refine RunR.move rfl rfl rfl ?_
        refine RunR.move rfl rfl rfl ?_
        refine RunR.indexA se22 rfl rfl rfl rfl rfl hx9 rfl ?_
        refine RunR.load1M tk3 rfl rfl rfl (at_get hx9) rfl ?_
        refine RunR.call rfl rfl rfl (fun H => c_set_Place N y8 x9 y10 hy10 H) ?_
        refine RunR.move rfl rfl rfl ?_
        refine RunR.int rfl rfl rfl rfl rfl ?_
        refine RunR.doneQ (.cons rfl (.cons rfl (.cons rfl (.cons rfl (.cons rfl .nil))))) ?_
        refine Wp.condM h rfl (fun hc4 h => ?_) (fun hc4 h => ?_)
        · refine Wp.seq ?_
          refine Wp.text [4] rfl rfl ?_ -- region 8
          refine TextR.assign rfl ?_
          refine TextR.done (.cons rfl .nil) ?_
          refine Wp.ret ?_
          exact ⟨_, (Option.some.inj h).symm, Ret.one rfl (resV_tmp rfl) rfl⟩
        · refine Wp.skip ?_
          refine Wp.text [0, 1, 5, 6] rfl rfl ?_ -- region 6
          refine TextR.move rfl ?_
          refine TextR.int rfl rfl rfl ?_
          refine TextR.assign rfl ?_
          refine TextR.done (.cons rfl (.cons rfl (.cons rfl (.cons rfl .nil)))) ?_
          exact ⟨m1, Nat.lt_succ_self _, _, (keepW (live := [0, 1, 5, 6]) (.cons rfl (.cons rfl (.cons rfl (.cons rfl .nil))))), _, h, rfl⟩
      · refine Wp.exit ?_
        exact ⟨_, (Option.some.inj h).symm, _, (keepW (live := [0, 1, 5]) (.cons rfl (.cons rfl (.cons rfl .nil)))), rfl⟩
    · rintro _ ⟨z7, rfl, _, hw, rfl⟩
      dsimp only at h
      clear hz5
      refine Wp.weak hw ?_
      refine Wp.seq ?_
      obtain ⟨y11, hy11, h⟩ := bind_some h
      obtain ⟨y12, hy12, h⟩ := bind_some h
      refine Wp.text [1, 5, 7] rfl rfl ?_ -- region 9
      refine TextR.move rfl ?_
      refine TextR.dcall rfl rfl (c_narthexlaw01_own N a0 y11 hy11 _) ?_
      refine TextR.move rfl ?_
      refine TextR.dcall rfl rfl (c_set_Place N y11 a1 y12 hy12 _) ?_
      refine TextR.assign rfl ?_
      refine TextR.done (.cons rfl (.cons rfl (.cons rfl .nil))) ?_
      refine Wp.seq ?_
      obtain ⟨x13, hx13, h⟩ := bind_some h
      obtain ⟨x14, hx14, h⟩ := bind_some h
      refine Wp.go false none [[], [], [], [(40, true)], [(40, true)], [(40, true)], [(40, true)], [], [], [(46, true)], [(46, true)], [(46, true)], [(46, true)], [(46, true)], [(51, false), (46, true)], [(51, false), (46, true)], [(51, false), (46, true)], [(51, false), (46, true)], [(51, false), (46, true)], [(51, false), (46, true)], [(46, true)], [], [], [(60, true)], [(60, true)], [(60, true)], [(63, false), (60, true)], [(63, false), (60, true)], [(63, false), (60, true)], [(63, false), (60, true)], [(63, false), (60, true)], [(63, false), (60, true)], [(63, false), (60, true)], [(60, true)], [], []] [] [4] mixed rfl rfl (by kernel_rfl) ?_ -- region 10
      refine RunR.move rfl rfl rfl ?_
      refine RunR.int rfl rfl rfl rfl rfl ?_
      refine RunR.move rfl rfl rfl ?_
      refine RunR.move rfl rfl rfl ?_
      refine RunR.move rfl rfl rfl ?_
      refine RunR.lenM us22 rfl rfl rfl rfl ?_
      refine RunR.int rfl rfl rfl rfl rfl ?_
      refine RunR.pickAnd rfl rfl rfl rfl ?_
      refine RunR.move rfl rfl rfl ?_
      refine RunR.move rfl rfl rfl ?_
      refine RunR.move rfl rfl rfl ?_
      refine RunR.lenM us22 rfl rfl rfl rfl ?_
      refine RunR.int rfl rfl rfl rfl rfl ?_
      refine RunR.move rfl rfl rfl ?_
      refine RunR.move rfl rfl rfl ?_
      refine RunR.move rfl rfl rfl ?_
      refine RunR.indexAG se22 rfl rfl rfl rfl rfl (ifPos hx13 (fun hb => (gAnd (gT (gN hb)) (gF hb)))) (ifAt hx13 (fun hb => (gAnd (gT (gN hb)) (gF hb)))) rfl ?_
      refine RunR.load1G tk3 rfl rfl rfl (ifAt hx13 (fun hb => (gAnd (gT (gN hb)) (gF hb)))) rfl ?_
      refine RunR.move rfl rfl rfl ?_
      refine RunR.int rfl rfl rfl rfl rfl ?_
      refine RunR.pickOr rfl rfl rfl rfl ?_
      refine RunR.pickAnd rfl rfl rfl rfl ?_
      refine RunR.move rfl rfl rfl ?_
      refine RunR.move rfl rfl rfl ?_
      refine RunR.int rfl rfl rfl rfl rfl ?_
      refine RunR.move rfl rfl rfl ?_
      refine RunR.move rfl rfl rfl ?_
      refine RunR.move rfl rfl rfl ?_
      refine RunR.int rfl rfl rfl rfl rfl ?_
      refine RunR.indexAG se22 rfl rfl rfl rfl rfl (ifPos hx14 (fun hb => (gAnd (gT (gN hb)) (gF hb)))) (ifAt hx14 (fun hb => (gAnd (gT (gN hb)) (gF hb)))) rfl ?_
      refine RunR.load1G tk3 rfl rfl rfl (ifAt hx14 (fun hb => (gAnd (gT (gN hb)) (gF hb)))) rfl ?_
      refine RunR.move rfl rfl rfl ?_
      refine RunR.int rfl rfl rfl rfl rfl ?_
      refine RunR.pickOr rfl rfl rfl rfl ?_
      refine RunR.pickAnd rfl rfl rfl rfl ?_
      refine RunR.assign rfl rfl rfl ?_
      refine RunR.doneQ (.cons rfl .nil) ?_
      refine Wp.ret ?_
      obtain rfl := Option.some.inj h
      exact Ret.one rfl (resV_tmp rfl) rfl
    · rintro S' ⟨r6, rfl, hR⟩
      dsimp only at h
      obtain rfl := Option.some.inj h
      exact hR
theorem c_narthexlaw01_SetPlaces (N : Nat) (a0 : List Int) (a1 : Int) (r : Bool) (h : narthexlaw01_SetPlaces N a0 a1 = some r) (H : List Ob) : DCall Try.prog 9 [.c (.slv (a0.map eI)), .c (I a1)] H (.c (B r)) := DCall.lift (by first | rfl | simp [List.map_take, List.map_drop, rvL, rvK, bwL, hfVs, hfV, hfL, hfAll, hfRows, mvV, mvL, mv0, sh0, mvO, mpE, mpV, mpVs, mpO, fzL, rnL, rn0, ok0, nzI, nzB, nzN, nzF, nzP, nzO, nzQ, nzC, shL, shV, shO, okV, okL, okO, List.take_of_length_le, h_I, hfRows_map h_I, ok_eI, okR_eI, fx_eI, fxR_eI, h_L_I, hfRows_map h_L_I, ok_eL_I, okR_eL_I, fx_eL_I, fxR_eL_I, -List.map_set]) (by first | rfl | simp [List.map_take, List.map_drop, rvL, rvK, bwL, hfVs, hfV, hfL, hfAll, hfRows, mvV, mvL, mv0, sh0, mvO, mpE, mpV, mpVs, mpO, fzL, rnL, rn0, ok0, nzI, nzB, nzN, nzF, nzP, nzO, nzQ, nzC, shL, shV, shO, okV, okL, okO, List.take_of_length_le, h_I, hfRows_map h_I, ok_eI, okR_eI, fx_eI, fxR_eI, h_L_I, hfRows_map h_L_I, ok_eL_I, okR_eL_I, fx_eL_I, fxR_eL_I, -List.map_set]) (fun _ => by simp [List.map_take, List.map_drop, rvL, rvK, bwL, hfVs, hfV, hfL, hfAll, hfRows, mvV, mvL, mv0, sh0, mvO, mpE, mpV, mpVs, mpO, fzL, rnL, rn0, ok0, nzI, nzB, nzN, nzF, nzP, nzO, nzQ, nzC, shL, shV, shO, okV, okL, okO, List.take_of_length_le, h_I, hfRows_map h_I, ok_eI, okR_eI, fx_eI, fxR_eI, h_L_I, hfRows_map h_L_I, ok_eL_I, okR_eL_I, fx_eL_I, fxR_eL_I, -List.map_set]) (w_narthexlaw01_SetPlaces N a0 a1 r h) H
end Go.Proofs.Ytlbopfkhnebegaa
