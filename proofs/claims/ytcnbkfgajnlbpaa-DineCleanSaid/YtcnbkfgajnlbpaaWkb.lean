/- The functions do what their models say. -/
import Derived.Test.YtcnbkfgajnlbpaaWka
namespace Go.Proofs.Ytcnbkfgajnlbpaa
open Go Go.Nx
set_option linter.unusedVariables false
set_option linter.unusedSimpArgs false
set_option maxRecDepth 8000
-- narthex/narthexlaw13.DineFires
theorem w_narthexlaw13_DineFires (N : Nat) (a0 : TDiner) (a1 : TDiner) (r : Bool) (h : narthexlaw13_DineFires N a0 a1 = some r) : Nx.Call Try.prog 3 [.agg (eDiner a0), .agg (eDiner a1)] [] fun r' _ => r' = .c (B r) := by
  refine Nx.Call.of_body Try.func3 rfl en3 Try.ntmps3 rfl (fun Γ hok => ?_)
  unfold narthexlaw13_DineFires at h
  refine Wp.seq ?_
  refine Wp.text [2, 3] rfl rfl ?_ -- region 0
  refine TextR.box (cs := [I a0.ID, I a0.Phase, .slv (a0.Sides.map eSide)]) 0 rfl rfl rfl rfl .nil ?_
  refine TextR.box (cs := [I a1.ID, I a1.Phase, .slv (a1.Sides.map eSide)]) 1 rfl rfl rfl rfl (.cons .nil) ?_
  refine TextR.assign rfl ?_
  refine TextR.done (.cons rfl (.cons rfl .nil)) ?_
  refine Wp.seq ?_
  refine Wp.seq ?_
  obtain ⟨y1, hy1, h⟩ := bind_some h
  refine Wp.go false none [[], [], [], [(12, false)], [(12, false)], [(12, false)], [(12, false)], [], [], [(18, false)], [(18, false)], [(18, false)], [(18, false)], []] [] [2, 3, 23] mixed rfl rfl (by kernel_rfl) ?_ -- region 1
  refine RunR.call rfl rfl rfl (fun H => c_narthexlaw13_awake N y1 hy1 H) ?_
  refine RunR.not rfl rfl rfl ?_
  refine RunR.move rfl rfl rfl ?_
  refine RunR.fieldAddr fo25_2 rfl rfl rfl rfl rfl ?_
  refine RunR.load1 tk23 rfl rfl rfl rfl ?_
  refine RunR.lenM us23 rfl rfl rfl rfl ?_
  refine RunR.int rfl rfl rfl rfl rfl ?_
  refine RunR.pickOr rfl rfl rfl rfl ?_
  refine RunR.move rfl rfl rfl ?_
  refine RunR.fieldAddr fo25_2 rfl rfl rfl rfl rfl ?_
  refine RunR.load1 tk23 rfl rfl rfl rfl ?_
  refine RunR.lenM us23 rfl rfl rfl rfl ?_
  refine RunR.int rfl rfl rfl rfl rfl ?_
  refine RunR.pickOr rfl rfl rfl rfl ?_
  refine RunR.doneQ (.cons rfl (.cons rfl (.cons rfl .nil))) ?_
  refine Wp.condM h rfl (fun hc1 h => ?_) (fun hc1 h => ?_)
  · refine Wp.seq ?_
    obtain ⟨y2, hy2, h⟩ := bind_some h
    refine Wp.text [4] rfl rfl ?_ -- region 2
    refine TextR.dcall rfl rfl (c_narthexlaw13_awake N y2 hy2 _) ?_
    refine TextR.assign rfl ?_
    refine TextR.done (.cons rfl .nil) ?_
    refine Wp.ret ?_
    obtain rfl := Option.some.inj h
    exact Ret.one rfl (resV_tmp rfl) rfl
  · refine Wp.skip ?_
    refine Wp.seq ?_
    obtain ⟨y3, hy3, h⟩ := bind_some h
    obtain ⟨y4, hy4, h⟩ := bind_some h
    refine Wp.text [2, 3, 5, 6, 7] rfl rfl ?_ -- region 3
    refine TextR.loadN (cs := [I a0.ID, I a0.Phase, .slv (a0.Sides.map eSide)]) tk25 rfl rfl ?_
    refine TextR.dcall rfl rfl (c_narthexlaw13_Own N a0 y3 hy3 _) ?_
    refine TextR.dcall rfl rfl (c_dine_Fire N y3 y4 hy4 _) ?_
    refine TextR.move rfl ?_
    refine TextR.extract rfl rfl ?_
    refine TextR.extract rfl rfl ?_
    refine TextR.extract rfl rfl ?_
    refine TextR.alloc 2 zc25 rfl rfl (.cons (.cons .nil)) ?_
    refine TextR.store1 tk25 rfl rfl rfl rfl rfl rfl (.succ (.succ .zero)) ?_
    refine TextR.assign rfl ?_
    refine TextR.assign rfl ?_
    refine TextR.done (.cons rfl (.cons rfl (.cons rfl (.cons rfl (.cons rfl .nil))))) ?_
    refine Wp.seq ?_
    refine Wp.seq ?_
    obtain ⟨y5, hy5, h⟩ := bind_some h
    obtain ⟨y6, hy6, h⟩ := bind_some h
    obtain ⟨y7, hy7, h⟩ := bind_some h
    obtain ⟨y8, hy8, h⟩ := bind_some h
    refine Wp.go true (some []) [] [] [2, 5, 6, 7, 40] mixed rfl rfl (by kernel_rfl) ?_ -- region 4
    refine RunR.loadN (cs := [I a0.ID, I a0.Phase, .slv (a0.Sides.map eSide)]) tk25 rfl rfl rfl rfl ?_
    refine RunR.call rfl rfl rfl (fun H => c_narthexlaw13_Own N a0 y5 hy5 H) ?_
    refine RunR.loadN (cs := [I a1.ID, I a1.Phase, .slv (a1.Sides.map eSide)]) tk25 rfl rfl rfl rfl ?_
    refine RunR.call rfl rfl rfl (fun H => c_narthexlaw13_Own N a1 y6 hy6 H) ?_
    refine RunR.call rfl rfl rfl (fun H => c_dine_Same N y5 y6 y7 hy7 H) ?_
    refine RunR.loadN (cs := [I a0.ID, I a0.Phase, .slv (a0.Sides.map eSide)]) tk25 rfl rfl rfl rfl ?_
    refine RunR.loadN (cs := [I a1.ID, I a1.Phase, .slv (a1.Sides.map eSide)]) tk25 rfl rfl rfl rfl ?_
    refine RunR.call rfl rfl rfl (fun H => c_narthexref12_SameOne N a0 a1 y8 hy8 H) ?_
    refine RunR.neBool (by kernel_rfl) rfl rfl rfl rfl ?_
    refine RunR.doneQ (.cons rfl (.cons rfl (.cons rfl (.cons rfl (.cons rfl .nil))))) ?_
    refine Wp.condM h rfl (fun hc2 h => ?_) (fun hc2 h => ?_)
    · refine Wp.seq ?_
      refine Wp.text [4] rfl rfl ?_ -- region 5
      refine TextR.assign rfl ?_
      refine TextR.done (.cons rfl .nil) ?_
      refine Wp.ret ?_
      obtain rfl := Option.some.inj h
      exact Ret.one rfl (resV_tmp rfl) rfl
    · refine Wp.skip ?_
      refine Wp.seq ?_
      refine Wp.seq ?_
      obtain ⟨y9, hy9, h⟩ := bind_some h
      refine Wp.text [2, 5, 6, 7, 43] rfl rfl ?_ -- region 6
      refine TextR.loadN (cs := [I a0.ID, I a0.Phase, .slv (a0.Sides.map eSide)]) tk25 rfl rfl ?_
      refine TextR.dcall rfl rfl (c_narthexref13_Check N a0 y9 hy9 _) ?_
      refine TextR.not rfl ?_
      refine TextR.done (.cons rfl (.cons rfl (.cons rfl (.cons rfl (.cons rfl .nil))))) ?_
      refine Wp.condM h rfl (fun hc3 h => ?_) (fun hc3 h => ?_)
      · refine Wp.seq ?_
        obtain ⟨y10, hy10, h⟩ := bind_some h
        obtain ⟨y11, hy11, h⟩ := bind_some h
        obtain ⟨y12, hy12, h⟩ := bind_some h
        refine Wp.go false none [[], [], [], [], [(47, true)], [(47, true)], [(47, true)], [], [], [(52, true)], [(52, true)], [], [], [(56, true)], [(56, true)], [(56, true)], [(56, true)], [], []] [] [4] mixed rfl rfl (by kernel_rfl) ?_ -- region 7
        refine RunR.loadN (cs := [I y4.1.ID, I y4.1.Phase, .slv (y4.1.Sides.map eSide)]) tk25 rfl rfl rfl rfl ?_
        refine RunR.build cm25 rfl rfl rfl ?_
        refine RunR.call rfl rfl rfl (fun H => DCall.nz rfl (c_narthexref12_SameOne N y4.1 (⟨0, 0, []⟩ : TDiner) y10 hy10 H)) ?_
        refine RunR.move rfl rfl rfl ?_
        refine RunR.move rfl rfl rfl ?_
        refine RunR.lenM us27 rfl rfl rfl rfl ?_
        refine RunR.int rfl rfl rfl rfl rfl ?_
        refine RunR.pickAnd rfl rfl rfl rfl ?_
        refine RunR.move rfl rfl rfl ?_
        refine RunR.move rfl rfl rfl ?_
        refine RunR.int rfl rfl rfl rfl rfl ?_
        refine RunR.pickAnd rfl rfl rfl rfl ?_
        refine RunR.move rfl rfl rfl ?_
        refine RunR.loadN (cs := [I a0.ID, I a0.Phase, .slv (a0.Sides.map eSide)]) tk25 rfl rfl rfl rfl ?_
        refine RunR.callG rfl rfl rfl (fun hb H => c_narthexlaw13_Own N a0 y11 (ifT hy11 gT hb) H) ?_
        refine RunR.callG rfl rfl rfl (fun hb H => c_dine_Check N y11 y12 (ifT hy12 gT hb) H) ?_
        refine RunR.int rfl rfl rfl rfl rfl ?_
        refine RunR.pickAnd rfl rfl rfl rfl ?_
        refine RunR.assign rfl rfl rfl ?_
        refine RunR.doneQ (.cons rfl .nil) ?_
        refine Wp.ret ?_
        obtain rfl := Option.some.inj h
        exact Ret.one rfl (resV_tmp rfl) rfl
      · refine Wp.skip ?_
        refine Wp.seq ?_
        obtain ⟨y13, hy13, h⟩ := bind_some h
        refine Wp.text [2, 5, 6, 7, 8, 9] rfl rfl ?_ -- region 8
        refine TextR.loadN (cs := [I a0.ID, I a0.Phase, .slv (a0.Sides.map eSide)]) tk25 rfl rfl ?_
        refine TextR.dcall rfl rfl (c_narthexref13_Fire N a0 y13 hy13 _) ?_
        refine TextR.move rfl ?_
        refine TextR.extract rfl rfl ?_
        refine TextR.extract rfl rfl ?_
        refine TextR.alloc 3 zc25 rfl rfl (.cons (.cons (.cons .nil))) ?_
        refine TextR.store1 tk25 rfl rfl rfl rfl rfl rfl (.succ (.succ (.succ .zero))) ?_
        refine TextR.assign rfl ?_
        refine TextR.done (.cons rfl (.cons rfl (.cons rfl (.cons rfl (.cons rfl (.cons rfl .nil)))))) ?_
        refine Wp.seq ?_
        obtain ⟨y14, hy14, h⟩ := bind_some h
        obtain ⟨y15, hy15, h⟩ := bind_some h
        obtain ⟨y16, hy16, h⟩ := bind_some h
        obtain ⟨y17, hy17, h⟩ := bind_some h
        refine Wp.go false none [[], [], [], [], [(70, true)], [(70, true)], [(70, true)], [], [], [(75, true)], [(75, true)], [], [], [(79, true)], [(79, true)], [(79, true)], [(79, true)], [], []] [] [4] mixed rfl rfl (by kernel_rfl) ?_ -- region 9
        refine RunR.loadN (cs := [I y4.1.ID, I y4.1.Phase, .slv (y4.1.Sides.map eSide)]) tk25 rfl rfl rfl rfl ?_
        refine RunR.loadN (cs := [I y13.1.ID, I y13.1.Phase, .slv (y13.1.Sides.map eSide)]) tk25 rfl rfl rfl rfl ?_
        refine RunR.call rfl rfl rfl (fun H => c_narthexref12_SameOne N y4.1 y13.1 y14 hy14 H) ?_
        refine RunR.move rfl rfl rfl ?_
        refine RunR.move rfl rfl rfl ?_
        refine RunR.move rfl rfl rfl ?_
        refine RunR.callG rfl rfl rfl (fun hb H => c_narthexref13_SameMail N y4.2.1 y13.2 y15 (ifT hy15 gT hb) H) ?_
        refine RunR.pickAnd rfl rfl rfl rfl ?_
        refine RunR.move rfl rfl rfl ?_
        refine RunR.move rfl rfl rfl ?_
        refine RunR.int rfl rfl rfl rfl rfl ?_
        refine RunR.pickAnd rfl rfl rfl rfl ?_
        refine RunR.move rfl rfl rfl ?_
        refine RunR.loadN (cs := [I a0.ID, I a0.Phase, .slv (a0.Sides.map eSide)]) tk25 rfl rfl rfl rfl ?_
        refine RunR.callG rfl rfl rfl (fun hb H => c_narthexlaw13_Own N a0 y16 (ifT hy16 gT hb) H) ?_
        refine RunR.callG rfl rfl rfl (fun hb H => c_dine_Check N y16 y17 (ifT hy17 gT hb) H) ?_
        refine RunR.int rfl rfl rfl rfl rfl ?_
        refine RunR.pickAnd rfl rfl rfl rfl ?_
        refine RunR.assign rfl rfl rfl ?_
        refine RunR.doneQ (.cons rfl .nil) ?_
        refine Wp.ret ?_
        obtain rfl := Option.some.inj h
        exact Ret.one rfl (resV_tmp rfl) rfl
theorem c_narthexlaw13_DineFires (N : Nat) (a0 : TDiner) (a1 : TDiner) (r : Bool) (h : narthexlaw13_DineFires N a0 a1 = some r) (H : List Ob) : DCall Try.prog 3 [.agg (eDiner a0), .agg (eDiner a1)] H (.c (B r)) := DCall.lift (by first | rfl | simp [hfVs, hfV, hfL, hfAll, hfRows, mvV, mvL, mvO, mpE, mpV, mpVs, mpO, fzL, rnL, rn0, ok0, nzI, nzB, nzN, nzF, nzP, nzO, nzQ, nzC, shL, shV, shO, okV, okL, okO, List.take_of_length_le, h_Side, hfRows_map h_Side, ok_eSide, okR_eSide, fx_eSide, fxR_eSide, h_Diner, hfRows_map h_Diner, ok_eDiner, okR_eDiner, fx_eDiner, fxR_eDiner, h_Mail, hfRows_map h_Mail, ok_eMail, okR_eMail, fx_eMail, fxR_eMail, h_Msg, hfRows_map h_Msg, ok_eMsg, okR_eMsg, fx_eMsg, fxR_eMsg, -List.map_set]) (by first | rfl | simp [hfVs, hfV, hfL, hfAll, hfRows, mvV, mvL, mvO, mpE, mpV, mpVs, mpO, fzL, rnL, rn0, ok0, nzI, nzB, nzN, nzF, nzP, nzO, nzQ, nzC, shL, shV, shO, okV, okL, okO, List.take_of_length_le, h_Side, hfRows_map h_Side, ok_eSide, okR_eSide, fx_eSide, fxR_eSide, h_Diner, hfRows_map h_Diner, ok_eDiner, okR_eDiner, fx_eDiner, fxR_eDiner, h_Mail, hfRows_map h_Mail, ok_eMail, okR_eMail, fx_eMail, fxR_eMail, h_Msg, hfRows_map h_Msg, ok_eMsg, okR_eMsg, fx_eMsg, fxR_eMsg, -List.map_set]) (fun _ => by simp [hfVs, hfV, hfL, hfAll, hfRows, mvV, mvL, mvO, mpE, mpV, mpVs, mpO, fzL, rnL, rn0, ok0, nzI, nzB, nzN, nzF, nzP, nzO, nzQ, nzC, shL, shV, shO, okV, okL, okO, List.take_of_length_le, h_Side, hfRows_map h_Side, ok_eSide, okR_eSide, fx_eSide, fxR_eSide, h_Diner, hfRows_map h_Diner, ok_eDiner, okR_eDiner, fx_eDiner, fxR_eDiner, h_Mail, hfRows_map h_Mail, ok_eMail, okR_eMail, fx_eMail, fxR_eMail, h_Msg, hfRows_map h_Msg, ok_eMsg, okR_eMsg, fx_eMsg, fxR_eMsg, -List.map_set]) (w_narthexlaw13_DineFires N a0 a1 r h) H
-- narthex/narthexref13.Get
theorem w_narthexref13_Get (N : Nat) (a0 : TDiner) (a1 : Int) (a2 : TMsg) (r : TDiner × Int) (h : narthexref13_Get N a0 a1 a2 = some r) : Nx.Call Try.prog 20 [.agg (eDiner a0), .c (I a1), .agg (eMsg a2)] [] fun r' _ => r' = .tup [.agg (eDiner r.1), .c (I r.2)] := by
  refine Nx.Call.of_body Try.func20 rfl en20 Try.ntmps20 rfl (fun Γ hok => ?_)
  unfold narthexref13_Get at h
  refine Wp.seq ?_
  refine Wp.text [1, 3, 5, 6] rfl rfl ?_ -- region 0
  refine TextR.box (cs := [I a0.ID, I a0.Phase, .slv (a0.Sides.map eSide)]) 0 rfl rfl rfl rfl .nil ?_
  refine TextR.box (cs := [I a2.Kind, I a2.Epoch, I a2.Num]) 1 rfl rfl rfl rfl (.cons .nil) ?_
  refine TextR.alloc 2 zc25 rfl rfl (.cons (.cons .nil)) ?_
  refine TextR.assign rfl ?_
  refine TextR.done (.cons rfl (.cons rfl (.cons rfl (.cons rfl .nil)))) ?_
  refine Wp.seq ?_
  refine Wp.seq ?_
  obtain ⟨y1, hy1, h⟩ := bind_some h
  refine Wp.text [1, 3, 5, 6, 12] rfl rfl ?_ -- region 1
  refine TextR.loadN (cs := [I a0.ID, I a0.Phase, .slv (a0.Sides.map eSide)]) tk25 rfl rfl ?_
  refine TextR.dcall rfl rfl (c_narthexref13_Check N a0 y1 hy1 _) ?_
  refine TextR.not rfl ?_
  refine TextR.done (.cons rfl (.cons rfl (.cons rfl (.cons rfl (.cons rfl .nil))))) ?_
  refine Wp.condM h rfl (fun hc1 h => ?_) (fun hc1 h => ?_)
  · refine Wp.seq ?_
    refine Wp.text [6, 7] rfl rfl ?_ -- region 2
    refine TextR.build cm25 rfl ?_
    refine TextR.store1 tk25 rfl rfl rfl rfl rfl rfl (.succ (.succ .zero)) ?_
    refine TextR.assign rfl ?_
    refine TextR.done (.cons rfl (.cons rfl .nil)) ?_
    refine Wp.weak (keepW (live := [6, 7] ) (.cons rfl (.cons rfl .nil))) ?_
    refine Wp.weak (nzT (e' := [(6, .c (.ptr 2 0 0 0)), (7, .c (I 130))]) (H' := [.live 0 3 [[I a0.ID, I a0.Phase, .slv (a0.Sides.map eSide)]], .live 0 3 [[I a2.Kind, I a2.Epoch, I a2.Num]], .live 0 3 [[I 0, I 0, .slv ([].map eSide)]]]) (by first | rfl | simp [hfVs, hfV, hfL, hfAll, hfRows, mvV, mvL, mvO, mpE, mpV, mpVs, mpO, fzL, rnL, rn0, ok0, nzI, nzB, nzN, nzF, nzP, nzO, nzQ, nzC, shL, shV, shO, okV, okL, okO, List.take_of_length_le, h_Side, hfRows_map h_Side, ok_eSide, okR_eSide, fx_eSide, fxR_eSide, h_Diner, hfRows_map h_Diner, ok_eDiner, okR_eDiner, fx_eDiner, fxR_eDiner, h_Mail, hfRows_map h_Mail, ok_eMail, okR_eMail, fx_eMail, fxR_eMail, h_Msg, hfRows_map h_Msg, ok_eMsg, okR_eMsg, fx_eMsg, fxR_eMsg, -List.map_set]) (by first | rfl | simp [hfVs, hfV, hfL, hfAll, hfRows, mvV, mvL, mvO, mpE, mpV, mpVs, mpO, fzL, rnL, rn0, ok0, nzI, nzB, nzN, nzF, nzP, nzO, nzQ, nzC, shL, shV, shO, okV, okL, okO, List.take_of_length_le, h_Side, hfRows_map h_Side, ok_eSide, okR_eSide, fx_eSide, fxR_eSide, h_Diner, hfRows_map h_Diner, ok_eDiner, okR_eDiner, fx_eDiner, fxR_eDiner, h_Mail, hfRows_map h_Mail, ok_eMail, okR_eMail, fx_eMail, fxR_eMail, h_Msg, hfRows_map h_Msg, ok_eMsg, okR_eMsg, fx_eMsg, fxR_eMsg, -List.map_set])) ?_
    refine Wp.ret ?_
    obtain rfl := Option.some.inj h
    exact Ret.two rfl (resV_cellN tk25 rfl rfl) (resV_tmp rfl) rfl
  · refine Wp.skip ?_
    refine Wp.seq ?_
    refine Wp.seq ?_
    refine Wp.text [1, 3, 5, 6, 8] rfl rfl ?_ -- region 3
    refine TextR.assign rfl ?_
    refine TextR.done (.cons rfl (.cons rfl (.cons rfl (.cons rfl (.cons rfl .nil))))) ?_
    obtain ⟨z2, hz2, h⟩ := bind_some h
    refine Wp.fragR (fun S => ∃ z4, z2 = .inr z4 ∧ ∃ S', St.Weak ⟨Try.prog, 78, Γ⟩ S S' ∧ S' = ⟨[(6, .c (.ptr 0 0 0 0))], [.live 0 3 [[I 0, I 0, nilS]]]⟩) (fun S => ∃ v, z2 = .inl v ∧ Ret Try.prog Try.f20 (fun r' _ => r' = .tup [.agg (eDiner v.1), .c (I v.2)]) .ret S) ?_ ?_ ?_
    · replace h := hz2
      refine Wp.block ?_
      refine Wp.weak (keepW (live := [1, 3, 5, 6, 8]) (.cons rfl (.cons rfl (.cons rfl (.cons rfl (.cons rfl .nil)))))) ?_
      refine Wp.loop (fun m S => ∃ s8_1, narthexref13_Get_L1 N a0 a1 a2 m s8_1 = some z2 ∧ S = ⟨[(1, .c (I a1)), (3, .c (.ptr 0 0 0 0)), (5, .c (.ptr 1 0 0 0)), (6, .c (.ptr 2 0 0 0)), (8, .c (I s8_1))], [.live 0 3 [[I a0.ID, I a0.Phase, .slv (a0.Sides.map eSide)]], .live 0 3 [[I a2.Kind, I a2.Epoch, I a2.Num]], .live 0 3 [[I 0, I 0, nilS]]]⟩) N ⟨_, h, rfl⟩ ?_
      rintro m1 _ ⟨s8_1, h, rfl⟩
      cases m1 with
      | zero => rw [narthexref13_Get_L1.eq_1] at h; cases h
      | succ m1 =>
      rw [narthexref13_Get_L1.eq_2] at h
      refine Wp.seq ?_
      refine Wp.seq ?_
      refine Wp.text [1, 3, 5, 6, 8, 18] rfl rfl ?_ -- region 4
      refine TextR.move rfl ?_
      refine TextR.fieldAddr fo25_2 rfl rfl rfl ?_
      refine TextR.load1 tk23 rfl rfl ?_
      refine TextR.lenM us23 rfl rfl ?_
      refine TextR.int rfl rfl rfl ?_
      refine TextR.done (.cons rfl (.cons rfl (.cons rfl (.cons rfl (.cons rfl (.cons rfl .nil)))))) ?_
      refine Wp.condM h rfl (fun hc3 h => ?_) (fun hc3 h => ?_)
      · refine Wp.skip ?_
        refine Wp.seq ?_
        refine Wp.block ?_
        refine Wp.seq ?_
        obtain ⟨x5, hx5, h⟩ := bind_some h
        refine Wp.text [1, 3, 5, 6, 8, 9] rfl rfl ?_ -- region 6
        refine TextR.fieldAddr fo25_2 rfl rfl rfl ?_
        refine TextR.load1 tk23 rfl rfl ?_
        refine TextR.move rfl ?_
        refine TextR.indexA se23 rfl rfl rfl hx5 rfl ?_
        refine TextR.loadNM tk47 rfl (at_get hx5) rfl ?_
        refine TextR.alloc 3 zc47 rfl rfl (.cons (.cons (.cons .nil))) ?_
        refine TextR.store1 tk47 rfl rfl rfl rfl rfl rfl (.succ (.succ (.succ .zero))) ?_
        refine TextR.done (.cons rfl (.cons rfl (.cons rfl (.cons rfl (.cons rfl (.cons rfl .nil)))))) ?_
        refine Wp.seq ?_
        refine Wp.seq ?_
        refine Wp.go false none [[], [], [], [], [], [(30, false)], [(30, false)], [(30, false)], [(30, false)], [(30, false)], []] [] [1, 3, 5, 6, 8, 9, 36] mixed rfl rfl (by kernel_rfl) ?_ -- region 7
        refine RunR.fieldAddr fo47_0 rfl rfl rfl rfl rfl ?_
        refine RunR.load1 tk3 rfl rfl rfl rfl ?_
        refine RunR.move rfl rfl rfl ?_
        refine RunR.int rfl rfl rfl rfl rfl ?_
        refine RunR.move rfl rfl rfl ?_
        refine RunR.fieldAddr fo47_1 rfl rfl rfl rfl rfl ?_
        refine RunR.load1 tk3 rfl rfl rfl rfl ?_
        refine RunR.fieldAddr fo40_1 rfl rfl rfl rfl rfl ?_
        refine RunR.load1 tk3 rfl rfl rfl rfl ?_
        refine RunR.int rfl rfl rfl rfl rfl ?_
        refine RunR.pickOr rfl rfl rfl rfl ?_
        refine RunR.doneQ (.cons rfl (.cons rfl (.cons rfl (.cons rfl (.cons rfl (.cons rfl (.cons rfl .nil))))))) ?_
        refine Wp.condM h rfl (fun hc4 h => ?_) (fun hc4 h => ?_)
        · refine Wp.exit ?_
          refine Wp.text [1, 3, 5, 6, 8] rfl rfl ?_ -- region 5
          refine TextR.move rfl ?_
          refine TextR.int rfl rfl rfl ?_
          refine TextR.assign rfl ?_
          refine TextR.done (.cons rfl (.cons rfl (.cons rfl (.cons rfl (.cons rfl .nil))))) ?_
          exact ⟨m1, Nat.lt_succ_self _, _, (St.Weak.trans (keepW (live := [1, 3, 5, 6, 8]) (.cons rfl (.cons rfl (.cons rfl (.cons rfl (.cons rfl .nil)))))) (pickT (e' := [(1, .c (I a1)), (3, .c (.ptr 0 0 0 0)), (5, .c (.ptr 1 0 0 0)), (6, .c (.ptr 2 0 0 0)), (8, .c (I (w64 (s8_1 + 1))))]) (H' := [.live 0 3 [[I a0.ID, I a0.Phase, .slv (a0.Sides.map eSide)]], .live 0 3 [[I a2.Kind, I a2.Epoch, I a2.Num]], .live 0 3 [[I 0, I 0, nilS]]]) [0, 1, 2] [0, 1, 2, 0] 0 hok.len.symm rfl rfl (by decide) (by first | rfl | simp [hfVs, hfV, hfL, hfAll, hfRows, mvV, mvL, mvO, mpE, mpV, mpVs, mpO, fzL, rnL, rn0, ok0, nzI, nzB, nzN, nzF, nzP, nzO, nzQ, nzC, shL, shV, shO, okV, okL, okO, List.take_of_length_le, h_Side, hfRows_map h_Side, ok_eSide, okR_eSide, fx_eSide, fxR_eSide, h_Diner, hfRows_map h_Diner, ok_eDiner, okR_eDiner, fx_eDiner, fxR_eDiner, h_Mail, hfRows_map h_Mail, ok_eMail, okR_eMail, fx_eMail, fxR_eMail, h_Msg, hfRows_map h_Msg, ok_eMsg, okR_eMsg, fx_eMsg, fxR_eMsg, -List.map_set]) (by first | rfl | simp [hfVs, hfV, hfL, hfAll, hfRows, mvV, mvL, mvO, mpE, mpV, mpVs, mpO, fzL, rnL, rn0, ok0, nzI, nzB, nzN, nzF, nzP, nzO, nzQ, nzC, shL, shV, shO, okV, okL, okO, List.take_of_length_le, h_Side, hfRows_map h_Side, ok_eSide, okR_eSide, fx_eSide, fxR_eSide, h_Diner, hfRows_map h_Diner, ok_eDiner, okR_eDiner, fx_eDiner, fxR_eDiner, h_Mail, hfRows_map h_Mail, ok_eMail, okR_eMail, fx_eMail, fxR_eMail, h_Msg, hfRows_map h_Msg, ok_eMsg, okR_eMsg, fx_eMsg, fxR_eMsg, -List.map_set]) (by first | rfl | simp [hfVs, hfV, hfL, hfAll, hfRows, mvV, mvL, mvO, mpE, mpV, mpVs, mpO, fzL, rnL, rn0, ok0, nzI, nzB, nzN, nzF, nzP, nzO, nzQ, nzC, shL, shV, shO, okV, okL, okO, List.take_of_length_le, h_Side, hfRows_map h_Side, ok_eSide, okR_eSide, fx_eSide, fxR_eSide, h_Diner, hfRows_map h_Diner, ok_eDiner, okR_eDiner, fx_eDiner, fxR_eDiner, h_Mail, hfRows_map h_Mail, ok_eMail, okR_eMail, fx_eMail, fxR_eMail, h_Msg, hfRows_map h_Msg, ok_eMsg, okR_eMsg, fx_eMsg, fxR_eMsg, -List.map_set]) (by first | rfl | simp [hfVs, hfV, hfL, hfAll, hfRows, mvV, mvL, mvO, mpE, mpV, mpVs, mpO, fzL, rnL, rn0, ok0, nzI, nzB, nzN, nzF, nzP, nzO, nzQ, nzC, shL, shV, shO, okV, okL, okO, List.take_of_length_le, h_Side, hfRows_map h_Side, ok_eSide, okR_eSide, fx_eSide, fxR_eSide, h_Diner, hfRows_map h_Diner, ok_eDiner, okR_eDiner, fx_eDiner, fxR_eDiner, h_Mail, hfRows_map h_Mail, ok_eMail, okR_eMail, fx_eMail, fxR_eMail, h_Msg, hfRows_map h_Msg, ok_eMsg, okR_eMsg, fx_eMsg, fxR_eMsg, -List.map_set]))), _, h, rfl⟩
        · refine Wp.skip ?_
          refine Wp.seq ?_
          refine Wp.seq ?_
          refine Wp.go false none [[], [], [], [], [(40, false)], [(40, false)], [(40, false)], [(40, false)], [(44, true), (40, false)], [(44, true), (40, false)], [(44, true), (40, false)], [(40, false)], []] [] [3, 5, 6, 8, 9, 49] mixed rfl rfl (by kernel_rfl) ?_ -- region 8
          refine RunR.fieldAddr fo40_2 rfl rfl rfl rfl rfl ?_
          refine RunR.load1 tk3 rfl rfl rfl rfl ?_
          refine RunR.int rfl rfl rfl rfl rfl ?_
          refine RunR.move rfl rfl rfl ?_
          refine RunR.fieldAddr fo40_0 rfl rfl rfl rfl rfl ?_
          refine RunR.load1 tk38 rfl rfl rfl rfl ?_
          refine RunR.int rfl rfl rfl rfl rfl ?_
          refine RunR.move rfl rfl rfl ?_
          refine RunR.fieldAddr fo40_0 rfl rfl rfl rfl rfl ?_
          refine RunR.load1 tk38 rfl rfl rfl rfl ?_
          refine RunR.int rfl rfl rfl rfl rfl ?_
          refine RunR.pickAnd rfl rfl rfl rfl ?_
          refine RunR.pickOr rfl rfl rfl rfl ?_
          refine RunR.doneQ (.cons rfl (.cons rfl (.cons rfl (.cons rfl (.cons rfl (.cons rfl .nil)))))) ?_
          refine Wp.condM h rfl (fun hc5 h => ?_) (fun hc5 h => ?_)
          · refine Wp.seq ?_
            refine Wp.text [6, 7] rfl rfl ?_ -- region 9
            refine TextR.build cm25 rfl ?_
            refine TextR.store1 tk25 rfl rfl rfl rfl rfl rfl (.succ (.succ .zero)) ?_
            refine TextR.assign rfl ?_
            refine TextR.done (.cons rfl (.cons rfl .nil)) ?_
            refine Wp.weak (keepW (live := [6, 7] ) (.cons rfl (.cons rfl .nil))) ?_
            refine Wp.weak (nzT (e' := [(6, .c (.ptr 2 0 0 0)), (7, .c (I 133))]) (H' := [.live 0 3 [[I a0.ID, I a0.Phase, .slv (a0.Sides.map eSide)]], .live 0 3 [[I a2.Kind, I a2.Epoch, I a2.Num]], .live 0 3 [[I 0, I 0, .slv ([].map eSide)]], .live 0 8 [[I x5.Peer, I x5.Epoch, I x5.State, B x5.Fork, B x5.Dirty, B x5.Token, B x5.Bottle, B x5.Ask]]]) (by first | rfl | simp [hfVs, hfV, hfL, hfAll, hfRows, mvV, mvL, mvO, mpE, mpV, mpVs, mpO, fzL, rnL, rn0, ok0, nzI, nzB, nzN, nzF, nzP, nzO, nzQ, nzC, shL, shV, shO, okV, okL, okO, List.take_of_length_le, h_Side, hfRows_map h_Side, ok_eSide, okR_eSide, fx_eSide, fxR_eSide, h_Diner, hfRows_map h_Diner, ok_eDiner, okR_eDiner, fx_eDiner, fxR_eDiner, h_Mail, hfRows_map h_Mail, ok_eMail, okR_eMail, fx_eMail, fxR_eMail, h_Msg, hfRows_map h_Msg, ok_eMsg, okR_eMsg, fx_eMsg, fxR_eMsg, -List.map_set]) (by first | rfl | simp [hfVs, hfV, hfL, hfAll, hfRows, mvV, mvL, mvO, mpE, mpV, mpVs, mpO, fzL, rnL, rn0, ok0, nzI, nzB, nzN, nzF, nzP, nzO, nzQ, nzC, shL, shV, shO, okV, okL, okO, List.take_of_length_le, h_Side, hfRows_map h_Side, ok_eSide, okR_eSide, fx_eSide, fxR_eSide, h_Diner, hfRows_map h_Diner, ok_eDiner, okR_eDiner, fx_eDiner, fxR_eDiner, h_Mail, hfRows_map h_Mail, ok_eMail, okR_eMail, fx_eMail, fxR_eMail, h_Msg, hfRows_map h_Msg, ok_eMsg, okR_eMsg, fx_eMsg, fxR_eMsg, -List.map_set])) ?_
            refine Wp.ret ?_
            exact ⟨_, (Option.some.inj h).symm, Ret.two rfl (resV_cellN tk25 rfl rfl) (resV_tmp rfl) rfl⟩
          · refine Wp.skip ?_
            refine Wp.seq ?_
            refine Wp.seq ?_
            refine Wp.go false none [[], [], [], [], [(54, true)], [(54, true)], [], [], [(58, false)], [(58, false)], [(58, false)], [(58, false)], [(62, true), (58, false)], [(62, true), (58, false)], [(58, false)], []] [] [3, 5, 6, 8, 9, 66] mixed rfl rfl (by kernel_rfl) ?_ -- region 10
            refine RunR.fieldAddr fo40_0 rfl rfl rfl rfl rfl ?_
            refine RunR.load1 tk38 rfl rfl rfl rfl ?_
            refine RunR.int rfl rfl rfl rfl rfl ?_
            refine RunR.move rfl rfl rfl ?_
            refine RunR.fieldAddr fo47_3 rfl rfl rfl rfl rfl ?_
            refine RunR.load1 tk4 rfl rfl rfl rfl ?_
            refine RunR.pickAnd rfl rfl rfl rfl ?_
            refine RunR.move rfl rfl rfl ?_
            refine RunR.fieldAddr fo40_0 rfl rfl rfl rfl rfl ?_
            refine RunR.load1 tk38 rfl rfl rfl rfl ?_
            refine RunR.int rfl rfl rfl rfl rfl ?_
            refine RunR.move rfl rfl rfl ?_
            refine RunR.fieldAddr fo47_5 rfl rfl rfl rfl rfl ?_
            refine RunR.load1 tk4 rfl rfl rfl rfl ?_
            refine RunR.pickAnd rfl rfl rfl rfl ?_
            refine RunR.pickOr rfl rfl rfl rfl ?_
            refine RunR.doneQ (.cons rfl (.cons rfl (.cons rfl (.cons rfl (.cons rfl (.cons rfl .nil)))))) ?_
            refine Wp.condM h rfl (fun hc6 h => ?_) (fun hc6 h => ?_)
            · refine Wp.seq ?_
              refine Wp.text [6, 7] rfl rfl ?_ -- region 11
              refine TextR.build cm25 rfl ?_
              refine TextR.store1 tk25 rfl rfl rfl rfl rfl rfl (.succ (.succ .zero)) ?_
              refine TextR.assign rfl ?_
              refine TextR.done (.cons rfl (.cons rfl .nil)) ?_
              refine Wp.weak (keepW (live := [6, 7] ) (.cons rfl (.cons rfl .nil))) ?_
              refine Wp.weak (nzT (e' := [(6, .c (.ptr 2 0 0 0)), (7, .c (I 132))]) (H' := [.live 0 3 [[I a0.ID, I a0.Phase, .slv (a0.Sides.map eSide)]], .live 0 3 [[I a2.Kind, I a2.Epoch, I a2.Num]], .live 0 3 [[I 0, I 0, .slv ([].map eSide)]], .live 0 8 [[I x5.Peer, I x5.Epoch, I x5.State, B x5.Fork, B x5.Dirty, B x5.Token, B x5.Bottle, B x5.Ask]]]) (by first | rfl | simp [hfVs, hfV, hfL, hfAll, hfRows, mvV, mvL, mvO, mpE, mpV, mpVs, mpO, fzL, rnL, rn0, ok0, nzI, nzB, nzN, nzF, nzP, nzO, nzQ, nzC, shL, shV, shO, okV, okL, okO, List.take_of_length_le, h_Side, hfRows_map h_Side, ok_eSide, okR_eSide, fx_eSide, fxR_eSide, h_Diner, hfRows_map h_Diner, ok_eDiner, okR_eDiner, fx_eDiner, fxR_eDiner, h_Mail, hfRows_map h_Mail, ok_eMail, okR_eMail, fx_eMail, fxR_eMail, h_Msg, hfRows_map h_Msg, ok_eMsg, okR_eMsg, fx_eMsg, fxR_eMsg, -List.map_set]) (by first | rfl | simp [hfVs, hfV, hfL, hfAll, hfRows, mvV, mvL, mvO, mpE, mpV, mpVs, mpO, fzL, rnL, rn0, ok0, nzI, nzB, nzN, nzF, nzP, nzO, nzQ, nzC, shL, shV, shO, okV, okL, okO, List.take_of_length_le, h_Side, hfRows_map h_Side, ok_eSide, okR_eSide, fx_eSide, fxR_eSide, h_Diner, hfRows_map h_Diner, ok_eDiner, okR_eDiner, fx_eDiner, fxR_eDiner, h_Mail, hfRows_map h_Mail, ok_eMail, okR_eMail, fx_eMail, fxR_eMail, h_Msg, hfRows_map h_Msg, ok_eMsg, okR_eMsg, fx_eMsg, fxR_eMsg, -List.map_set])) ?_
              refine Wp.ret ?_
              exact ⟨_, (Option.some.inj h).symm, Ret.two rfl (resV_cellN tk25 rfl rfl) (resV_tmp rfl) rfl⟩
            · refine Wp.skip ?_
              refine Wp.seq ?_
              refine Wp.seq ?_
              refine Wp.text [3, 6, 8, 9, 70] rfl rfl ?_ -- region 12
              refine TextR.fieldAddr fo40_0 rfl rfl rfl ?_
              refine TextR.load1 tk38 rfl rfl ?_
              refine TextR.int rfl rfl rfl ?_
              refine TextR.done (.cons rfl (.cons rfl (.cons rfl (.cons rfl (.cons rfl .nil))))) ?_
              obtain ⟨z6, hz6, h⟩ := bind_some h
              refine Wp.fragN (fun S => ∃ S', St.Weak ⟨Try.prog, 78, Γ⟩ S S' ∧ S' = ⟨[(3, .c (.ptr 0 0 0 0)), (6, .c (.ptr 1 0 0 0)), (8, .c (I s8_1)), (9, .c (.ptr 2 0 0 0))], [.live 0 3 [[I a0.ID, I a0.Phase, .slv (a0.Sides.map eSide)]], .live 0 3 [[I 0, I 0, nilS]], .live 0 8 [[I x5.Peer, I x5.Epoch, I x5.State, B z6.1, B x5.Dirty, B z6.2, B x5.Bottle, B x5.Ask]]]⟩) ?_ ?_
              · replace h := hz6
                refine Wp.condM h rfl (fun hc8 h => ?_) (fun hc8 h => ?_)
                · refine Wp.text [3, 6, 8, 9] rfl rfl ?_ -- region 13
                  refine TextR.fieldAddr fo47_3 rfl rfl rfl ?_
                  refine TextR.storeF (r' := [I x5.Peer, I x5.Epoch, I x5.State, B true, B x5.Dirty, B x5.Token, B x5.Bottle, B x5.Ask]) tk4 rfl rfl rfl rfl rfl rfl rfl (.succ (.succ (.succ .zero))) ?_
                  refine TextR.done (.cons rfl (.cons rfl (.cons rfl (.cons rfl .nil)))) ?_
                  obtain rfl := Option.some.inj h
                  exact ⟨_, (St.Weak.trans (keepW (live := [3, 6, 8, 9]) (.cons rfl (.cons rfl (.cons rfl (.cons rfl .nil))))) (pickT (e' := [(3, .c (.ptr 0 0 0 0)), (6, .c (.ptr 1 0 0 0)), (8, .c (I s8_1)), (9, .c (.ptr 2 0 0 0))]) (H' := [.live 0 3 [[I a0.ID, I a0.Phase, .slv (a0.Sides.map eSide)]], .live 0 3 [[I 0, I 0, nilS]], .live 0 8 [[I x5.Peer, I x5.Epoch, I x5.State, B true, B x5.Dirty, B x5.Token, B x5.Bottle, B x5.Ask]]]) [0, 2, 3] [0, 0, 1, 2] 0 hok.len.symm rfl rfl (by decide) (by first | rfl | simp [hfVs, hfV, hfL, hfAll, hfRows, mvV, mvL, mvO, mpE, mpV, mpVs, mpO, fzL, rnL, rn0, ok0, nzI, nzB, nzN, nzF, nzP, nzO, nzQ, nzC, shL, shV, shO, okV, okL, okO, List.take_of_length_le, h_Side, hfRows_map h_Side, ok_eSide, okR_eSide, fx_eSide, fxR_eSide, h_Diner, hfRows_map h_Diner, ok_eDiner, okR_eDiner, fx_eDiner, fxR_eDiner, h_Mail, hfRows_map h_Mail, ok_eMail, okR_eMail, fx_eMail, fxR_eMail, h_Msg, hfRows_map h_Msg, ok_eMsg, okR_eMsg, fx_eMsg, fxR_eMsg, -List.map_set]) (by first | rfl | simp [hfVs, hfV, hfL, hfAll, hfRows, mvV, mvL, mvO, mpE, mpV, mpVs, mpO, fzL, rnL, rn0, ok0, nzI, nzB, nzN, nzF, nzP, nzO, nzQ, nzC, shL, shV, shO, okV, okL, okO, List.take_of_length_le, h_Side, hfRows_map h_Side, ok_eSide, okR_eSide, fx_eSide, fxR_eSide, h_Diner, hfRows_map h_Diner, ok_eDiner, okR_eDiner, fx_eDiner, fxR_eDiner, h_Mail, hfRows_map h_Mail, ok_eMail, okR_eMail, fx_eMail, fxR_eMail, h_Msg, hfRows_map h_Msg, ok_eMsg, okR_eMsg, fx_eMsg, fxR_eMsg, -List.map_set]) (by first | rfl | simp [hfVs, hfV, hfL, hfAll, hfRows, mvV, mvL, mvO, mpE, mpV, mpVs, mpO, fzL, rnL, rn0, ok0, nzI, nzB, nzN, nzF, nzP, nzO, nzQ, nzC, shL, shV, shO, okV, okL, okO, List.take_of_length_le, h_Side, hfRows_map h_Side, ok_eSide, okR_eSide, fx_eSide, fxR_eSide, h_Diner, hfRows_map h_Diner, ok_eDiner, okR_eDiner, fx_eDiner, fxR_eDiner, h_Mail, hfRows_map h_Mail, ok_eMail, okR_eMail, fx_eMail, fxR_eMail, h_Msg, hfRows_map h_Msg, ok_eMsg, okR_eMsg, fx_eMsg, fxR_eMsg, -List.map_set]) (by first | rfl | simp [hfVs, hfV, hfL, hfAll, hfRows, mvV, mvL, mvO, mpE, mpV, mpVs, mpO, fzL, rnL, rn0, ok0, nzI, nzB, nzN, nzF, nzP, nzO, nzQ, nzC, shL, shV, shO, okV, okL, okO, List.take_of_length_le, h_Side, hfRows_map h_Side, ok_eSide, okR_eSide, fx_eSide, fxR_eSide, h_Diner, hfRows_map h_Diner, ok_eDiner, okR_eDiner, fx_eDiner, fxR_eDiner, h_Mail, hfRows_map h_Mail, ok_eMail, okR_eMail, fx_eMail, fxR_eMail, h_Msg, hfRows_map h_Msg, ok_eMsg, okR_eMsg, fx_eMsg, fxR_eMsg, -List.map_set]))), rfl⟩
                · refine Wp.text [3, 6, 8, 9] rfl rfl ?_ -- region 14
                  refine TextR.fieldAddr fo47_5 rfl rfl rfl ?_
                  refine TextR.storeF (r' := [I x5.Peer, I x5.Epoch, I x5.State, B x5.Fork, B x5.Dirty, B true, B x5.Bottle, B x5.Ask]) tk4 rfl rfl rfl rfl rfl rfl rfl (.succ (.succ (.succ .zero))) ?_
                  refine TextR.done (.cons rfl (.cons rfl (.cons rfl (.cons rfl .nil)))) ?_
                  obtain rfl := Option.some.inj h
                  exact ⟨_, (St.Weak.trans (keepW (live := [3, 6, 8, 9]) (.cons rfl (.cons rfl (.cons rfl (.cons rfl .nil))))) (pickT (e' := [(3, .c (.ptr 0 0 0 0)), (6, .c (.ptr 1 0 0 0)), (8, .c (I s8_1)), (9, .c (.ptr 2 0 0 0))]) (H' := [.live 0 3 [[I a0.ID, I a0.Phase, .slv (a0.Sides.map eSide)]], .live 0 3 [[I 0, I 0, nilS]], .live 0 8 [[I x5.Peer, I x5.Epoch, I x5.State, B x5.Fork, B x5.Dirty, B true, B x5.Bottle, B x5.Ask]]]) [0, 2, 3] [0, 0, 1, 2] 0 hok.len.symm rfl rfl (by decide) (by first | rfl | simp [hfVs, hfV, hfL, hfAll, hfRows, mvV, mvL, mvO, mpE, mpV, mpVs, mpO, fzL, rnL, rn0, ok0, nzI, nzB, nzN, nzF, nzP, nzO, nzQ, nzC, shL, shV, shO, okV, okL, okO, List.take_of_length_le, h_Side, hfRows_map h_Side, ok_eSide, okR_eSide, fx_eSide, fxR_eSide, h_Diner, hfRows_map h_Diner, ok_eDiner, okR_eDiner, fx_eDiner, fxR_eDiner, h_Mail, hfRows_map h_Mail, ok_eMail, okR_eMail, fx_eMail, fxR_eMail, h_Msg, hfRows_map h_Msg, ok_eMsg, okR_eMsg, fx_eMsg, fxR_eMsg, -List.map_set]) (by first | rfl | simp [hfVs, hfV, hfL, hfAll, hfRows, mvV, mvL, mvO, mpE, mpV, mpVs, mpO, fzL, rnL, rn0, ok0, nzI, nzB, nzN, nzF, nzP, nzO, nzQ, nzC, shL, shV, shO, okV, okL, okO, List.take_of_length_le, h_Side, hfRows_map h_Side, ok_eSide, okR_eSide, fx_eSide, fxR_eSide, h_Diner, hfRows_map h_Diner, ok_eDiner, okR_eDiner, fx_eDiner, fxR_eDiner, h_Mail, hfRows_map h_Mail, ok_eMail, okR_eMail, fx_eMail, fxR_eMail, h_Msg, hfRows_map h_Msg, ok_eMsg, okR_eMsg, fx_eMsg, fxR_eMsg, -List.map_set]) (by first | rfl | simp [hfVs, hfV, hfL, hfAll, hfRows, mvV, mvL, mvO, mpE, mpV, mpVs, mpO, fzL, rnL, rn0, ok0, nzI, nzB, nzN, nzF, nzP, nzO, nzQ, nzC, shL, shV, shO, okV, okL, okO, List.take_of_length_le, h_Side, hfRows_map h_Side, ok_eSide, okR_eSide, fx_eSide, fxR_eSide, h_Diner, hfRows_map h_Diner, ok_eDiner, okR_eDiner, fx_eDiner, fxR_eDiner, h_Mail, hfRows_map h_Mail, ok_eMail, okR_eMail, fx_eMail, fxR_eMail, h_Msg, hfRows_map h_Msg, ok_eMsg, okR_eMsg, fx_eMsg, fxR_eMsg, -List.map_set]) (by first | rfl | simp [hfVs, hfV, hfL, hfAll, hfRows, mvV, mvL, mvO, mpE, mpV, mpVs, mpO, fzL, rnL, rn0, ok0, nzI, nzB, nzN, nzF, nzP, nzO, nzQ, nzC, shL, shV, shO, okV, okL, okO, List.take_of_length_le, h_Side, hfRows_map h_Side, ok_eSide, okR_eSide, fx_eSide, fxR_eSide, h_Diner, hfRows_map h_Diner, ok_eDiner, okR_eDiner, fx_eDiner, fxR_eDiner, h_Mail, hfRows_map h_Mail, ok_eMail, okR_eMail, fx_eMail, fxR_eMail, h_Msg, hfRows_map h_Msg, ok_eMsg, okR_eMsg, fx_eMsg, fxR_eMsg, -List.map_set]))), rfl⟩
              rintro _ ⟨S', hw, rfl⟩
              clear hz6
              refine Wp.weak hw ?_
              refine Wp.seq ?_
              obtain ⟨y7, hy7, h⟩ := bind_some h
              refine Wp.text [6, 7] rfl rfl ?_ -- region 15
              refine TextR.loadN (cs := [I a0.ID, I a0.Phase, .slv (a0.Sides.map eSide)]) tk25 rfl rfl ?_
              refine TextR.move rfl ?_
              refine TextR.loadN (cs := [I x5.Peer, I x5.Epoch, I x5.State, B z6.1, B x5.Dirty, B z6.2, B x5.Bottle, B x5.Ask]) tk47 rfl rfl ?_
              refine TextR.dcall rfl rfl (c_narthexref13_Set N a0 s8_1 { x5 with Fork := z6.1, Token := z6.2 } y7 hy7 _) ?_
              refine TextR.store1 tk25 rfl rfl rfl rfl rfl rfl (.succ .zero) ?_
              refine TextR.assign rfl ?_
              refine TextR.done (.cons rfl (.cons rfl .nil)) ?_
              refine Wp.ret ?_
              exact ⟨_, (Option.some.inj h).symm, Ret.two rfl (resV_cellN tk25 rfl rfl) (resV_tmp rfl) rfl⟩
      · refine Wp.exit ?_
        exact ⟨_, (Option.some.inj h).symm, _, (St.Weak.trans (keepW (live := [6]) (.cons rfl .nil)) (pickT (e' := [(6, .c (.ptr 0 0 0 0))]) (H' := [.live 0 3 [[I 0, I 0, nilS]]]) [2] [0, 0, 0] 0 hok.len.symm rfl rfl (by decide) (by first | rfl | simp [hfVs, hfV, hfL, hfAll, hfRows, mvV, mvL, mvO, mpE, mpV, mpVs, mpO, fzL, rnL, rn0, ok0, nzI, nzB, nzN, nzF, nzP, nzO, nzQ, nzC, shL, shV, shO, okV, okL, okO, List.take_of_length_le, h_Side, hfRows_map h_Side, ok_eSide, okR_eSide, fx_eSide, fxR_eSide, h_Diner, hfRows_map h_Diner, ok_eDiner, okR_eDiner, fx_eDiner, fxR_eDiner, h_Mail, hfRows_map h_Mail, ok_eMail, okR_eMail, fx_eMail, fxR_eMail, h_Msg, hfRows_map h_Msg, ok_eMsg, okR_eMsg, fx_eMsg, fxR_eMsg, -List.map_set]) (by first | rfl | simp [hfVs, hfV, hfL, hfAll, hfRows, mvV, mvL, mvO, mpE, mpV, mpVs, mpO, fzL, rnL, rn0, ok0, nzI, nzB, nzN, nzF, nzP, nzO, nzQ, nzC, shL, shV, shO, okV, okL, okO, List.take_of_length_le, h_Side, hfRows_map h_Side, ok_eSide, okR_eSide, fx_eSide, fxR_eSide, h_Diner, hfRows_map h_Diner, ok_eDiner, okR_eDiner, fx_eDiner, fxR_eDiner, h_Mail, hfRows_map h_Mail, ok_eMail, okR_eMail, fx_eMail, fxR_eMail, h_Msg, hfRows_map h_Msg, ok_eMsg, okR_eMsg, fx_eMsg, fxR_eMsg, -List.map_set]) (by first | rfl | simp [hfVs, hfV, hfL, hfAll, hfRows, mvV, mvL, mvO, mpE, mpV, mpVs, mpO, fzL, rnL, rn0, ok0, nzI, nzB, nzN, nzF, nzP, nzO, nzQ, nzC, shL, shV, shO, okV, okL, okO, List.take_of_length_le, h_Side, hfRows_map h_Side, ok_eSide, okR_eSide, fx_eSide, fxR_eSide, h_Diner, hfRows_map h_Diner, ok_eDiner, okR_eDiner, fx_eDiner, fxR_eDiner, h_Mail, hfRows_map h_Mail, ok_eMail, okR_eMail, fx_eMail, fxR_eMail, h_Msg, hfRows_map h_Msg, ok_eMsg, okR_eMsg, fx_eMsg, fxR_eMsg, -List.map_set]) (by first | rfl | simp [hfVs, hfV, hfL, hfAll, hfRows, mvV, mvL, mvO, mpE, mpV, mpVs, mpO, fzL, rnL, rn0, ok0, nzI, nzB, nzN, nzF, nzP, nzO, nzQ, nzC, shL, shV, shO, okV, okL, okO, List.take_of_length_le, h_Side, hfRows_map h_Side, ok_eSide, okR_eSide, fx_eSide, fxR_eSide, h_Diner, hfRows_map h_Diner, ok_eDiner, okR_eDiner, fx_eDiner, fxR_eDiner, h_Mail, hfRows_map h_Mail, ok_eMail, okR_eMail, fx_eMail, fxR_eMail, h_Msg, hfRows_map h_Msg, ok_eMsg, okR_eMsg, fx_eMsg, fxR_eMsg, -List.map_set]))), rfl⟩
    · rintro _ ⟨z4, rfl, _, hw, rfl⟩
      dsimp only at h
      clear hz2
      refine Wp.weak hw ?_
      refine Wp.seq ?_
      refine Wp.text [6, 7] rfl rfl ?_ -- region 16
      refine TextR.build cm25 rfl ?_
      refine TextR.store1 tk25 rfl rfl rfl rfl rfl rfl .zero ?_
      refine TextR.assign rfl ?_
      refine TextR.done (.cons rfl (.cons rfl .nil)) ?_
      refine Wp.weak (keepW (live := [6, 7] ) (.cons rfl (.cons rfl .nil))) ?_
      refine Wp.weak (nzT (e' := [(6, .c (.ptr 0 0 0 0)), (7, .c (I 131))]) (H' := [.live 0 3 [[I 0, I 0, .slv ([].map eSide)]]]) (by first | rfl | simp [hfVs, hfV, hfL, hfAll, hfRows, mvV, mvL, mvO, mpE, mpV, mpVs, mpO, fzL, rnL, rn0, ok0, nzI, nzB, nzN, nzF, nzP, nzO, nzQ, nzC, shL, shV, shO, okV, okL, okO, List.take_of_length_le, h_Side, hfRows_map h_Side, ok_eSide, okR_eSide, fx_eSide, fxR_eSide, h_Diner, hfRows_map h_Diner, ok_eDiner, okR_eDiner, fx_eDiner, fxR_eDiner, h_Mail, hfRows_map h_Mail, ok_eMail, okR_eMail, fx_eMail, fxR_eMail, h_Msg, hfRows_map h_Msg, ok_eMsg, okR_eMsg, fx_eMsg, fxR_eMsg, -List.map_set]) (by first | rfl | simp [hfVs, hfV, hfL, hfAll, hfRows, mvV, mvL, mvO, mpE, mpV, mpVs, mpO, fzL, rnL, rn0, ok0, nzI, nzB, nzN, nzF, nzP, nzO, nzQ, nzC, shL, shV, shO, okV, okL, okO, List.take_of_length_le, h_Side, hfRows_map h_Side, ok_eSide, okR_eSide, fx_eSide, fxR_eSide, h_Diner, hfRows_map h_Diner, ok_eDiner, okR_eDiner, fx_eDiner, fxR_eDiner, h_Mail, hfRows_map h_Mail, ok_eMail, okR_eMail, fx_eMail, fxR_eMail, h_Msg, hfRows_map h_Msg, ok_eMsg, okR_eMsg, fx_eMsg, fxR_eMsg, -List.map_set])) ?_
      refine Wp.ret ?_
      obtain rfl := Option.some.inj h
      exact Ret.two rfl (resV_cellN tk25 rfl rfl) (resV_tmp rfl) rfl
    · rintro S' ⟨r3, rfl, hR⟩
      dsimp only at h
      obtain rfl := Option.some.inj h
      exact hR
theorem c_narthexref13_Get (N : Nat) (a0 : TDiner) (a1 : Int) (a2 : TMsg) (r : TDiner × Int) (h : narthexref13_Get N a0 a1 a2 = some r) (H : List Ob) : DCall Try.prog 20 [.agg (eDiner a0), .c (I a1), .agg (eMsg a2)] H (.tup [.agg (eDiner r.1), .c (I r.2)]) := DCall.lift (by first | rfl | simp [hfVs, hfV, hfL, hfAll, hfRows, mvV, mvL, mvO, mpE, mpV, mpVs, mpO, fzL, rnL, rn0, ok0, nzI, nzB, nzN, nzF, nzP, nzO, nzQ, nzC, shL, shV, shO, okV, okL, okO, List.take_of_length_le, h_Side, hfRows_map h_Side, ok_eSide, okR_eSide, fx_eSide, fxR_eSide, h_Diner, hfRows_map h_Diner, ok_eDiner, okR_eDiner, fx_eDiner, fxR_eDiner, h_Mail, hfRows_map h_Mail, ok_eMail, okR_eMail, fx_eMail, fxR_eMail, h_Msg, hfRows_map h_Msg, ok_eMsg, okR_eMsg, fx_eMsg, fxR_eMsg, -List.map_set]) (by first | rfl | simp [hfVs, hfV, hfL, hfAll, hfRows, mvV, mvL, mvO, mpE, mpV, mpVs, mpO, fzL, rnL, rn0, ok0, nzI, nzB, nzN, nzF, nzP, nzO, nzQ, nzC, shL, shV, shO, okV, okL, okO, List.take_of_length_le, h_Side, hfRows_map h_Side, ok_eSide, okR_eSide, fx_eSide, fxR_eSide, h_Diner, hfRows_map h_Diner, ok_eDiner, okR_eDiner, fx_eDiner, fxR_eDiner, h_Mail, hfRows_map h_Mail, ok_eMail, okR_eMail, fx_eMail, fxR_eMail, h_Msg, hfRows_map h_Msg, ok_eMsg, okR_eMsg, fx_eMsg, fxR_eMsg, -List.map_set]) (fun _ => by simp [hfVs, hfV, hfL, hfAll, hfRows, mvV, mvL, mvO, mpE, mpV, mpVs, mpO, fzL, rnL, rn0, ok0, nzI, nzB, nzN, nzF, nzP, nzO, nzQ, nzC, shL, shV, shO, okV, okL, okO, List.take_of_length_le, h_Side, hfRows_map h_Side, ok_eSide, okR_eSide, fx_eSide, fxR_eSide, h_Diner, hfRows_map h_Diner, ok_eDiner, okR_eDiner, fx_eDiner, fxR_eDiner, h_Mail, hfRows_map h_Mail, ok_eMail, okR_eMail, fx_eMail, fxR_eMail, h_Msg, hfRows_map h_Msg, ok_eMsg, okR_eMsg, fx_eMsg, fxR_eMsg, -List.map_set]) (w_narthexref13_Get N a0 a1 a2 r h) H
-- narthex/narthexlaw13.DineGets
theorem w_narthexlaw13_DineGets (N : Nat) (a0 : TDiner) (a1 : Int) (a2 : TMsg) (r : Bool) (h : narthexlaw13_DineGets N a0 a1 a2 = some r) : Nx.Call Try.prog 4 [.agg (eDiner a0), .c (I a1), .agg (eMsg a2)] [] fun r' _ => r' = .c (B r) := by
  refine Nx.Call.of_body Try.func4 rfl en4 Try.ntmps4 rfl (fun Γ hok => ?_)
  unfold narthexlaw13_DineGets at h
  refine Wp.seq ?_
  refine Wp.text [1, 3, 5] rfl rfl ?_ -- region 0
  refine TextR.box (cs := [I a0.ID, I a0.Phase, .slv (a0.Sides.map eSide)]) 0 rfl rfl rfl rfl .nil ?_
  refine TextR.box (cs := [I a2.Kind, I a2.Epoch, I a2.Num]) 1 rfl rfl rfl rfl (.cons .nil) ?_
  refine TextR.assign rfl ?_
  refine TextR.done (.cons rfl (.cons rfl (.cons rfl .nil))) ?_
  refine Wp.seq ?_
  refine Wp.seq ?_
  obtain ⟨y1, hy1, h⟩ := bind_some h
  refine Wp.go false none [[], [], [], [(13, false)], [(13, false)], [(13, false)], [(13, false)], []] [] [1, 3, 5, 18] mixed rfl rfl (by kernel_rfl) ?_ -- region 1
  refine RunR.call rfl rfl rfl (fun H => c_narthexlaw13_awake N y1 hy1 H) ?_
  refine RunR.not rfl rfl rfl ?_
  refine RunR.move rfl rfl rfl ?_
  refine RunR.fieldAddr fo25_2 rfl rfl rfl rfl rfl ?_
  refine RunR.load1 tk23 rfl rfl rfl rfl ?_
  refine RunR.lenM us23 rfl rfl rfl rfl ?_
  refine RunR.int rfl rfl rfl rfl rfl ?_
  refine RunR.pickOr rfl rfl rfl rfl ?_
  refine RunR.doneQ (.cons rfl (.cons rfl (.cons rfl (.cons rfl .nil)))) ?_
  refine Wp.condM h rfl (fun hc1 h => ?_) (fun hc1 h => ?_)
  · refine Wp.seq ?_
    obtain ⟨y2, hy2, h⟩ := bind_some h
    refine Wp.text [6] rfl rfl ?_ -- region 2
    refine TextR.dcall rfl rfl (c_narthexlaw13_awake N y2 hy2 _) ?_
    refine TextR.assign rfl ?_
    refine TextR.done (.cons rfl .nil) ?_
    refine Wp.ret ?_
    obtain rfl := Option.some.inj h
    exact Ret.one rfl (resV_tmp rfl) rfl
  · refine Wp.skip ?_
    refine Wp.seq ?_
    obtain ⟨y3, hy3, h⟩ := bind_some h
    obtain ⟨y4, hy4, h⟩ := bind_some h
    refine Wp.go true (some [2]) [] [true, true, true, true, true, true, true, true, false, false, false] [1, 3, 5, 7, 8] mixed rfl rfl (by kernel_rfl) ?_ -- region 3
    refine RunR.loadN (cs := [I a0.ID, I a0.Phase, .slv (a0.Sides.map eSide)]) tk25 rfl rfl rfl rfl ?_
    refine RunR.call rfl rfl rfl (fun H => c_narthexlaw13_Own N a0 y3 hy3 H) ?_
    refine RunR.move rfl rfl rfl ?_
    refine RunR.loadN (cs := [I a2.Kind, I a2.Epoch, I a2.Num]) tk40 rfl rfl rfl rfl ?_
    refine RunR.call rfl rfl rfl (fun H => c_dine_Get N y3 a1 a2 y4 hy4 H) ?_
    refine RunR.move rfl rfl rfl ?_
    refine RunR.extract rfl rfl rfl rfl ?_
    refine RunR.extract rfl rfl rfl rfl ?_
    refine RunR.alloc 2 zc25 rfl rfl rfl rfl (.cons (.cons .nil)) ?_
    refine RunR.store1 tk25 rfl rfl rfl rfl rfl rfl rfl rfl (.succ (.succ .zero)) ?_
    refine RunR.assign rfl rfl rfl ?_
    refine RunR.doneQ (.cons rfl (.cons rfl (.cons rfl (.cons rfl (.cons rfl .nil))))) ?_
    refine Wp.seq ?_
    obtain ⟨y5, hy5, h⟩ := bind_some h
    refine Wp.text [7, 8, 9, 10] rfl rfl ?_ -- region 4
    refine TextR.loadN (cs := [I a0.ID, I a0.Phase, .slv (a0.Sides.map eSide)]) tk25 rfl rfl ?_
    refine TextR.move rfl ?_
    refine TextR.loadN (cs := [I a2.Kind, I a2.Epoch, I a2.Num]) tk40 rfl rfl ?_
    refine TextR.dcall rfl rfl (c_narthexref13_Get N a0 a1 a2 y5 hy5 _) ?_
    refine TextR.move rfl ?_
    refine TextR.extract rfl rfl ?_
    refine TextR.extract rfl rfl ?_
    refine TextR.alloc 3 zc25 rfl rfl (.cons (.cons (.cons .nil))) ?_
    refine TextR.store1 tk25 rfl rfl rfl rfl rfl rfl (.succ (.succ (.succ .zero))) ?_
    refine TextR.assign rfl ?_
    refine TextR.done (.cons rfl (.cons rfl (.cons rfl (.cons rfl .nil)))) ?_
    refine Wp.seq ?_
    obtain ⟨y6, hy6, h⟩ := bind_some h
    refine Wp.go false none [[], [], [], [], [(38, true)], [(38, true)], [(38, true)], [], []] [] [6] mixed rfl rfl (by kernel_rfl) ?_ -- region 5
    refine RunR.loadN (cs := [I y4.1.ID, I y4.1.Phase, .slv (y4.1.Sides.map eSide)]) tk25 rfl rfl rfl rfl ?_
    refine RunR.loadN (cs := [I y5.1.ID, I y5.1.Phase, .slv (y5.1.Sides.map eSide)]) tk25 rfl rfl rfl rfl ?_
    refine RunR.call rfl rfl rfl (fun H => c_narthexref12_SameOne N y4.1 y5.1 y6 hy6 H) ?_
    refine RunR.move rfl rfl rfl ?_
    refine RunR.move rfl rfl rfl ?_
    refine RunR.move rfl rfl rfl ?_
    refine RunR.int rfl rfl rfl rfl rfl ?_
    refine RunR.pickAnd rfl rfl rfl rfl ?_
    refine RunR.assign rfl rfl rfl ?_
    refine RunR.doneQ (.cons rfl .nil) ?_
    refine Wp.ret ?_
    obtain rfl := Option.some.inj h
    exact Ret.one rfl (resV_tmp rfl) rfl
theorem c_narthexlaw13_DineGets (N : Nat) (a0 : TDiner) (a1 : Int) (a2 : TMsg) (r : Bool) (h : narthexlaw13_DineGets N a0 a1 a2 = some r) (H : List Ob) : DCall Try.prog 4 [.agg (eDiner a0), .c (I a1), .agg (eMsg a2)] H (.c (B r)) := DCall.lift (by first | rfl | simp [hfVs, hfV, hfL, hfAll, hfRows, mvV, mvL, mvO, mpE, mpV, mpVs, mpO, fzL, rnL, rn0, ok0, nzI, nzB, nzN, nzF, nzP, nzO, nzQ, nzC, shL, shV, shO, okV, okL, okO, List.take_of_length_le, h_Side, hfRows_map h_Side, ok_eSide, okR_eSide, fx_eSide, fxR_eSide, h_Diner, hfRows_map h_Diner, ok_eDiner, okR_eDiner, fx_eDiner, fxR_eDiner, h_Mail, hfRows_map h_Mail, ok_eMail, okR_eMail, fx_eMail, fxR_eMail, h_Msg, hfRows_map h_Msg, ok_eMsg, okR_eMsg, fx_eMsg, fxR_eMsg, -List.map_set]) (by first | rfl | simp [hfVs, hfV, hfL, hfAll, hfRows, mvV, mvL, mvO, mpE, mpV, mpVs, mpO, fzL, rnL, rn0, ok0, nzI, nzB, nzN, nzF, nzP, nzO, nzQ, nzC, shL, shV, shO, okV, okL, okO, List.take_of_length_le, h_Side, hfRows_map h_Side, ok_eSide, okR_eSide, fx_eSide, fxR_eSide, h_Diner, hfRows_map h_Diner, ok_eDiner, okR_eDiner, fx_eDiner, fxR_eDiner, h_Mail, hfRows_map h_Mail, ok_eMail, okR_eMail, fx_eMail, fxR_eMail, h_Msg, hfRows_map h_Msg, ok_eMsg, okR_eMsg, fx_eMsg, fxR_eMsg, -List.map_set]) (fun _ => by simp [hfVs, hfV, hfL, hfAll, hfRows, mvV, mvL, mvO, mpE, mpV, mpVs, mpO, fzL, rnL, rn0, ok0, nzI, nzB, nzN, nzF, nzP, nzO, nzQ, nzC, shL, shV, shO, okV, okL, okO, List.take_of_length_le, h_Side, hfRows_map h_Side, ok_eSide, okR_eSide, fx_eSide, fxR_eSide, h_Diner, hfRows_map h_Diner, ok_eDiner, okR_eDiner, fx_eDiner, fxR_eDiner, h_Mail, hfRows_map h_Mail, ok_eMail, okR_eMail, fx_eMail, fxR_eMail, h_Msg, hfRows_map h_Msg, ok_eMsg, okR_eMsg, fx_eMsg, fxR_eMsg, -List.map_set]) (w_narthexlaw13_DineGets N a0 a1 a2 r h) H
-- narthex/narthexlaw13.DineTurns
theorem w_narthexlaw13_DineTurns (N : Nat) (a0 : TDiner) (r : Bool) (h : narthexlaw13_DineTurns N a0 = some r) : Nx.Call Try.prog 5 [.agg (eDiner a0)] [] fun r' _ => r' = .c (B r) := by
  refine Nx.Call.of_body Try.func5 rfl en5 Try.ntmps5 rfl (fun Γ hok => ?_)
  unfold narthexlaw13_DineTurns at h
  refine Wp.seq ?_
  refine Wp.text [1] rfl rfl ?_ -- region 0
  refine TextR.box (cs := [I a0.ID, I a0.Phase, .slv (a0.Sides.map eSide)]) 0 rfl rfl rfl rfl .nil ?_
  refine TextR.assign rfl ?_
  refine TextR.done (.cons rfl .nil) ?_
  refine Wp.seq ?_
  refine Wp.seq ?_
  obtain ⟨y1, hy1, h⟩ := bind_some h
  refine Wp.go false none [[], [], [], [(11, false)], [(11, false)], [(11, false)], [(11, false)], []] [] [1, 16] mixed rfl rfl (by kernel_rfl) ?_ -- region 1
  refine RunR.call rfl rfl rfl (fun H => c_narthexlaw13_awake N y1 hy1 H) ?_
  refine RunR.not rfl rfl rfl ?_
  refine RunR.move rfl rfl rfl ?_
  refine RunR.fieldAddr fo25_2 rfl rfl rfl rfl rfl ?_
  refine RunR.load1 tk23 rfl rfl rfl rfl ?_
  refine RunR.lenM us23 rfl rfl rfl rfl ?_
  refine RunR.int rfl rfl rfl rfl rfl ?_
  refine RunR.pickOr rfl rfl rfl rfl ?_
  refine RunR.doneQ (.cons rfl (.cons rfl .nil)) ?_
  refine Wp.condM h rfl (fun hc1 h => ?_) (fun hc1 h => ?_)
  · refine Wp.seq ?_
    obtain ⟨y2, hy2, h⟩ := bind_some h
    refine Wp.text [2] rfl rfl ?_ -- region 2
    refine TextR.dcall rfl rfl (c_narthexlaw13_awake N y2 hy2 _) ?_
    refine TextR.assign rfl ?_
    refine TextR.done (.cons rfl .nil) ?_
    refine Wp.ret ?_
    obtain rfl := Option.some.inj h
    exact Ret.one rfl (resV_tmp rfl) rfl
  · refine Wp.skip ?_
    refine Wp.seq ?_
    obtain ⟨y3, hy3, h⟩ := bind_some h
    obtain ⟨y4, hy4, h⟩ := bind_some h
    refine Wp.text [1, 3, 4] rfl rfl ?_ -- region 3
    refine TextR.loadN (cs := [I a0.ID, I a0.Phase, .slv (a0.Sides.map eSide)]) tk25 rfl rfl ?_
    refine TextR.dcall rfl rfl (c_narthexlaw13_Own N a0 y3 hy3 _) ?_
    refine TextR.dcall rfl rfl (c_dine_Start N y3 y4 hy4 _) ?_
    refine TextR.move rfl ?_
    refine TextR.extract rfl rfl ?_
    refine TextR.extract rfl rfl ?_
    refine TextR.alloc 1 zc25 rfl rfl (.cons .nil) ?_
    refine TextR.store1 tk25 rfl rfl rfl rfl rfl rfl (.succ .zero) ?_
    refine TextR.assign rfl ?_
    refine TextR.done (.cons rfl (.cons rfl (.cons rfl .nil))) ?_
    refine Wp.seq ?_
    obtain ⟨y5, hy5, h⟩ := bind_some h
    obtain ⟨y6, hy6, h⟩ := bind_some h
    refine Wp.text [1, 3, 4, 5, 6] rfl rfl ?_ -- region 4
    refine TextR.loadN (cs := [I a0.ID, I a0.Phase, .slv (a0.Sides.map eSide)]) tk25 rfl rfl ?_
    refine TextR.dcall rfl rfl (c_narthexlaw13_Own N a0 y5 hy5 _) ?_
    refine TextR.dcall rfl rfl (c_dine_Stop N y5 y6 hy6 _) ?_
    refine TextR.move rfl ?_
    refine TextR.extract rfl rfl ?_
    refine TextR.extract rfl rfl ?_
    refine TextR.alloc 2 zc25 rfl rfl (.cons (.cons .nil)) ?_
    refine TextR.store1 tk25 rfl rfl rfl rfl rfl rfl (.succ (.succ .zero)) ?_
    refine TextR.assign rfl ?_
    refine TextR.done (.cons rfl (.cons rfl (.cons rfl (.cons rfl (.cons rfl .nil))))) ?_
    refine Wp.seq ?_
    refine Wp.seq ?_
    obtain ⟨y7, hy7, h⟩ := bind_some h
    refine Wp.text [1, 3, 4, 5, 6, 32] rfl rfl ?_ -- region 5
    refine TextR.loadN (cs := [I a0.ID, I a0.Phase, .slv (a0.Sides.map eSide)]) tk25 rfl rfl ?_
    refine TextR.dcall rfl rfl (c_narthexref13_Check N a0 y7 hy7 _) ?_
    refine TextR.not rfl ?_
    refine TextR.done (.cons rfl (.cons rfl (.cons rfl (.cons rfl (.cons rfl (.cons rfl .nil)))))) ?_
    refine Wp.condM h rfl (fun hc2 h => ?_) (fun hc2 h => ?_)
    · refine Wp.seq ?_
      obtain ⟨y8, hy8, h⟩ := bind_some h
      obtain ⟨y9, hy9, h⟩ := bind_some h
      refine Wp.go false none [[], [], [], [(35, true)], [(35, true)], [], [], [(39, true)], [(39, true)], [(39, true)], [], [], [(44, true)], [(44, true)], [(44, true)], [], []] [] [2] mixed rfl rfl (by kernel_rfl) ?_ -- region 6
      refine RunR.move rfl rfl rfl ?_
      refine RunR.int rfl rfl rfl rfl rfl ?_
      refine RunR.move rfl rfl rfl ?_
      refine RunR.move rfl rfl rfl ?_
      refine RunR.int rfl rfl rfl rfl rfl ?_
      refine RunR.pickAnd rfl rfl rfl rfl ?_
      refine RunR.move rfl rfl rfl ?_
      refine RunR.loadN (cs := [I y4.1.ID, I y4.1.Phase, .slv (y4.1.Sides.map eSide)]) tk25 rfl rfl rfl rfl ?_
      refine RunR.build cm25 rfl rfl rfl ?_
      refine RunR.callG rfl rfl rfl (fun hb H => DCall.nz rfl (c_narthexref12_SameOne N y4.1 (⟨0, 0, []⟩ : TDiner) y8 (ifT hy8 gT hb) H)) ?_
      refine RunR.pickAnd rfl rfl rfl rfl ?_
      refine RunR.move rfl rfl rfl ?_
      refine RunR.loadN (cs := [I y6.1.ID, I y6.1.Phase, .slv (y6.1.Sides.map eSide)]) tk25 rfl rfl rfl rfl ?_
      refine RunR.build cm25 rfl rfl rfl ?_
      refine RunR.callG rfl rfl rfl (fun hb H => DCall.nz rfl (c_narthexref12_SameOne N y6.1 (⟨0, 0, []⟩ : TDiner) y9 (ifT hy9 gT hb) H)) ?_
      refine RunR.pickAnd rfl rfl rfl rfl ?_
      refine RunR.assign rfl rfl rfl ?_
      refine RunR.doneQ (.cons rfl .nil) ?_
      refine Wp.ret ?_
      obtain rfl := Option.some.inj h
      exact Ret.one rfl (resV_tmp rfl) rfl
    · refine Wp.skip ?_
      refine Wp.seq ?_
      apply Wp.forkS 2 [3, 4] [[], [], [], [], [], []] [true, true, false, false, false, false] [[], [], [], [], [], []] [true, true, false, false, false, false] [1, 3, 4, 5, 6, 7, 8] mixed rfl (by kernel_rfl) (by kernel_rfl) (by kernel_rfl) (by kernel_rfl) (by kernel_rfl) -- region 7 FORK
      · refine RunR.loadN (cs := [I a0.ID, I a0.Phase, .slv (a0.Sides.map eSide)]) tk25 rfl rfl rfl rfl ?_
        refine RunR.loadN (cs := [I a0.ID, I a0.Phase, .slv (a0.Sides.map eSide)]) tk25 rfl rfl rfl rfl ?_
        refine RunR.nil ⟨?_, ?_⟩
        · refine RunR.alloc 3 zc25 rfl rfl rfl rfl (.cons (.cons (.cons .nil))) ?_
          refine RunR.alloc 4 zc25 rfl rfl rfl rfl (.cons (.cons (.cons (.cons .nil)))) ?_
          refine RunR.store1 tk25 rfl rfl rfl rfl rfl rfl rfl rfl (.succ (.succ (.succ .zero))) ?_
          refine RunR.store1 tk25 rfl rfl rfl rfl rfl rfl rfl rfl (.succ (.succ (.succ (.succ .zero)))) ?_
          refine RunR.nil ⟨_, (.cons rfl (.cons rfl (.cons rfl (.cons rfl (.cons rfl (.cons rfl (.cons rfl .nil))))))), rfl⟩
        · refine RunR.alloc 3 zc25 rfl rfl rfl rfl (.cons (.cons (.cons .nil))) ?_
          refine RunR.alloc 4 zc25 rfl rfl rfl rfl (.cons (.cons (.cons (.cons .nil)))) ?_
          refine RunR.store1 tk25 rfl rfl rfl rfl rfl rfl rfl rfl (.succ (.succ (.succ (.succ .zero)))) ?_
          refine RunR.store1 tk25 rfl rfl rfl rfl rfl rfl rfl rfl (.succ (.succ (.succ .zero))) ?_
          refine RunR.nil ⟨_, (.cons rfl (.cons rfl (.cons rfl (.cons rfl (.cons rfl (.cons rfl (.cons rfl .nil))))))), pickT [0, 1, 2, 4, 3] [0, 1, 2, 4, 3] 0 hok.len.symm rfl rfl (by decide) (by first | rfl | simp [hfVs, hfV, hfL, hfAll, hfRows, mvV, mvL, mvO, mpE, mpV, mpVs, mpO, fzL, rnL, rn0, ok0, nzI, nzB, nzN, nzF, nzP, nzO, nzQ, nzC, shL, shV, shO, okV, okL, okO, List.take_of_length_le, h_Side, hfRows_map h_Side, ok_eSide, okR_eSide, fx_eSide, fxR_eSide, h_Diner, hfRows_map h_Diner, ok_eDiner, okR_eDiner, fx_eDiner, fxR_eDiner, h_Mail, hfRows_map h_Mail, ok_eMail, okR_eMail, fx_eMail, fxR_eMail, h_Msg, hfRows_map h_Msg, ok_eMsg, okR_eMsg, fx_eMsg, fxR_eMsg, -List.map_set]) (by first | rfl | simp [hfVs, hfV, hfL, hfAll, hfRows, mvV, mvL, mvO, mpE, mpV, mpVs, mpO, fzL, rnL, rn0, ok0, nzI, nzB, nzN, nzF, nzP, nzO, nzQ, nzC, shL, shV, shO, okV, okL, okO, List.take_of_length_le, h_Side, hfRows_map h_Side, ok_eSide, okR_eSide, fx_eSide, fxR_eSide, h_Diner, hfRows_map h_Diner, ok_eDiner, okR_eDiner, fx_eDiner, fxR_eDiner, h_Mail, hfRows_map h_Mail, ok_eMail, okR_eMail, fx_eMail, fxR_eMail, h_Msg, hfRows_map h_Msg, ok_eMsg, okR_eMsg, fx_eMsg, fxR_eMsg, -List.map_set]) (by first | rfl | simp [hfVs, hfV, hfL, hfAll, hfRows, mvV, mvL, mvO, mpE, mpV, mpVs, mpO, fzL, rnL, rn0, ok0, nzI, nzB, nzN, nzF, nzP, nzO, nzQ, nzC, shL, shV, shO, okV, okL, okO, List.take_of_length_le, h_Side, hfRows_map h_Side, ok_eSide, okR_eSide, fx_eSide, fxR_eSide, h_Diner, hfRows_map h_Diner, ok_eDiner, okR_eDiner, fx_eDiner, fxR_eDiner, h_Mail, hfRows_map h_Mail, ok_eMail, okR_eMail, fx_eMail, fxR_eMail, h_Msg, hfRows_map h_Msg, ok_eMsg, okR_eMsg, fx_eMsg, fxR_eMsg, -List.map_set]) (by first | rfl | simp [hfVs, hfV, hfL, hfAll, hfRows, mvV, mvL, mvO, mpE, mpV, mpVs, mpO, fzL, rnL, rn0, ok0, nzI, nzB, nzN, nzF, nzP, nzO, nzQ, nzC, shL, shV, shO, okV, okL, okO, List.take_of_length_le, h_Side, hfRows_map h_Side, ok_eSide, okR_eSide, fx_eSide, fxR_eSide, h_Diner, hfRows_map h_Diner, ok_eDiner, okR_eDiner, fx_eDiner, fxR_eDiner, h_Mail, hfRows_map h_Mail, ok_eMail, okR_eMail, fx_eMail, fxR_eMail, h_Msg, hfRows_map h_Msg, ok_eMsg, okR_eMsg, fx_eMsg, fxR_eMsg, -List.map_set])⟩
      refine Wp.seq ?_
      refine Wp.text [1, 3, 4, 5, 6, 7, 8] rfl rfl ?_ -- region 8
      refine TextR.fieldAddr fo25_1 rfl rfl rfl ?_
      refine TextR.storeF (r' := [I a0.ID, I 1, .slv (a0.Sides.map eSide)]) tk22 rfl rfl rfl rfl rfl rfl rfl (.succ (.succ (.succ .zero))) ?_
      refine TextR.fieldAddr fo25_1 rfl rfl rfl ?_
      refine TextR.storeF (r' := [I a0.ID, I 0, .slv (a0.Sides.map eSide)]) tk22 rfl rfl rfl rfl rfl rfl rfl (.succ (.succ (.succ (.succ .zero)))) ?_
      refine TextR.done (.cons rfl (.cons rfl (.cons rfl (.cons rfl (.cons rfl (.cons rfl (.cons rfl .nil))))))) ?_
      refine Wp.seq ?_
      refine Wp.seq ?_
      obtain ⟨y10, hy10, h⟩ := bind_some h
      refine Wp.go false none [[], [], [], [], [(56, true)], [(56, true)], [(56, true)], [(59, false), (56, true)], [(59, false), (56, true)], [(59, false), (56, true)], [(59, false), (56, true)], [(56, true)], [], [], [(66, false)], [(66, false)], [(66, false)], [(66, false)], [(70, true), (66, false)], [(70, true), (66, false)], [(66, false)], []] [] [1, 5, 6, 8, 74] mixed rfl rfl (by kernel_rfl) ?_ -- region 9
      refine RunR.fieldAddr fo25_1 rfl rfl rfl rfl rfl ?_
      refine RunR.load1 tk22 rfl rfl rfl rfl ?_
      refine RunR.int rfl rfl rfl rfl rfl ?_
      refine RunR.move rfl rfl rfl ?_
      refine RunR.move rfl rfl rfl ?_
      refine RunR.int rfl rfl rfl rfl rfl ?_
      refine RunR.move rfl rfl rfl ?_
      refine RunR.loadN (cs := [I y4.1.ID, I y4.1.Phase, .slv (y4.1.Sides.map eSide)]) tk25 rfl rfl rfl rfl ?_
      refine RunR.loadN (cs := [I a0.ID, I 1, .slv (a0.Sides.map eSide)]) tk25 rfl rfl rfl rfl ?_
      refine RunR.callG rfl rfl rfl (fun hb H => c_narthexref12_SameOne N y4.1 { a0 with Phase := 1 } y10 (ifT hy10 gF hb) H) ?_
      refine RunR.not rfl rfl rfl ?_
      refine RunR.pickOr rfl rfl rfl rfl ?_
      refine RunR.pickAnd rfl rfl rfl rfl ?_
      refine RunR.move rfl rfl rfl ?_
      refine RunR.fieldAddr fo25_1 rfl rfl rfl rfl rfl ?_
      refine RunR.load1 tk22 rfl rfl rfl rfl ?_
      refine RunR.int rfl rfl rfl rfl rfl ?_
      refine RunR.move rfl rfl rfl ?_
      refine RunR.move rfl rfl rfl ?_
      refine RunR.int rfl rfl rfl rfl rfl ?_
      refine RunR.pickAnd rfl rfl rfl rfl ?_
      refine RunR.pickOr rfl rfl rfl rfl ?_
      refine RunR.doneQ (.cons rfl (.cons rfl (.cons rfl (.cons rfl (.cons rfl .nil))))) ?_
      refine Wp.condM h rfl (fun hc3 h => ?_) (fun hc3 h => ?_)
      · refine Wp.seq ?_
        refine Wp.text [2] rfl rfl ?_ -- region 10
        refine TextR.assign rfl ?_
        refine TextR.done (.cons rfl .nil) ?_
        refine Wp.ret ?_
        obtain rfl := Option.some.inj h
        exact Ret.one rfl (resV_tmp rfl) rfl
      · refine Wp.skip ?_
        refine Wp.seq ?_
        obtain ⟨y11, hy11, h⟩ := bind_some h
        refine Wp.go false none [[], [], [], [], [(78, true)], [(78, true)], [], [], [(82, true)], [(82, true)], [(82, true)], [], [], [(87, false)], [(87, false)], [(87, false)], [(87, false)], [(91, true), (87, false)], [(91, true), (87, false)], [(87, false)], [], []] [] [2] mixed rfl rfl (by kernel_rfl) ?_ -- region 11
        refine RunR.fieldAddr fo25_1 rfl rfl rfl rfl rfl ?_
        refine RunR.load1 tk22 rfl rfl rfl rfl ?_
        refine RunR.int rfl rfl rfl rfl rfl ?_
        refine RunR.move rfl rfl rfl ?_
        refine RunR.move rfl rfl rfl ?_
        refine RunR.int rfl rfl rfl rfl rfl ?_
        refine RunR.pickAnd rfl rfl rfl rfl ?_
        refine RunR.move rfl rfl rfl ?_
        refine RunR.loadN (cs := [I y6.1.ID, I y6.1.Phase, .slv (y6.1.Sides.map eSide)]) tk25 rfl rfl rfl rfl ?_
        refine RunR.loadN (cs := [I a0.ID, I 0, .slv (a0.Sides.map eSide)]) tk25 rfl rfl rfl rfl ?_
        refine RunR.callG rfl rfl rfl (fun hb H => c_narthexref12_SameOne N y6.1 { a0 with Phase := 0 } y11 (ifT hy11 gT hb) H) ?_
        refine RunR.pickAnd rfl rfl rfl rfl ?_
        refine RunR.move rfl rfl rfl ?_
        refine RunR.fieldAddr fo25_1 rfl rfl rfl rfl rfl ?_
        refine RunR.load1 tk22 rfl rfl rfl rfl ?_
        refine RunR.int rfl rfl rfl rfl rfl ?_
        refine RunR.move rfl rfl rfl ?_
        refine RunR.move rfl rfl rfl ?_
        refine RunR.int rfl rfl rfl rfl rfl ?_
        refine RunR.pickAnd rfl rfl rfl rfl ?_
        refine RunR.pickOr rfl rfl rfl rfl ?_
        refine RunR.assign rfl rfl rfl ?_
        refine RunR.doneQ (.cons rfl .nil) ?_
        refine Wp.ret ?_
        obtain rfl := Option.some.inj h
        exact Ret.one rfl (resV_tmp rfl) rfl
theorem c_narthexlaw13_DineTurns (N : Nat) (a0 : TDiner) (r : Bool) (h : narthexlaw13_DineTurns N a0 = some r) (H : List Ob) : DCall Try.prog 5 [.agg (eDiner a0)] H (.c (B r)) := DCall.lift (by first | rfl | simp [hfVs, hfV, hfL, hfAll, hfRows, mvV, mvL, mvO, mpE, mpV, mpVs, mpO, fzL, rnL, rn0, ok0, nzI, nzB, nzN, nzF, nzP, nzO, nzQ, nzC, shL, shV, shO, okV, okL, okO, List.take_of_length_le, h_Side, hfRows_map h_Side, ok_eSide, okR_eSide, fx_eSide, fxR_eSide, h_Diner, hfRows_map h_Diner, ok_eDiner, okR_eDiner, fx_eDiner, fxR_eDiner, h_Mail, hfRows_map h_Mail, ok_eMail, okR_eMail, fx_eMail, fxR_eMail, h_Msg, hfRows_map h_Msg, ok_eMsg, okR_eMsg, fx_eMsg, fxR_eMsg, -List.map_set]) (by first | rfl | simp [hfVs, hfV, hfL, hfAll, hfRows, mvV, mvL, mvO, mpE, mpV, mpVs, mpO, fzL, rnL, rn0, ok0, nzI, nzB, nzN, nzF, nzP, nzO, nzQ, nzC, shL, shV, shO, okV, okL, okO, List.take_of_length_le, h_Side, hfRows_map h_Side, ok_eSide, okR_eSide, fx_eSide, fxR_eSide, h_Diner, hfRows_map h_Diner, ok_eDiner, okR_eDiner, fx_eDiner, fxR_eDiner, h_Mail, hfRows_map h_Mail, ok_eMail, okR_eMail, fx_eMail, fxR_eMail, h_Msg, hfRows_map h_Msg, ok_eMsg, okR_eMsg, fx_eMsg, fxR_eMsg, -List.map_set]) (fun _ => by simp [hfVs, hfV, hfL, hfAll, hfRows, mvV, mvL, mvO, mpE, mpV, mpVs, mpO, fzL, rnL, rn0, ok0, nzI, nzB, nzN, nzF, nzP, nzO, nzQ, nzC, shL, shV, shO, okV, okL, okO, List.take_of_length_le, h_Side, hfRows_map h_Side, ok_eSide, okR_eSide, fx_eSide, fxR_eSide, h_Diner, hfRows_map h_Diner, ok_eDiner, okR_eDiner, fx_eDiner, fxR_eDiner, h_Mail, hfRows_map h_Mail, ok_eMail, okR_eMail, fx_eMail, fxR_eMail, h_Msg, hfRows_map h_Msg, ok_eMsg, okR_eMsg, fx_eMsg, fxR_eMsg, -List.map_set]) (w_narthexlaw13_DineTurns N a0 r h) H
-- narthex/narthexlaw13.DineStill
theorem w_narthexlaw13_DineStill (N : Nat) (a0 : TDiner) (r : Bool) (h : narthexlaw13_DineStill N a0 = some r) : Nx.Call Try.prog 6 [.agg (eDiner a0)] [] fun r' _ => r' = .c (B r) := by
  refine Nx.Call.of_body Try.func6 rfl en6 Try.ntmps6 rfl (fun Γ hok => ?_)
  unfold narthexlaw13_DineStill at h
  refine Wp.seq ?_
  refine Wp.text [1] rfl rfl ?_ -- region 0
  refine TextR.box (cs := [I a0.ID, I a0.Phase, .slv (a0.Sides.map eSide)]) 0 rfl rfl rfl rfl .nil ?_
  refine TextR.assign rfl ?_
  refine TextR.done (.cons rfl .nil) ?_
  refine Wp.seq ?_
  refine Wp.seq ?_
  obtain ⟨y1, hy1, h⟩ := bind_some h
  refine Wp.go false none [[], [], [], [(14, false)], [(14, false)], [(14, false)], [(14, false)], []] [] [1, 19] mixed rfl rfl (by kernel_rfl) ?_ -- region 1
  refine RunR.call rfl rfl rfl (fun H => c_narthexlaw13_awake N y1 hy1 H) ?_
  refine RunR.not rfl rfl rfl ?_
  refine RunR.move rfl rfl rfl ?_
  refine RunR.fieldAddr fo25_2 rfl rfl rfl rfl rfl ?_
  refine RunR.load1 tk23 rfl rfl rfl rfl ?_
  refine RunR.lenM us23 rfl rfl rfl rfl ?_
  refine RunR.int rfl rfl rfl rfl rfl ?_
  refine RunR.pickOr rfl rfl rfl rfl ?_
  refine RunR.doneQ (.cons rfl (.cons rfl .nil)) ?_
  refine Wp.condM h rfl (fun hc1 h => ?_) (fun hc1 h => ?_)
  · refine Wp.seq ?_
    obtain ⟨y2, hy2, h⟩ := bind_some h
    refine Wp.text [2] rfl rfl ?_ -- region 2
    refine TextR.dcall rfl rfl (c_narthexlaw13_awake N y2 hy2 _) ?_
    refine TextR.assign rfl ?_
    refine TextR.done (.cons rfl .nil) ?_
    refine Wp.ret ?_
    obtain rfl := Option.some.inj h
    exact Ret.one rfl (resV_tmp rfl) rfl
  · refine Wp.skip ?_
    refine Wp.seq ?_
    obtain ⟨y3, hy3, h⟩ := bind_some h
    obtain ⟨y4, hy4, h⟩ := bind_some h
    refine Wp.text [3, 5] rfl rfl ?_ -- region 3
    refine TextR.loadN (cs := [I a0.ID, I a0.Phase, .slv (a0.Sides.map eSide)]) tk25 rfl rfl ?_
    refine TextR.dcall rfl rfl (c_narthexlaw13_Own N a0 y3 hy3 _) ?_
    refine TextR.dcall rfl rfl (c_dine_Fire N y3 y4 hy4 _) ?_
    refine TextR.move rfl ?_
    refine TextR.extract rfl rfl ?_
    refine TextR.extract rfl rfl ?_
    refine TextR.extract rfl rfl ?_
    refine TextR.alloc 1 zc25 rfl rfl (.cons .nil) ?_
    refine TextR.store1 tk25 rfl rfl rfl rfl rfl rfl (.succ .zero) ?_
    refine TextR.assign rfl ?_
    refine TextR.assign rfl ?_
    refine TextR.done (.cons rfl (.cons rfl .nil)) ?_
    refine Wp.seq ?_
    refine Wp.seq ?_
    refine Wp.text [3, 29] rfl rfl ?_ -- region 4
    refine TextR.move rfl ?_
    refine TextR.int rfl rfl rfl ?_
    refine TextR.done (.cons rfl (.cons rfl .nil)) ?_
    refine Wp.condM h rfl (fun hc2 h => ?_) (fun hc2 h => ?_)
    · refine Wp.seq ?_
      refine Wp.text [2] rfl rfl ?_ -- region 5
      refine TextR.assign rfl ?_
      refine TextR.done (.cons rfl .nil) ?_
      refine Wp.ret ?_
      obtain rfl := Option.some.inj h
      exact Ret.one rfl (resV_tmp rfl) rfl
    · refine Wp.skip ?_
      refine Wp.seq ?_
      obtain ⟨y5, hy5, h⟩ := bind_some h
      obtain ⟨y6, hy6, h⟩ := bind_some h
      refine Wp.text [3, 6, 7, 8] rfl rfl ?_ -- region 6
      refine TextR.loadN (cs := [I y4.1.ID, I y4.1.Phase, .slv (y4.1.Sides.map eSide)]) tk25 rfl rfl ?_
      refine TextR.dcall rfl rfl (c_narthexlaw13_Own N y4.1 y5 hy5 _) ?_
      refine TextR.dcall rfl rfl (c_dine_Fire N y5 y6 hy6 _) ?_
      refine TextR.move rfl ?_
      refine TextR.extract rfl rfl ?_
      refine TextR.extract rfl rfl ?_
      refine TextR.extract rfl rfl ?_
      refine TextR.alloc 2 zc25 rfl rfl (.cons (.cons .nil)) ?_
      refine TextR.store1 tk25 rfl rfl rfl rfl rfl rfl (.succ (.succ .zero)) ?_
      refine TextR.assign rfl ?_
      refine TextR.assign rfl ?_
      refine TextR.done (.cons rfl (.cons rfl (.cons rfl (.cons rfl .nil)))) ?_
      refine Wp.seq ?_
      refine Wp.text [3, 6, 7, 8, 9] rfl rfl ?_ -- region 7
      refine TextR.assign rfl ?_
      refine TextR.done (.cons rfl (.cons rfl (.cons rfl (.cons rfl (.cons rfl .nil))))) ?_
      refine Wp.seq ?_
      refine Wp.seq ?_
      refine Wp.text [3, 6, 7, 8, 9, 10] rfl rfl ?_ -- region 8
      refine TextR.assign rfl ?_
      refine TextR.done (.cons rfl (.cons rfl (.cons rfl (.cons rfl (.cons rfl (.cons rfl .nil)))))) ?_
      obtain ⟨z7, hz7, h⟩ := bind_some h
      refine Wp.fragR (fun S => ∃ z9, z7 = .inr z9 ∧ ∃ S', St.Weak ⟨Try.prog, 110, Γ⟩ S S' ∧ S' = ⟨[(3, .c (.ptr 0 0 0 0)), (6, .c (.ptr 1 0 0 0)), (7, .c (.slv (y6.2.1.map eMail))), (8, .c (I y6.2.2)), (9, .c (B z9))], [.live 0 3 [[I y4.1.ID, I y4.1.Phase, .slv (y4.1.Sides.map eSide)]], .live 0 3 [[I y6.1.ID, I y6.1.Phase, .slv (y6.1.Sides.map eSide)]]]⟩) (fun S => ∃ v, z7 = .inl v ∧ Ret Try.prog Try.f6 (fun r' _ => r' = .c (B v)) .ret S) ?_ ?_ ?_
      · replace h := hz7
        refine Wp.block ?_
        refine Wp.weak (St.Weak.trans (keepW (live := [3, 6, 7, 8, 9, 10]) (.cons rfl (.cons rfl (.cons rfl (.cons rfl (.cons rfl (.cons rfl .nil))))))) (pickT (e' := [(3, .c (.ptr 0 0 0 0)), (6, .c (.ptr 1 0 0 0)), (7, .c (.slv (y6.2.1.map eMail))), (8, .c (I y6.2.2)), (9, .c (B false)), (10, .c (I 0))]) (H' := [.live 0 3 [[I y4.1.ID, I y4.1.Phase, .slv (y4.1.Sides.map eSide)]], .live 0 3 [[I y6.1.ID, I y6.1.Phase, .slv (y6.1.Sides.map eSide)]]]) [1, 2] [0, 0, 1] 0 hok.len.symm rfl rfl (by decide) (by first | rfl | simp [hfVs, hfV, hfL, hfAll, hfRows, mvV, mvL, mvO, mpE, mpV, mpVs, mpO, fzL, rnL, rn0, ok0, nzI, nzB, nzN, nzF, nzP, nzO, nzQ, nzC, shL, shV, shO, okV, okL, okO, List.take_of_length_le, h_Side, hfRows_map h_Side, ok_eSide, okR_eSide, fx_eSide, fxR_eSide, h_Diner, hfRows_map h_Diner, ok_eDiner, okR_eDiner, fx_eDiner, fxR_eDiner, h_Mail, hfRows_map h_Mail, ok_eMail, okR_eMail, fx_eMail, fxR_eMail, h_Msg, hfRows_map h_Msg, ok_eMsg, okR_eMsg, fx_eMsg, fxR_eMsg, -List.map_set]) (by first | rfl | simp [hfVs, hfV, hfL, hfAll, hfRows, mvV, mvL, mvO, mpE, mpV, mpVs, mpO, fzL, rnL, rn0, ok0, nzI, nzB, nzN, nzF, nzP, nzO, nzQ, nzC, shL, shV, shO, okV, okL, okO, List.take_of_length_le, h_Side, hfRows_map h_Side, ok_eSide, okR_eSide, fx_eSide, fxR_eSide, h_Diner, hfRows_map h_Diner, ok_eDiner, okR_eDiner, fx_eDiner, fxR_eDiner, h_Mail, hfRows_map h_Mail, ok_eMail, okR_eMail, fx_eMail, fxR_eMail, h_Msg, hfRows_map h_Msg, ok_eMsg, okR_eMsg, fx_eMsg, fxR_eMsg, -List.map_set]) (by first | rfl | simp [hfVs, hfV, hfL, hfAll, hfRows, mvV, mvL, mvO, mpE, mpV, mpVs, mpO, fzL, rnL, rn0, ok0, nzI, nzB, nzN, nzF, nzP, nzO, nzQ, nzC, shL, shV, shO, okV, okL, okO, List.take_of_length_le, h_Side, hfRows_map h_Side, ok_eSide, okR_eSide, fx_eSide, fxR_eSide, h_Diner, hfRows_map h_Diner, ok_eDiner, okR_eDiner, fx_eDiner, fxR_eDiner, h_Mail, hfRows_map h_Mail, ok_eMail, okR_eMail, fx_eMail, fxR_eMail, h_Msg, hfRows_map h_Msg, ok_eMsg, okR_eMsg, fx_eMsg, fxR_eMsg, -List.map_set]) (by first | rfl | simp [hfVs, hfV, hfL, hfAll, hfRows, mvV, mvL, mvO, mpE, mpV, mpVs, mpO, fzL, rnL, rn0, ok0, nzI, nzB, nzN, nzF, nzP, nzO, nzQ, nzC, shL, shV, shO, okV, okL, okO, List.take_of_length_le, h_Side, hfRows_map h_Side, ok_eSide, okR_eSide, fx_eSide, fxR_eSide, h_Diner, hfRows_map h_Diner, ok_eDiner, okR_eDiner, fx_eDiner, fxR_eDiner, h_Mail, hfRows_map h_Mail, ok_eMail, okR_eMail, fx_eMail, fxR_eMail, h_Msg, hfRows_map h_Msg, ok_eMsg, okR_eMsg, fx_eMsg, fxR_eMsg, -List.map_set]))) ?_
        refine Wp.loop (fun m S => ∃ s9_1, ∃ s10_1, narthexlaw13_DineStill_L1 N y4 m s9_1 s10_1 = some z7 ∧ S = ⟨[(3, .c (.ptr 0 0 0 0)), (6, .c (.ptr 1 0 0 0)), (7, .c (.slv (y6.2.1.map eMail))), (8, .c (I y6.2.2)), (9, .c (B s9_1)), (10, .c (I s10_1))], [.live 0 3 [[I y4.1.ID, I y4.1.Phase, .slv (y4.1.Sides.map eSide)]], .live 0 3 [[I y6.1.ID, I y6.1.Phase, .slv (y6.1.Sides.map eSide)]]]⟩) N ⟨_, _, h, rfl⟩ ?_
        rintro m1 _ ⟨s9_1, s10_1, h, rfl⟩
        cases m1 with
        | zero => rw [narthexlaw13_DineStill_L1.eq_1] at h; cases h
        | succ m1 =>
        rw [narthexlaw13_DineStill_L1.eq_2] at h
        refine Wp.seq ?_
        refine Wp.seq ?_
        refine Wp.text [3, 6, 7, 8, 9, 10, 41] rfl rfl ?_ -- region 9
        refine TextR.move rfl ?_
        refine TextR.fieldAddr fo25_2 rfl rfl rfl ?_
        refine TextR.load1 tk23 rfl rfl ?_
        refine TextR.lenM us23 rfl rfl ?_
        refine TextR.int rfl rfl rfl ?_
        refine TextR.done (.cons rfl (.cons rfl (.cons rfl (.cons rfl (.cons rfl (.cons rfl (.cons rfl .nil))))))) ?_
        refine Wp.condM h rfl (fun hc4 h => ?_) (fun hc4 h => ?_)
        · refine Wp.skip ?_
          refine Wp.seq ?_
          refine Wp.block ?_
          refine Wp.seq ?_
          obtain ⟨x10, hx10, h⟩ := bind_some h
          refine Wp.text [3, 6, 7, 8, 9, 10, 11] rfl rfl ?_ -- region 11
          refine TextR.fieldAddr fo25_2 rfl rfl rfl ?_
          refine TextR.load1 tk23 rfl rfl ?_
          refine TextR.move rfl ?_
          refine TextR.indexA se23 rfl rfl rfl hx10 rfl ?_
          refine TextR.loadNM tk47 rfl (at_get hx10) rfl ?_
          refine TextR.alloc 2 zc47 rfl rfl (.cons (.cons .nil)) ?_
          refine TextR.store1 tk47 rfl rfl rfl rfl rfl rfl (.succ (.succ .zero)) ?_
          refine TextR.done (.cons rfl (.cons rfl (.cons rfl (.cons rfl (.cons rfl (.cons rfl (.cons rfl .nil))))))) ?_
          refine Wp.seq ?_
          refine Wp.seq ?_
          refine Wp.go false none [[], [], [], [(51, true)], [(51, true)], [], [], [(55, true)], [(55, true)], [], [], [(59, true)], [(59, true)], [(59, true)], [], [], [(64, false)], [(64, false)], [(64, false)], [(64, false)], [(68, true), (64, false)], [(68, true), (64, false)], [(68, true), (64, false)], [(64, false)], [(64, false)], [(73, true), (64, false)], [(73, true), (64, false)], [(64, false)], []] [] [3, 6, 7, 8, 9, 10, 11, 77] mixed rfl rfl (by kernel_rfl) ?_ -- region 12
          refine RunR.fieldAddr fo47_3 rfl rfl rfl rfl rfl ?_
          refine RunR.load1 tk4 rfl rfl rfl rfl ?_
          refine RunR.move rfl rfl rfl ?_
          refine RunR.fieldAddr fo47_4 rfl rfl rfl rfl rfl ?_
          refine RunR.load1 tk4 rfl rfl rfl rfl ?_
          refine RunR.pickAnd rfl rfl rfl rfl ?_
          refine RunR.move rfl rfl rfl ?_
          refine RunR.fieldAddr fo47_5 rfl rfl rfl rfl rfl ?_
          refine RunR.load1 tk4 rfl rfl rfl rfl ?_
          refine RunR.pickAnd rfl rfl rfl rfl ?_
          refine RunR.move rfl rfl rfl ?_
          refine RunR.fieldAddr fo25_1 rfl rfl rfl rfl rfl ?_
          refine RunR.load1 tk22 rfl rfl rfl rfl ?_
          refine RunR.int rfl rfl rfl rfl rfl ?_
          refine RunR.pickAnd rfl rfl rfl rfl ?_
          refine RunR.move rfl rfl rfl ?_
          refine RunR.fieldAddr fo25_1 rfl rfl rfl rfl rfl ?_
          refine RunR.load1 tk22 rfl rfl rfl rfl ?_
          refine RunR.int rfl rfl rfl rfl rfl ?_
          refine RunR.move rfl rfl rfl ?_
          refine RunR.fieldAddr fo47_3 rfl rfl rfl rfl rfl ?_
          refine RunR.load1 tk4 rfl rfl rfl rfl ?_
          refine RunR.not rfl rfl rfl ?_
          refine RunR.pickAnd rfl rfl rfl rfl ?_
          refine RunR.move rfl rfl rfl ?_
          refine RunR.fieldAddr fo47_5 rfl rfl rfl rfl rfl ?_
          refine RunR.load1 tk4 rfl rfl rfl rfl ?_
          refine RunR.pickAnd rfl rfl rfl rfl ?_
          refine RunR.pickOr rfl rfl rfl rfl ?_
          refine RunR.doneQ (.cons rfl (.cons rfl (.cons rfl (.cons rfl (.cons rfl (.cons rfl (.cons rfl (.cons rfl .nil)))))))) ?_
          refine Wp.condM h rfl (fun hc5 h => ?_) (fun hc5 h => ?_)
          · refine Wp.seq ?_
            refine Wp.text [2] rfl rfl ?_ -- region 13
            refine TextR.assign rfl ?_
            refine TextR.done (.cons rfl .nil) ?_
            refine Wp.ret ?_
            exact ⟨_, (Option.some.inj h).symm, Ret.one rfl (resV_tmp rfl) rfl⟩
          · refine Wp.skip ?_
            refine Wp.go false none [[], [], [(79, false)], [(79, false)], [(79, false)], [], []] [] [3, 6, 7, 8, 9, 10] mixed rfl rfl (by kernel_rfl) ?_ -- region 14
            refine RunR.move rfl rfl rfl ?_
            refine RunR.move rfl rfl rfl ?_
            refine RunR.fieldAddr fo47_3 rfl rfl rfl rfl rfl ?_
            refine RunR.load1 tk4 rfl rfl rfl rfl ?_
            refine RunR.not rfl rfl rfl ?_
            refine RunR.pickOr rfl rfl rfl rfl ?_
            refine RunR.assign rfl rfl rfl ?_
            refine RunR.doneQ (.cons rfl (.cons rfl (.cons rfl (.cons rfl (.cons rfl (.cons rfl .nil)))))) ?_
            refine Wp.text [3, 6, 7, 8, 9, 10] rfl rfl ?_ -- region 10
            refine TextR.move rfl ?_
            refine TextR.int rfl rfl rfl ?_
            refine TextR.assign rfl ?_
            refine TextR.done (.cons rfl (.cons rfl (.cons rfl (.cons rfl (.cons rfl (.cons rfl .nil)))))) ?_
            exact ⟨m1, Nat.lt_succ_self _, _, (St.Weak.trans (keepW (live := [3, 6, 7, 8, 9, 10]) (.cons rfl (.cons rfl (.cons rfl (.cons rfl (.cons rfl (.cons rfl .nil))))))) (pickT (e' := [(3, .c (.ptr 0 0 0 0)), (6, .c (.ptr 1 0 0 0)), (7, .c (.slv (y6.2.1.map eMail))), (8, .c (I y6.2.2)), (9, .c (B (s9_1 || (!x10.Fork)))), (10, .c (I (w64 (s10_1 + 1))))]) (H' := [.live 0 3 [[I y4.1.ID, I y4.1.Phase, .slv (y4.1.Sides.map eSide)]], .live 0 3 [[I y6.1.ID, I y6.1.Phase, .slv (y6.1.Sides.map eSide)]]]) [0, 1] [0, 1, 0] 0 hok.len.symm rfl rfl (by decide) (by first | rfl | simp [hfVs, hfV, hfL, hfAll, hfRows, mvV, mvL, mvO, mpE, mpV, mpVs, mpO, fzL, rnL, rn0, ok0, nzI, nzB, nzN, nzF, nzP, nzO, nzQ, nzC, shL, shV, shO, okV, okL, okO, List.take_of_length_le, h_Side, hfRows_map h_Side, ok_eSide, okR_eSide, fx_eSide, fxR_eSide, h_Diner, hfRows_map h_Diner, ok_eDiner, okR_eDiner, fx_eDiner, fxR_eDiner, h_Mail, hfRows_map h_Mail, ok_eMail, okR_eMail, fx_eMail, fxR_eMail, h_Msg, hfRows_map h_Msg, ok_eMsg, okR_eMsg, fx_eMsg, fxR_eMsg, -List.map_set]) (by first | rfl | simp [hfVs, hfV, hfL, hfAll, hfRows, mvV, mvL, mvO, mpE, mpV, mpVs, mpO, fzL, rnL, rn0, ok0, nzI, nzB, nzN, nzF, nzP, nzO, nzQ, nzC, shL, shV, shO, okV, okL, okO, List.take_of_length_le, h_Side, hfRows_map h_Side, ok_eSide, okR_eSide, fx_eSide, fxR_eSide, h_Diner, hfRows_map h_Diner, ok_eDiner, okR_eDiner, fx_eDiner, fxR_eDiner, h_Mail, hfRows_map h_Mail, ok_eMail, okR_eMail, fx_eMail, fxR_eMail, h_Msg, hfRows_map h_Msg, ok_eMsg, okR_eMsg, fx_eMsg, fxR_eMsg, -List.map_set]) (by first | rfl | simp [hfVs, hfV, hfL, hfAll, hfRows, mvV, mvL, mvO, mpE, mpV, mpVs, mpO, fzL, rnL, rn0, ok0, nzI, nzB, nzN, nzF, nzP, nzO, nzQ, nzC, shL, shV, shO, okV, okL, okO, List.take_of_length_le, h_Side, hfRows_map h_Side, ok_eSide, okR_eSide, fx_eSide, fxR_eSide, h_Diner, hfRows_map h_Diner, ok_eDiner, okR_eDiner, fx_eDiner, fxR_eDiner, h_Mail, hfRows_map h_Mail, ok_eMail, okR_eMail, fx_eMail, fxR_eMail, h_Msg, hfRows_map h_Msg, ok_eMsg, okR_eMsg, fx_eMsg, fxR_eMsg, -List.map_set]) (by first | rfl | simp [hfVs, hfV, hfL, hfAll, hfRows, mvV, mvL, mvO, mpE, mpV, mpVs, mpO, fzL, rnL, rn0, ok0, nzI, nzB, nzN, nzF, nzP, nzO, nzQ, nzC, shL, shV, shO, okV, okL, okO, List.take_of_length_le, h_Side, hfRows_map h_Side, ok_eSide, okR_eSide, fx_eSide, fxR_eSide, h_Diner, hfRows_map h_Diner, ok_eDiner, okR_eDiner, fx_eDiner, fxR_eDiner, h_Mail, hfRows_map h_Mail, ok_eMail, okR_eMail, fx_eMail, fxR_eMail, h_Msg, hfRows_map h_Msg, ok_eMsg, okR_eMsg, fx_eMsg, fxR_eMsg, -List.map_set]))), _, _, h, rfl⟩
        · refine Wp.exit ?_
          exact ⟨_, (Option.some.inj h).symm, _, (keepW (live := [3, 6, 7, 8, 9]) (.cons rfl (.cons rfl (.cons rfl (.cons rfl (.cons rfl .nil)))))), rfl⟩
      · rintro _ ⟨z9, rfl, _, hw, rfl⟩
        dsimp only at h
        clear hz7
        refine Wp.weak hw ?_
        refine Wp.seq ?_
        obtain ⟨y11, hy11, h⟩ := bind_some h
        obtain ⟨y12, hy12, h⟩ := bind_some h
        obtain ⟨y13, hy13, h⟩ := bind_some h
        refine Wp.go false none [[], [], [], [(86, true)], [(86, true)], [(86, true)], [], [], [(91, true)], [(91, true)], [(91, true)], [], [], [(96, true)], [(96, true)], [(96, true)], [(96, true)], [(100, false), (96, true)], [(96, true)], [], [], [(104, true)], [(104, true)], [(104, true)], [(104, true)], [], []] [] [2] mixed rfl rfl (by kernel_rfl) ?_ -- region 15
        refine RunR.move rfl rfl rfl ?_
        refine RunR.int rfl rfl rfl rfl rfl ?_
        refine RunR.move rfl rfl rfl ?_
        refine RunR.move rfl rfl rfl ?_
        refine RunR.lenM us27 rfl rfl rfl rfl ?_
        refine RunR.int rfl rfl rfl rfl rfl ?_
        refine RunR.pickAnd rfl rfl rfl rfl ?_
        refine RunR.move rfl rfl rfl ?_
        refine RunR.loadN (cs := [I y4.1.ID, I y4.1.Phase, .slv (y4.1.Sides.map eSide)]) tk25 rfl rfl rfl rfl ?_
        refine RunR.loadN (cs := [I y6.1.ID, I y6.1.Phase, .slv (y6.1.Sides.map eSide)]) tk25 rfl rfl rfl rfl ?_
        refine RunR.callG rfl rfl rfl (fun hb H => c_narthexref12_SameOne N y4.1 y6.1 y11 (ifT hy11 gT hb) H) ?_
        refine RunR.pickAnd rfl rfl rfl rfl ?_
        refine RunR.move rfl rfl rfl ?_
        refine RunR.fieldAddr fo25_1 rfl rfl rfl rfl rfl ?_
        refine RunR.load1 tk22 rfl rfl rfl rfl ?_
        refine RunR.int rfl rfl rfl rfl rfl ?_
        refine RunR.move rfl rfl rfl ?_
        refine RunR.move rfl rfl rfl ?_
        refine RunR.pickOr rfl rfl rfl rfl ?_
        refine RunR.pickAnd rfl rfl rfl rfl ?_
        refine RunR.move rfl rfl rfl ?_
        refine RunR.loadN (cs := [I y4.1.ID, I y4.1.Phase, .slv (y4.1.Sides.map eSide)]) tk25 rfl rfl rfl rfl ?_
        refine RunR.callG rfl rfl rfl (fun hb H => c_narthexlaw13_Own N y4.1 y12 (ifT hy12 gT hb) H) ?_
        refine RunR.callG rfl rfl rfl (fun hb H => c_dine_Check N y12 y13 (ifT hy13 gT hb) H) ?_
        refine RunR.int rfl rfl rfl rfl rfl ?_
        refine RunR.pickAnd rfl rfl rfl rfl ?_
        refine RunR.assign rfl rfl rfl ?_
        refine RunR.doneQ (.cons rfl .nil) ?_
        refine Wp.ret ?_
        obtain rfl := Option.some.inj h
        exact Ret.one rfl (resV_tmp rfl) rfl
      · rintro S' ⟨r8, rfl, hR⟩
        dsimp only at h
        obtain rfl := Option.some.inj h
        exact hR
theorem c_narthexlaw13_DineStill (N : Nat) (a0 : TDiner) (r : Bool) (h : narthexlaw13_DineStill N a0 = some r) (H : List Ob) : DCall Try.prog 6 [.agg (eDiner a0)] H (.c (B r)) := DCall.lift (by first | rfl | simp [hfVs, hfV, hfL, hfAll, hfRows, mvV, mvL, mvO, mpE, mpV, mpVs, mpO, fzL, rnL, rn0, ok0, nzI, nzB, nzN, nzF, nzP, nzO, nzQ, nzC, shL, shV, shO, okV, okL, okO, List.take_of_length_le, h_Side, hfRows_map h_Side, ok_eSide, okR_eSide, fx_eSide, fxR_eSide, h_Diner, hfRows_map h_Diner, ok_eDiner, okR_eDiner, fx_eDiner, fxR_eDiner, h_Mail, hfRows_map h_Mail, ok_eMail, okR_eMail, fx_eMail, fxR_eMail, h_Msg, hfRows_map h_Msg, ok_eMsg, okR_eMsg, fx_eMsg, fxR_eMsg, -List.map_set]) (by first | rfl | simp [hfVs, hfV, hfL, hfAll, hfRows, mvV, mvL, mvO, mpE, mpV, mpVs, mpO, fzL, rnL, rn0, ok0, nzI, nzB, nzN, nzF, nzP, nzO, nzQ, nzC, shL, shV, shO, okV, okL, okO, List.take_of_length_le, h_Side, hfRows_map h_Side, ok_eSide, okR_eSide, fx_eSide, fxR_eSide, h_Diner, hfRows_map h_Diner, ok_eDiner, okR_eDiner, fx_eDiner, fxR_eDiner, h_Mail, hfRows_map h_Mail, ok_eMail, okR_eMail, fx_eMail, fxR_eMail, h_Msg, hfRows_map h_Msg, ok_eMsg, okR_eMsg, fx_eMsg, fxR_eMsg, -List.map_set]) (fun _ => by simp [hfVs, hfV, hfL, hfAll, hfRows, mvV, mvL, mvO, mpE, mpV, mpVs, mpO, fzL, rnL, rn0, ok0, nzI, nzB, nzN, nzF, nzP, nzO, nzQ, nzC, shL, shV, shO, okV, okL, okO, List.take_of_length_le, h_Side, hfRows_map h_Side, ok_eSide, okR_eSide, fx_eSide, fxR_eSide, h_Diner, hfRows_map h_Diner, ok_eDiner, okR_eDiner, fx_eDiner, fxR_eDiner, h_Mail, hfRows_map h_Mail, ok_eMail, okR_eMail, fx_eMail, fxR_eMail, h_Msg, hfRows_map h_Msg, ok_eMsg, okR_eMsg, fx_eMsg, fxR_eMsg, -List.map_set]) (w_narthexlaw13_DineStill N a0 r h) H
-- narthex/narthexlaw13.DineKeeps
theorem w_narthexlaw13_DineKeeps (N : Nat) (a0 : TDiner) (r : Bool) (h : narthexlaw13_DineKeeps N a0 = some r) : Nx.Call Try.prog 7 [.agg (eDiner a0)] [] fun r' _ => r' = .c (B r) := by
  refine Nx.Call.of_body Try.func7 rfl en7 Try.ntmps7 rfl (fun Γ hok => ?_)
  unfold narthexlaw13_DineKeeps at h
  refine Wp.seq ?_
  refine Wp.text [1] rfl rfl ?_ -- region 0
  refine TextR.box (cs := [I a0.ID, I a0.Phase, .slv (a0.Sides.map eSide)]) 0 rfl rfl rfl rfl .nil ?_
  refine TextR.assign rfl ?_
  refine TextR.done (.cons rfl .nil) ?_
  refine Wp.seq ?_
  refine Wp.seq ?_
  obtain ⟨y1, hy1, h⟩ := bind_some h
  refine Wp.go false none [[], [], [], [(12, false)], [(12, false)], [(12, false)], [(12, false)], []] [] [1, 17] mixed rfl rfl (by kernel_rfl) ?_ -- region 1
  refine RunR.call rfl rfl rfl (fun H => c_narthexlaw13_awake N y1 hy1 H) ?_
  refine RunR.not rfl rfl rfl ?_
  refine RunR.move rfl rfl rfl ?_
  refine RunR.fieldAddr fo25_2 rfl rfl rfl rfl rfl ?_
  refine RunR.load1 tk23 rfl rfl rfl rfl ?_
  refine RunR.lenM us23 rfl rfl rfl rfl ?_
  refine RunR.int rfl rfl rfl rfl rfl ?_
  refine RunR.pickOr rfl rfl rfl rfl ?_
  refine RunR.doneQ (.cons rfl (.cons rfl .nil)) ?_
  refine Wp.condM h rfl (fun hc1 h => ?_) (fun hc1 h => ?_)
  · refine Wp.seq ?_
    obtain ⟨y2, hy2, h⟩ := bind_some h
    refine Wp.text [2] rfl rfl ?_ -- region 2
    refine TextR.dcall rfl rfl (c_narthexlaw13_awake N y2 hy2 _) ?_
    refine TextR.assign rfl ?_
    refine TextR.done (.cons rfl .nil) ?_
    refine Wp.ret ?_
    obtain rfl := Option.some.inj h
    exact Ret.one rfl (resV_tmp rfl) rfl
  · refine Wp.skip ?_
    refine Wp.seq ?_
    obtain ⟨y3, hy3, h⟩ := bind_some h
    obtain ⟨y4, hy4, h⟩ := bind_some h
    refine Wp.text [1, 3, 4, 5] rfl rfl ?_ -- region 3
    refine TextR.loadN (cs := [I a0.ID, I a0.Phase, .slv (a0.Sides.map eSide)]) tk25 rfl rfl ?_
    refine TextR.dcall rfl rfl (c_narthexlaw13_Own N a0 y3 hy3 _) ?_
    refine TextR.dcall rfl rfl (c_dine_Fire N y3 y4 hy4 _) ?_
    refine TextR.move rfl ?_
    refine TextR.extract rfl rfl ?_
    refine TextR.extract rfl rfl ?_
    refine TextR.extract rfl rfl ?_
    refine TextR.alloc 1 zc25 rfl rfl (.cons .nil) ?_
    refine TextR.store1 tk25 rfl rfl rfl rfl rfl rfl (.succ .zero) ?_
    refine TextR.assign rfl ?_
    refine TextR.assign rfl ?_
    refine TextR.done (.cons rfl (.cons rfl (.cons rfl (.cons rfl .nil)))) ?_
    refine Wp.seq ?_
    refine Wp.seq ?_
    refine Wp.go false none [[], [], [], [(28, false)], [(28, false)], [(28, false)], [(28, false)], [(28, false)], [(28, false)], [(28, false)], []] [] [1, 3, 4, 5, 36] mixed rfl rfl (by kernel_rfl) ?_ -- region 4
    refine RunR.move rfl rfl rfl ?_
    refine RunR.int rfl rfl rfl rfl rfl ?_
    refine RunR.move rfl rfl rfl ?_
    refine RunR.fieldAddr fo25_2 rfl rfl rfl rfl rfl ?_
    refine RunR.load1 tk23 rfl rfl rfl rfl ?_
    refine RunR.lenM us23 rfl rfl rfl rfl ?_
    refine RunR.fieldAddr fo25_2 rfl rfl rfl rfl rfl ?_
    refine RunR.load1 tk23 rfl rfl rfl rfl ?_
    refine RunR.lenM us23 rfl rfl rfl rfl ?_
    refine RunR.int rfl rfl rfl rfl rfl ?_
    refine RunR.pickOr rfl rfl rfl rfl ?_
    refine RunR.doneQ (.cons rfl (.cons rfl (.cons rfl (.cons rfl (.cons rfl .nil))))) ?_
    refine Wp.condM h rfl (fun hc2 h => ?_) (fun hc2 h => ?_)
    · refine Wp.seq ?_
      refine Wp.text [2] rfl rfl ?_ -- region 5
      refine TextR.move rfl ?_
      refine TextR.int rfl rfl rfl ?_
      refine TextR.assign rfl ?_
      refine TextR.done (.cons rfl .nil) ?_
      refine Wp.ret ?_
      obtain rfl := Option.some.inj h
      exact Ret.one rfl (resV_tmp rfl) rfl
    · refine Wp.skip ?_
      refine Wp.seq ?_
      refine Wp.text [1, 3, 4, 6] rfl rfl ?_ -- region 6
      refine TextR.assign rfl ?_
      refine TextR.done (.cons rfl (.cons rfl (.cons rfl (.cons rfl .nil)))) ?_
      refine Wp.seq ?_
      refine Wp.seq ?_
      refine Wp.text [1, 3, 4, 6, 7] rfl rfl ?_ -- region 7
      refine TextR.assign rfl ?_
      refine TextR.done (.cons rfl (.cons rfl (.cons rfl (.cons rfl (.cons rfl .nil))))) ?_
      obtain ⟨z5, hz5, h⟩ := bind_some h
      refine Wp.fragR (fun S => ∃ z7, z5 = .inr z7 ∧ ∃ S', St.Weak ⟨Try.prog, 188, Γ⟩ S S' ∧ S' = ⟨[(1, .c (.ptr 0 0 0 0)), (3, .c (.ptr 1 0 0 0)), (4, .c (.slv (y4.2.1.map eMail))), (6, .c (I z7))], [.live 0 3 [[I a0.ID, I a0.Phase, .slv (a0.Sides.map eSide)]], .live 0 3 [[I y4.1.ID, I y4.1.Phase, .slv (y4.1.Sides.map eSide)]]]⟩) (fun S => ∃ v, z5 = .inl v ∧ Ret Try.prog Try.f7 (fun r' _ => r' = .c (B v)) .ret S) ?_ ?_ ?_
      · replace h := hz5
        refine Wp.block ?_
        refine Wp.weak (keepW (live := [1, 3, 4, 6, 7]) (.cons rfl (.cons rfl (.cons rfl (.cons rfl (.cons rfl .nil)))))) ?_
        refine Wp.loop (fun m S => ∃ s6_1, ∃ s7_1, narthexlaw13_DineKeeps_L1 N a0 y4 m s6_1 s7_1 = some z5 ∧ S = ⟨[(1, .c (.ptr 0 0 0 0)), (3, .c (.ptr 1 0 0 0)), (4, .c (.slv (y4.2.1.map eMail))), (6, .c (I s6_1)), (7, .c (I s7_1))], [.live 0 3 [[I a0.ID, I a0.Phase, .slv (a0.Sides.map eSide)]], .live 0 3 [[I y4.1.ID, I y4.1.Phase, .slv (y4.1.Sides.map eSide)]]]⟩) N ⟨_, _, h, rfl⟩ ?_
        rintro m1 _ ⟨s6_1, s7_1, h, rfl⟩
        cases m1 with
        | zero => rw [narthexlaw13_DineKeeps_L1.eq_1] at h; cases h
        | succ m1 =>
        rw [narthexlaw13_DineKeeps_L1.eq_2] at h
        refine Wp.seq ?_
        refine Wp.seq ?_
        refine Wp.text [1, 3, 4, 6, 7, 43] rfl rfl ?_ -- region 8
        refine TextR.move rfl ?_
        refine TextR.fieldAddr fo25_2 rfl rfl rfl ?_
        refine TextR.load1 tk23 rfl rfl ?_
        refine TextR.lenM us23 rfl rfl ?_
        refine TextR.int rfl rfl rfl ?_
        refine TextR.done (.cons rfl (.cons rfl (.cons rfl (.cons rfl (.cons rfl (.cons rfl .nil)))))) ?_
        refine Wp.condM h rfl (fun hc4 h => ?_) (fun hc4 h => ?_)
        · refine Wp.skip ?_
          refine Wp.seq ?_
          refine Wp.block ?_
          refine Wp.seq ?_
          obtain ⟨x8, hx8, h⟩ := bind_some h
          obtain ⟨x9, hx9, h⟩ := bind_some h
          apply Wp.forkS 10 [2, 3] [[], [], [], [], [], [], [], [], [], [], [], [], [], []] [true, true, true, true, true, true, true, true, true, true, false, false, false, false] [[], [], [], [], [], [], [], [], [], [], [], [], [], []] [true, true, true, true, true, true, true, true, true, true, false, false, false, false] [1, 3, 4, 6, 7, 8, 9] mixed rfl (by kernel_rfl) (by kernel_rfl) (by kernel_rfl) (by kernel_rfl) (by kernel_rfl) -- region 10 FORK
          · refine RunR.fieldAddr fo25_2 rfl rfl rfl rfl rfl ?_
            refine RunR.load1 tk23 rfl rfl rfl rfl ?_
            refine RunR.move rfl rfl rfl ?_
            refine RunR.indexA se23 rfl rfl rfl rfl rfl hx8 rfl ?_
            refine RunR.loadNM tk47 rfl rfl rfl (at_get hx8) rfl ?_
            refine RunR.fieldAddr fo25_2 rfl rfl rfl rfl rfl ?_
            refine RunR.load1 tk23 rfl rfl rfl rfl ?_
            refine RunR.move rfl rfl rfl ?_
            refine RunR.indexA se23 rfl rfl rfl rfl rfl hx9 rfl ?_
            refine RunR.loadNM tk47 rfl rfl rfl (at_get hx9) rfl ?_
            refine RunR.nil ⟨?_, ?_⟩
            · refine RunR.alloc 2 zc47 rfl rfl rfl rfl (.cons (.cons .nil)) ?_
              refine RunR.alloc 3 zc47 rfl rfl rfl rfl (.cons (.cons (.cons .nil))) ?_
              refine RunR.store1 tk47 rfl rfl rfl rfl rfl rfl rfl rfl (.succ (.succ .zero)) ?_
              refine RunR.store1 tk47 rfl rfl rfl rfl rfl rfl rfl rfl (.succ (.succ (.succ .zero))) ?_
              refine RunR.nil ⟨_, (.cons rfl (.cons rfl (.cons rfl (.cons rfl (.cons rfl (.cons rfl (.cons rfl .nil))))))), rfl⟩
            · refine RunR.alloc 2 zc47 rfl rfl rfl rfl (.cons (.cons .nil)) ?_
              refine RunR.alloc 3 zc47 rfl rfl rfl rfl (.cons (.cons (.cons .nil))) ?_
              refine RunR.store1 tk47 rfl rfl rfl rfl rfl rfl rfl rfl (.succ (.succ (.succ .zero))) ?_
              refine RunR.store1 tk47 rfl rfl rfl rfl rfl rfl rfl rfl (.succ (.succ .zero)) ?_
              refine RunR.nil ⟨_, (.cons rfl (.cons rfl (.cons rfl (.cons rfl (.cons rfl (.cons rfl (.cons rfl .nil))))))), pickT [0, 1, 3, 2] [0, 1, 3, 2] 0 hok.len.symm rfl rfl (by decide) (by first | rfl | simp [hfVs, hfV, hfL, hfAll, hfRows, mvV, mvL, mvO, mpE, mpV, mpVs, mpO, fzL, rnL, rn0, ok0, nzI, nzB, nzN, nzF, nzP, nzO, nzQ, nzC, shL, shV, shO, okV, okL, okO, List.take_of_length_le, h_Side, hfRows_map h_Side, ok_eSide, okR_eSide, fx_eSide, fxR_eSide, h_Diner, hfRows_map h_Diner, ok_eDiner, okR_eDiner, fx_eDiner, fxR_eDiner, h_Mail, hfRows_map h_Mail, ok_eMail, okR_eMail, fx_eMail, fxR_eMail, h_Msg, hfRows_map h_Msg, ok_eMsg, okR_eMsg, fx_eMsg, fxR_eMsg, -List.map_set]) (by first | rfl | simp [hfVs, hfV, hfL, hfAll, hfRows, mvV, mvL, mvO, mpE, mpV, mpVs, mpO, fzL, rnL, rn0, ok0, nzI, nzB, nzN, nzF, nzP, nzO, nzQ, nzC, shL, shV, shO, okV, okL, okO, List.take_of_length_le, h_Side, hfRows_map h_Side, ok_eSide, okR_eSide, fx_eSide, fxR_eSide, h_Diner, hfRows_map h_Diner, ok_eDiner, okR_eDiner, fx_eDiner, fxR_eDiner, h_Mail, hfRows_map h_Mail, ok_eMail, okR_eMail, fx_eMail, fxR_eMail, h_Msg, hfRows_map h_Msg, ok_eMsg, okR_eMsg, fx_eMsg, fxR_eMsg, -List.map_set]) (by first | rfl | simp [hfVs, hfV, hfL, hfAll, hfRows, mvV, mvL, mvO, mpE, mpV, mpVs, mpO, fzL, rnL, rn0, ok0, nzI, nzB, nzN, nzF, nzP, nzO, nzQ, nzC, shL, shV, shO, okV, okL, okO, List.take_of_length_le, h_Side, hfRows_map h_Side, ok_eSide, okR_eSide, fx_eSide, fxR_eSide, h_Diner, hfRows_map h_Diner, ok_eDiner, okR_eDiner, fx_eDiner, fxR_eDiner, h_Mail, hfRows_map h_Mail, ok_eMail, okR_eMail, fx_eMail, fxR_eMail, h_Msg, hfRows_map h_Msg, ok_eMsg, okR_eMsg, fx_eMsg, fxR_eMsg, -List.map_set]) (by first | rfl | simp [hfVs, hfV, hfL, hfAll, hfRows, mvV, mvL, mvO, mpE, mpV, mpVs, mpO, fzL, rnL, rn0, ok0, nzI, nzB, nzN, nzF, nzP, nzO, nzQ, nzC, shL, shV, shO, okV, okL, okO, List.take_of_length_le, h_Side, hfRows_map h_Side, ok_eSide, okR_eSide, fx_eSide, fxR_eSide, h_Diner, hfRows_map h_Diner, ok_eDiner, okR_eDiner, fx_eDiner, fxR_eDiner, h_Mail, hfRows_map h_Mail, ok_eMail, okR_eMail, fx_eMail, fxR_eMail, h_Msg, hfRows_map h_Msg, ok_eMsg, okR_eMsg, fx_eMsg, fxR_eMsg, -List.map_set])⟩
          refine Wp.seq ?_
          refine Wp.seq ?_
          refine Wp.go false none [[], [], [], [(58, true)], [(58, true)], [(58, true)], []] [] [1, 3, 4, 6, 7, 8, 9, 62] mixed rfl rfl (by kernel_rfl) ?_ -- region 11
          refine RunR.fieldAddr fo47_3 rfl rfl rfl rfl rfl ?_
          refine RunR.load1 tk4 rfl rfl rfl rfl ?_
          refine RunR.move rfl rfl rfl ?_
          refine RunR.fieldAddr fo47_3 rfl rfl rfl rfl rfl ?_
          refine RunR.load1 tk4 rfl rfl rfl rfl ?_
          refine RunR.not rfl rfl rfl ?_
          refine RunR.pickAnd rfl rfl rfl rfl ?_
          refine RunR.doneQ (.cons rfl (.cons rfl (.cons rfl (.cons rfl (.cons rfl (.cons rfl (.cons rfl (.cons rfl .nil)))))))) ?_
          obtain ⟨z10, hz10, h⟩ := bind_some h
          refine Wp.fragR (fun S => ∃ z12, z10 = .inr z12 ∧ ∃ S', St.Weak ⟨Try.prog, 188, Γ⟩ S S' ∧ S' = ⟨[(1, .c (.ptr 0 0 0 0)), (3, .c (.ptr 1 0 0 0)), (4, .c (.slv (y4.2.1.map eMail))), (6, .c (I z12)), (7, .c (I s7_1)), (8, .c (.ptr 2 0 0 0)), (9, .c (.ptr 3 0 0 0))], [.live 0 3 [[I a0.ID, I a0.Phase, .slv (a0.Sides.map eSide)]], .live 0 3 [[I y4.1.ID, I y4.1.Phase, .slv (y4.1.Sides.map eSide)]], .live 0 8 [[I x8.Peer, I x8.Epoch, I x8.State, B x8.Fork, B x8.Dirty, B x8.Token, B x8.Bottle, B x8.Ask]], .live 0 8 [[I x9.Peer, I x9.Epoch, I x9.State, B x9.Fork, B x9.Dirty, B x9.Token, B x9.Bottle, B x9.Ask]]]⟩) (fun S => ∃ v, z10 = .inl v ∧ Ret Try.prog Try.f7 (fun r' _ => r' = .c (B v)) .ret S) ?_ ?_ ?_
          · replace h := hz10
            refine Wp.condM h rfl (fun hc6 h => ?_) (fun hc6 h => ?_)
            · refine Wp.seq ?_
              refine Wp.seq ?_
              obtain ⟨x13, hx13, h⟩ := bind_some h
              refine Wp.go true (some []) [[], [], [], [], [(66, false)], [(66, false)], [(66, false)], [], [], [(71, false)], [(71, false)], [(71, false)], [(71, false)], [], [], [(77, false)], [(77, false)], [(77, false)], [(77, false)], [(77, false)], [(77, false)], [(77, false)], [(77, false)], [(77, false)], [(77, false)], [(77, false)], [(77, false)], [(77, false)], []] [] [1, 3, 4, 6, 7, 8, 9, 91] mixed rfl rfl (by kernel_rfl) ?_ -- region 12
              refine RunR.fieldAddr fo47_4 rfl rfl rfl rfl rfl ?_
              refine RunR.load1 tk4 rfl rfl rfl rfl ?_
              refine RunR.not rfl rfl rfl ?_
              refine RunR.move rfl rfl rfl ?_
              refine RunR.fieldAddr fo47_5 rfl rfl rfl rfl rfl ?_
              refine RunR.load1 tk4 rfl rfl rfl rfl ?_
              refine RunR.not rfl rfl rfl ?_
              refine RunR.pickOr rfl rfl rfl rfl ?_
              refine RunR.move rfl rfl rfl ?_
              refine RunR.move rfl rfl rfl ?_
              refine RunR.move rfl rfl rfl ?_
              refine RunR.lenM us27 rfl rfl rfl rfl ?_
              refine RunR.int rfl rfl rfl rfl rfl ?_
              refine RunR.pickOr rfl rfl rfl rfl ?_
              refine RunR.move rfl rfl rfl ?_
              refine RunR.move rfl rfl rfl ?_
              refine RunR.move rfl rfl rfl ?_
              refine RunR.indexAG se27 rfl rfl rfl rfl rfl (ifPos hx13 gF) (ifAt hx13 gF) rfl ?_
              refine RunR.loadNG tk49 rfl rfl rfl (ifAt hx13 gF) rfl ?_
              refine RunR.fieldAddr fo25_0 rfl rfl rfl rfl rfl ?_
              refine RunR.load1 tk3 rfl rfl rfl rfl ?_
              refine RunR.fieldAddr fo47_0 rfl rfl rfl rfl rfl ?_
              refine RunR.load1 tk3 rfl rfl rfl rfl ?_
              refine RunR.fieldAddr fo47_1 rfl rfl rfl rfl rfl ?_
              refine RunR.load1 tk3 rfl rfl rfl rfl ?_
              refine RunR.build cm40 rfl rfl rfl ?_
              refine RunR.build cm49 rfl rfl rfl ?_
              refine RunR.neAgg eqs49 rfl rfl rfl rfl (q_Mail x13 (⟨a0.ID, x8.Peer, (⟨1, x8.Epoch, 0⟩ : TMsg)⟩ : TMail)) ?_
              refine RunR.pickOr rfl rfl rfl rfl ?_
              refine RunR.doneQ (.cons rfl (.cons rfl (.cons rfl (.cons rfl (.cons rfl (.cons rfl (.cons rfl (.cons rfl .nil)))))))) ?_
              refine Wp.condM h rfl (fun hc7 h => ?_) (fun hc7 h => ?_)
              · refine Wp.seq ?_
                refine Wp.text [2] rfl rfl ?_ -- region 13
                refine TextR.assign rfl ?_
                refine TextR.done (.cons rfl .nil) ?_
                refine Wp.ret ?_
                exact ⟨_, (Option.some.inj h).symm, Ret.one rfl (resV_tmp rfl) rfl⟩
              · refine Wp.skip ?_
                refine Wp.text [1, 3, 4, 6, 7, 8, 9] rfl rfl ?_ -- region 14
                refine TextR.move rfl ?_
                refine TextR.int rfl rfl rfl ?_
                refine TextR.assign rfl ?_
                refine TextR.done (.cons rfl (.cons rfl (.cons rfl (.cons rfl (.cons rfl (.cons rfl (.cons rfl .nil))))))) ?_
                exact ⟨_, (Option.some.inj h).symm, _, (keepW (live := [1, 3, 4, 6, 7, 8, 9]) (.cons rfl (.cons rfl (.cons rfl (.cons rfl (.cons rfl (.cons rfl (.cons rfl .nil)))))))), rfl⟩
            · refine Wp.skip ?_
              exact ⟨_, (Option.some.inj h).symm, _, (keepW (live := [1, 3, 4, 6, 7, 8, 9]) (.cons rfl (.cons rfl (.cons rfl (.cons rfl (.cons rfl (.cons rfl (.cons rfl .nil)))))))), rfl⟩
          · rintro _ ⟨z12, rfl, _, hw, rfl⟩
            dsimp only at h
            clear hz10
            refine Wp.weak hw ?_
            refine Wp.seq ?_
            refine Wp.seq ?_
            refine Wp.go false none [[], [], [], [(96, true)], [(96, true)], [(96, true)], []] [] [1, 3, 4, 6, 7, 8, 9, 100] mixed rfl rfl (by kernel_rfl) ?_ -- region 15
            refine RunR.fieldAddr fo47_5 rfl rfl rfl rfl rfl ?_
            refine RunR.load1 tk4 rfl rfl rfl rfl ?_
            refine RunR.move rfl rfl rfl ?_
            refine RunR.fieldAddr fo47_5 rfl rfl rfl rfl rfl ?_
            refine RunR.load1 tk4 rfl rfl rfl rfl ?_
            refine RunR.not rfl rfl rfl ?_
            refine RunR.pickAnd rfl rfl rfl rfl ?_
            refine RunR.doneQ (.cons rfl (.cons rfl (.cons rfl (.cons rfl (.cons rfl (.cons rfl (.cons rfl (.cons rfl .nil)))))))) ?_
            obtain ⟨z14, hz14, h⟩ := bind_some h
            refine Wp.fragR (fun S => ∃ z16, z14 = .inr z16 ∧ ∃ S', St.Weak ⟨Try.prog, 188, Γ⟩ S S' ∧ S' = ⟨[(1, .c (.ptr 0 0 0 0)), (3, .c (.ptr 1 0 0 0)), (4, .c (.slv (y4.2.1.map eMail))), (6, .c (I z16)), (7, .c (I s7_1)), (8, .c (.ptr 2 0 0 0)), (9, .c (.ptr 3 0 0 0))], [.live 0 3 [[I a0.ID, I a0.Phase, .slv (a0.Sides.map eSide)]], .live 0 3 [[I y4.1.ID, I y4.1.Phase, .slv (y4.1.Sides.map eSide)]], .live 0 8 [[I x8.Peer, I x8.Epoch, I x8.State, B x8.Fork, B x8.Dirty, B x8.Token, B x8.Bottle, B x8.Ask]], .live 0 8 [[I x9.Peer, I x9.Epoch, I x9.State, B x9.Fork, B x9.Dirty, B x9.Token, B x9.Bottle, B x9.Ask]]]⟩) (fun S => ∃ v, z14 = .inl v ∧ Ret Try.prog Try.f7 (fun r' _ => r' = .c (B v)) .ret S) ?_ ?_ ?_
            · replace h := hz14
              refine Wp.condM h rfl (fun hc7 h => ?_) (fun hc7 h => ?_)
              · refine Wp.seq ?_
                refine Wp.seq ?_
                obtain ⟨x17, hx17, h⟩ := bind_some h
                refine Wp.go true (some []) [[], [], [], [(103, false)], [(103, false)], [(103, false)], [(103, false)], [], [], [(109, false)], [(109, false)], [(109, false)], [(109, false)], [(109, false)], [(109, false)], [(109, false)], [(109, false)], [(109, false)], [(109, false)], [(109, false)], [(109, false)], [(109, false)], []] [] [1, 3, 4, 6, 7, 8, 9, 123] mixed rfl rfl (by kernel_rfl) ?_ -- region 16
                refine RunR.fieldAddr fo47_3 rfl rfl rfl rfl rfl ?_
                refine RunR.load1 tk4 rfl rfl rfl rfl ?_
                refine RunR.move rfl rfl rfl ?_
                refine RunR.move rfl rfl rfl ?_
                refine RunR.move rfl rfl rfl ?_
                refine RunR.lenM us27 rfl rfl rfl rfl ?_
                refine RunR.int rfl rfl rfl rfl rfl ?_
                refine RunR.pickOr rfl rfl rfl rfl ?_
                refine RunR.move rfl rfl rfl ?_
                refine RunR.move rfl rfl rfl ?_
                refine RunR.move rfl rfl rfl ?_
                refine RunR.indexAG se27 rfl rfl rfl rfl rfl (ifPos hx17 gF) (ifAt hx17 gF) rfl ?_
                refine RunR.loadNG tk49 rfl rfl rfl (ifAt hx17 gF) rfl ?_
                refine RunR.fieldAddr fo25_0 rfl rfl rfl rfl rfl ?_
                refine RunR.load1 tk3 rfl rfl rfl rfl ?_
                refine RunR.fieldAddr fo47_0 rfl rfl rfl rfl rfl ?_
                refine RunR.load1 tk3 rfl rfl rfl rfl ?_
                refine RunR.fieldAddr fo47_1 rfl rfl rfl rfl rfl ?_
                refine RunR.load1 tk3 rfl rfl rfl rfl ?_
                refine RunR.build cm40 rfl rfl rfl ?_
                refine RunR.build cm49 rfl rfl rfl ?_
                refine RunR.neAgg eqs49 rfl rfl rfl rfl (q_Mail x17 (⟨a0.ID, x8.Peer, (⟨2, x8.Epoch, 0⟩ : TMsg)⟩ : TMail)) ?_
                refine RunR.pickOr rfl rfl rfl rfl ?_
                refine RunR.doneQ (.cons rfl (.cons rfl (.cons rfl (.cons rfl (.cons rfl (.cons rfl (.cons rfl (.cons rfl .nil)))))))) ?_
                refine Wp.condM h rfl (fun hc8 h => ?_) (fun hc8 h => ?_)
                · refine Wp.seq ?_
                  refine Wp.text [2] rfl rfl ?_ -- region 17
                  refine TextR.assign rfl ?_
                  refine TextR.done (.cons rfl .nil) ?_
                  refine Wp.ret ?_
                  exact ⟨_, (Option.some.inj h).symm, Ret.one rfl (resV_tmp rfl) rfl⟩
                · refine Wp.skip ?_
                  refine Wp.text [1, 3, 4, 6, 7, 8, 9] rfl rfl ?_ -- region 18
                  refine TextR.move rfl ?_
                  refine TextR.int rfl rfl rfl ?_
                  refine TextR.assign rfl ?_
                  refine TextR.done (.cons rfl (.cons rfl (.cons rfl (.cons rfl (.cons rfl (.cons rfl (.cons rfl .nil))))))) ?_
                  exact ⟨_, (Option.some.inj h).symm, _, (keepW (live := [1, 3, 4, 6, 7, 8, 9]) (.cons rfl (.cons rfl (.cons rfl (.cons rfl (.cons rfl (.cons rfl (.cons rfl .nil)))))))), rfl⟩
              · refine Wp.skip ?_
                exact ⟨_, (Option.some.inj h).symm, _, (keepW (live := [1, 3, 4, 6, 7, 8, 9]) (.cons rfl (.cons rfl (.cons rfl (.cons rfl (.cons rfl (.cons rfl (.cons rfl .nil)))))))), rfl⟩
            · rintro _ ⟨z16, rfl, _, hw, rfl⟩
              dsimp only at h
              clear hz14
              refine Wp.weak hw ?_
              refine Wp.seq ?_
              refine Wp.go false none [[], [], [], [], [(129, true)], [(129, true)], [], [], [(133, false)], [(133, false)], [(133, false)], [(133, false)], [(137, true), (133, false)], [(137, true), (133, false)], [(133, false)], [], [], [(142, false)], [(142, false)], [(142, false)], [(142, false)], [(142, false)], [], [], [(149, false)], [(149, false)], [(149, false)], [(149, false)], [(149, false)], [], [], [(156, false)], [(156, false)], [(156, false)], [(156, false)], [(156, false)], [], [], [(163, false)], [(163, false)], [(163, false)], [(163, false)], [(163, false)], [], [], [(170, false)], [(170, false)], [(170, false)], [(170, false)], [(170, false)], []] [] [1, 3, 4, 6, 7, 176] mixed rfl rfl (by kernel_rfl) ?_ -- region 19
              refine RunR.fieldAddr fo47_3 rfl rfl rfl rfl rfl ?_
              refine RunR.load1 tk4 rfl rfl rfl rfl ?_
              refine RunR.not rfl rfl rfl ?_
              refine RunR.move rfl rfl rfl ?_
              refine RunR.fieldAddr fo47_3 rfl rfl rfl rfl rfl ?_
              refine RunR.load1 tk4 rfl rfl rfl rfl ?_
              refine RunR.pickAnd rfl rfl rfl rfl ?_
              refine RunR.move rfl rfl rfl ?_
              refine RunR.fieldAddr fo47_5 rfl rfl rfl rfl rfl ?_
              refine RunR.load1 tk4 rfl rfl rfl rfl ?_
              refine RunR.not rfl rfl rfl ?_
              refine RunR.move rfl rfl rfl ?_
              refine RunR.fieldAddr fo47_5 rfl rfl rfl rfl rfl ?_
              refine RunR.load1 tk4 rfl rfl rfl rfl ?_
              refine RunR.pickAnd rfl rfl rfl rfl ?_
              refine RunR.pickOr rfl rfl rfl rfl ?_
              refine RunR.move rfl rfl rfl ?_
              refine RunR.fieldAddr fo47_6 rfl rfl rfl rfl rfl ?_
              refine RunR.load1 tk4 rfl rfl rfl rfl ?_
              refine RunR.fieldAddr fo47_6 rfl rfl rfl rfl rfl ?_
              refine RunR.load1 tk4 rfl rfl rfl rfl ?_
              refine RunR.neBool (by kernel_rfl) rfl rfl rfl rfl ?_
              refine RunR.pickOr rfl rfl rfl rfl ?_
              refine RunR.move rfl rfl rfl ?_
              refine RunR.fieldAddr fo47_7 rfl rfl rfl rfl rfl ?_
              refine RunR.load1 tk4 rfl rfl rfl rfl ?_
              refine RunR.fieldAddr fo47_7 rfl rfl rfl rfl rfl ?_
              refine RunR.load1 tk4 rfl rfl rfl rfl ?_
              refine RunR.neBool (by kernel_rfl) rfl rfl rfl rfl ?_
              refine RunR.pickOr rfl rfl rfl rfl ?_
              refine RunR.move rfl rfl rfl ?_
              refine RunR.fieldAddr fo47_2 rfl rfl rfl rfl rfl ?_
              refine RunR.load1 tk45 rfl rfl rfl rfl ?_
              refine RunR.fieldAddr fo47_2 rfl rfl rfl rfl rfl ?_
              refine RunR.load1 tk45 rfl rfl rfl rfl ?_
              refine RunR.int rfl rfl rfl rfl rfl ?_
              refine RunR.pickOr rfl rfl rfl rfl ?_
              refine RunR.move rfl rfl rfl ?_
              refine RunR.fieldAddr fo47_0 rfl rfl rfl rfl rfl ?_
              refine RunR.load1 tk3 rfl rfl rfl rfl ?_
              refine RunR.fieldAddr fo47_0 rfl rfl rfl rfl rfl ?_
              refine RunR.load1 tk3 rfl rfl rfl rfl ?_
              refine RunR.int rfl rfl rfl rfl rfl ?_
              refine RunR.pickOr rfl rfl rfl rfl ?_
              refine RunR.move rfl rfl rfl ?_
              refine RunR.fieldAddr fo47_1 rfl rfl rfl rfl rfl ?_
              refine RunR.load1 tk3 rfl rfl rfl rfl ?_
              refine RunR.fieldAddr fo47_1 rfl rfl rfl rfl rfl ?_
              refine RunR.load1 tk3 rfl rfl rfl rfl ?_
              refine RunR.int rfl rfl rfl rfl rfl ?_
              refine RunR.pickOr rfl rfl rfl rfl ?_
              refine RunR.doneQ (.cons rfl (.cons rfl (.cons rfl (.cons rfl (.cons rfl (.cons rfl .nil)))))) ?_
              refine Wp.condM h rfl (fun hc7 h => ?_) (fun hc7 h => ?_)
              · refine Wp.seq ?_
                refine Wp.text [2] rfl rfl ?_ -- region 20
                refine TextR.assign rfl ?_
                refine TextR.done (.cons rfl .nil) ?_
                refine Wp.ret ?_
                exact ⟨_, (Option.some.inj h).symm, Ret.one rfl (resV_tmp rfl) rfl⟩
              · refine Wp.skip ?_
                refine Wp.text [1, 3, 4, 6, 7] rfl rfl ?_ -- region 9
                refine TextR.move rfl ?_
                refine TextR.int rfl rfl rfl ?_
                refine TextR.assign rfl ?_
                refine TextR.done (.cons rfl (.cons rfl (.cons rfl (.cons rfl (.cons rfl .nil))))) ?_
                exact ⟨m1, Nat.lt_succ_self _, _, (St.Weak.trans (keepW (live := [1, 3, 4, 6, 7]) (.cons rfl (.cons rfl (.cons rfl (.cons rfl (.cons rfl .nil)))))) (pickT (e' := [(1, .c (.ptr 0 0 0 0)), (3, .c (.ptr 1 0 0 0)), (4, .c (.slv (y4.2.1.map eMail))), (6, .c (I z16)), (7, .c (I (w64 (s7_1 + 1))))]) (H' := [.live 0 3 [[I a0.ID, I a0.Phase, .slv (a0.Sides.map eSide)]], .live 0 3 [[I y4.1.ID, I y4.1.Phase, .slv (y4.1.Sides.map eSide)]]]) [0, 1] [0, 1, 0, 0] 0 hok.len.symm rfl rfl (by decide) (by first | rfl | simp [hfVs, hfV, hfL, hfAll, hfRows, mvV, mvL, mvO, mpE, mpV, mpVs, mpO, fzL, rnL, rn0, ok0, nzI, nzB, nzN, nzF, nzP, nzO, nzQ, nzC, shL, shV, shO, okV, okL, okO, List.take_of_length_le, h_Side, hfRows_map h_Side, ok_eSide, okR_eSide, fx_eSide, fxR_eSide, h_Diner, hfRows_map h_Diner, ok_eDiner, okR_eDiner, fx_eDiner, fxR_eDiner, h_Mail, hfRows_map h_Mail, ok_eMail, okR_eMail, fx_eMail, fxR_eMail, h_Msg, hfRows_map h_Msg, ok_eMsg, okR_eMsg, fx_eMsg, fxR_eMsg, -List.map_set]) (by first | rfl | simp [hfVs, hfV, hfL, hfAll, hfRows, mvV, mvL, mvO, mpE, mpV, mpVs, mpO, fzL, rnL, rn0, ok0, nzI, nzB, nzN, nzF, nzP, nzO, nzQ, nzC, shL, shV, shO, okV, okL, okO, List.take_of_length_le, h_Side, hfRows_map h_Side, ok_eSide, okR_eSide, fx_eSide, fxR_eSide, h_Diner, hfRows_map h_Diner, ok_eDiner, okR_eDiner, fx_eDiner, fxR_eDiner, h_Mail, hfRows_map h_Mail, ok_eMail, okR_eMail, fx_eMail, fxR_eMail, h_Msg, hfRows_map h_Msg, ok_eMsg, okR_eMsg, fx_eMsg, fxR_eMsg, -List.map_set]) (by first | rfl | simp [hfVs, hfV, hfL, hfAll, hfRows, mvV, mvL, mvO, mpE, mpV, mpVs, mpO, fzL, rnL, rn0, ok0, nzI, nzB, nzN, nzF, nzP, nzO, nzQ, nzC, shL, shV, shO, okV, okL, okO, List.take_of_length_le, h_Side, hfRows_map h_Side, ok_eSide, okR_eSide, fx_eSide, fxR_eSide, h_Diner, hfRows_map h_Diner, ok_eDiner, okR_eDiner, fx_eDiner, fxR_eDiner, h_Mail, hfRows_map h_Mail, ok_eMail, okR_eMail, fx_eMail, fxR_eMail, h_Msg, hfRows_map h_Msg, ok_eMsg, okR_eMsg, fx_eMsg, fxR_eMsg, -List.map_set]) (by first | rfl | simp [hfVs, hfV, hfL, hfAll, hfRows, mvV, mvL, mvO, mpE, mpV, mpVs, mpO, fzL, rnL, rn0, ok0, nzI, nzB, nzN, nzF, nzP, nzO, nzQ, nzC, shL, shV, shO, okV, okL, okO, List.take_of_length_le, h_Side, hfRows_map h_Side, ok_eSide, okR_eSide, fx_eSide, fxR_eSide, h_Diner, hfRows_map h_Diner, ok_eDiner, okR_eDiner, fx_eDiner, fxR_eDiner, h_Mail, hfRows_map h_Mail, ok_eMail, okR_eMail, fx_eMail, fxR_eMail, h_Msg, hfRows_map h_Msg, ok_eMsg, okR_eMsg, fx_eMsg, fxR_eMsg, -List.map_set]))), _, _, h, rfl⟩
            · rintro S' ⟨r15, rfl, hR⟩
              dsimp only at h
              exact ⟨_, (Option.some.inj h).symm, hR⟩
          · rintro S' ⟨r11, rfl, hR⟩
            dsimp only at h
            exact ⟨_, (Option.some.inj h).symm, hR⟩
        · refine Wp.exit ?_
          exact ⟨_, (Option.some.inj h).symm, _, (keepW (live := [1, 3, 4, 6]) (.cons rfl (.cons rfl (.cons rfl (.cons rfl .nil))))), rfl⟩
      · rintro _ ⟨z7, rfl, _, hw, rfl⟩
        dsimp only at h
        clear hz5
        refine Wp.weak hw ?_
        refine Wp.seq ?_
        refine Wp.go false none [[], [], [], [], [], [(181, true)], [(181, true)], [(181, true)], [(181, true)], [(181, true)], [], []] [] [2] mixed rfl rfl (by kernel_rfl) ?_ -- region 21
        refine RunR.move rfl rfl rfl ?_
        refine RunR.move rfl rfl rfl ?_
        refine RunR.lenM us27 rfl rfl rfl rfl ?_
        refine RunR.int rfl rfl rfl rfl rfl ?_
        refine RunR.move rfl rfl rfl ?_
        refine RunR.fieldAddr fo25_0 rfl rfl rfl rfl rfl ?_
        refine RunR.load1 tk3 rfl rfl rfl rfl ?_
        refine RunR.fieldAddr fo25_0 rfl rfl rfl rfl rfl ?_
        refine RunR.load1 tk3 rfl rfl rfl rfl ?_
        refine RunR.int rfl rfl rfl rfl rfl ?_
        refine RunR.pickAnd rfl rfl rfl rfl ?_
        refine RunR.assign rfl rfl rfl ?_
        refine RunR.doneQ (.cons rfl .nil) ?_
        refine Wp.ret ?_
        obtain rfl := Option.some.inj h
        exact Ret.one rfl (resV_tmp rfl) rfl
      · rintro S' ⟨r6, rfl, hR⟩
        dsimp only at h
        obtain rfl := Option.some.inj h
        exact hR
theorem c_narthexlaw13_DineKeeps (N : Nat) (a0 : TDiner) (r : Bool) (h : narthexlaw13_DineKeeps N a0 = some r) (H : List Ob) : DCall Try.prog 7 [.agg (eDiner a0)] H (.c (B r)) := DCall.lift (by first | rfl | simp [hfVs, hfV, hfL, hfAll, hfRows, mvV, mvL, mvO, mpE, mpV, mpVs, mpO, fzL, rnL, rn0, ok0, nzI, nzB, nzN, nzF, nzP, nzO, nzQ, nzC, shL, shV, shO, okV, okL, okO, List.take_of_length_le, h_Side, hfRows_map h_Side, ok_eSide, okR_eSide, fx_eSide, fxR_eSide, h_Diner, hfRows_map h_Diner, ok_eDiner, okR_eDiner, fx_eDiner, fxR_eDiner, h_Mail, hfRows_map h_Mail, ok_eMail, okR_eMail, fx_eMail, fxR_eMail, h_Msg, hfRows_map h_Msg, ok_eMsg, okR_eMsg, fx_eMsg, fxR_eMsg, -List.map_set]) (by first | rfl | simp [hfVs, hfV, hfL, hfAll, hfRows, mvV, mvL, mvO, mpE, mpV, mpVs, mpO, fzL, rnL, rn0, ok0, nzI, nzB, nzN, nzF, nzP, nzO, nzQ, nzC, shL, shV, shO, okV, okL, okO, List.take_of_length_le, h_Side, hfRows_map h_Side, ok_eSide, okR_eSide, fx_eSide, fxR_eSide, h_Diner, hfRows_map h_Diner, ok_eDiner, okR_eDiner, fx_eDiner, fxR_eDiner, h_Mail, hfRows_map h_Mail, ok_eMail, okR_eMail, fx_eMail, fxR_eMail, h_Msg, hfRows_map h_Msg, ok_eMsg, okR_eMsg, fx_eMsg, fxR_eMsg, -List.map_set]) (fun _ => by simp [hfVs, hfV, hfL, hfAll, hfRows, mvV, mvL, mvO, mpE, mpV, mpVs, mpO, fzL, rnL, rn0, ok0, nzI, nzB, nzN, nzF, nzP, nzO, nzQ, nzC, shL, shV, shO, okV, okL, okO, List.take_of_length_le, h_Side, hfRows_map h_Side, ok_eSide, okR_eSide, fx_eSide, fxR_eSide, h_Diner, hfRows_map h_Diner, ok_eDiner, okR_eDiner, fx_eDiner, fxR_eDiner, h_Mail, hfRows_map h_Mail, ok_eMail, okR_eMail, fx_eMail, fxR_eMail, h_Msg, hfRows_map h_Msg, ok_eMsg, okR_eMsg, fx_eMsg, fxR_eMsg, -List.map_set]) (w_narthexlaw13_DineKeeps N a0 r h) H
-- narthex/narthexref12.Side
theorem w_narthexref12_Side (N : Nat) (a0 : TDiner) (a1 : Int) (r : TSide × Bool) (h : narthexref12_Side N a0 a1 = some r) : Nx.Call Try.prog 23 [.agg (eDiner a0), .c (I a1)] [] fun r' _ => r' = .tup [.agg (eSide r.1), .c (B r.2)] := by
  refine Nx.Call.of_body Try.func23 rfl en23 Try.ntmps23 rfl (fun Γ hok => ?_)
  unfold narthexref12_Side at h
  refine Wp.seq ?_
  refine Wp.text [1, 2, 4] rfl rfl ?_ -- region 0
  refine TextR.box (cs := [I a0.ID, I a0.Phase, .slv (a0.Sides.map eSide)]) 0 rfl rfl rfl rfl .nil ?_
  refine TextR.alloc 1 zc47 rfl rfl (.cons .nil) ?_
  refine TextR.assign rfl ?_
  refine TextR.done (.cons rfl (.cons rfl (.cons rfl .nil))) ?_
  refine Wp.seq ?_
  refine Wp.seq ?_
  refine Wp.text [1, 2, 4, 6] rfl rfl ?_ -- region 1
  refine TextR.assign rfl ?_
  refine TextR.done (.cons rfl (.cons rfl (.cons rfl (.cons rfl .nil)))) ?_
  obtain ⟨z1, hz1, h⟩ := bind_some h
  refine Wp.fragR (fun S => ∃ z3, z1 = .inr z3 ∧ ∃ S', St.Weak ⟨Try.prog, 28, Γ⟩ S S' ∧ S' = ⟨[(4, .c (.ptr 0 0 0 0))], [.live 0 8 [[I 0, I 0, I 0, B false, B false, B false, B false, B false]]]⟩) (fun S => ∃ v, z1 = .inl v ∧ Ret Try.prog Try.f23 (fun r' _ => r' = .tup [.agg (eSide v.1), .c (B v.2)]) .ret S) ?_ ?_ ?_
  · replace h := hz1
    refine Wp.block ?_
    refine Wp.weak (keepW (live := [1, 2, 4, 6]) (.cons rfl (.cons rfl (.cons rfl (.cons rfl .nil))))) ?_
    refine Wp.loop (fun m S => ∃ s6_1, narthexref12_Side_L1 N a0 a1 m s6_1 = some z1 ∧ S = ⟨[(1, .c (I a1)), (2, .c (.ptr 0 0 0 0)), (4, .c (.ptr 1 0 0 0)), (6, .c (I s6_1))], [.live 0 3 [[I a0.ID, I a0.Phase, .slv (a0.Sides.map eSide)]], .live 0 8 [[I 0, I 0, I 0, B false, B false, B false, B false, B false]]]⟩) N ⟨_, h, rfl⟩ ?_
    rintro m1 _ ⟨s6_1, h, rfl⟩
    cases m1 with
    | zero => rw [narthexref12_Side_L1.eq_1] at h; cases h
    | succ m1 =>
    rw [narthexref12_Side_L1.eq_2] at h
    refine Wp.seq ?_
    refine Wp.seq ?_
    refine Wp.text [1, 2, 4, 6, 11] rfl rfl ?_ -- region 2
    refine TextR.move rfl ?_
    refine TextR.fieldAddr fo25_2 rfl rfl rfl ?_
    refine TextR.load1 tk23 rfl rfl ?_
    refine TextR.lenM us23 rfl rfl ?_
    refine TextR.int rfl rfl rfl ?_
    refine TextR.done (.cons rfl (.cons rfl (.cons rfl (.cons rfl (.cons rfl .nil))))) ?_
    refine Wp.condM h rfl (fun hc2 h => ?_) (fun hc2 h => ?_)
    · refine Wp.skip ?_
      refine Wp.seq ?_
      refine Wp.block ?_
      refine Wp.seq ?_
      obtain ⟨x4, hx4, h⟩ := bind_some h
      refine Wp.text [1, 2, 4, 6, 21] rfl rfl ?_ -- region 4
      refine TextR.fieldAddr fo25_2 rfl rfl rfl ?_
      refine TextR.load1 tk23 rfl rfl ?_
      refine TextR.move rfl ?_
      refine TextR.indexA se23 rfl rfl rfl hx4 rfl ?_
      refine TextR.fieldAddr fo47_0 rfl rfl rfl ?_
      refine TextR.load1M tk3 rfl (at_get hx4) rfl ?_
      refine TextR.move rfl ?_
      refine TextR.int rfl rfl rfl ?_
      refine TextR.done (.cons rfl (.cons rfl (.cons rfl (.cons rfl (.cons rfl .nil))))) ?_
      refine Wp.condM h rfl (fun hc3 h => ?_) (fun hc3 h => ?_)
      · refine Wp.seq ?_
        obtain ⟨x5, hx5, h⟩ := bind_some h
        refine Wp.text [4, 5] rfl rfl ?_ -- region 5
        refine TextR.fieldAddr fo25_2 rfl rfl rfl ?_
        refine TextR.load1 tk23 rfl rfl ?_
        refine TextR.move rfl ?_
        refine TextR.indexA se23 rfl rfl rfl hx5 rfl ?_
        refine TextR.loadNM tk47 rfl (at_get hx5) rfl ?_
        refine TextR.store1 tk47 rfl rfl rfl rfl rfl rfl (.succ .zero) ?_
        refine TextR.assign rfl ?_
        refine TextR.done (.cons rfl (.cons rfl .nil)) ?_
        refine Wp.ret ?_
        exact ⟨_, (Option.some.inj h).symm, Ret.two rfl (resV_cellN tk47 rfl rfl) (resV_tmp rfl) rfl⟩
      · refine Wp.skip ?_
        refine Wp.text [1, 2, 4, 6] rfl rfl ?_ -- region 3
        refine TextR.move rfl ?_
        refine TextR.int rfl rfl rfl ?_
        refine TextR.assign rfl ?_
        refine TextR.done (.cons rfl (.cons rfl (.cons rfl (.cons rfl .nil)))) ?_
        exact ⟨m1, Nat.lt_succ_self _, _, (keepW (live := [1, 2, 4, 6]) (.cons rfl (.cons rfl (.cons rfl (.cons rfl .nil))))), _, h, rfl⟩
    · refine Wp.exit ?_
      exact ⟨_, (Option.some.inj h).symm, _, (St.Weak.trans (keepW (live := [4]) (.cons rfl .nil)) (pickT (e' := [(4, .c (.ptr 0 0 0 0))]) (H' := [.live 0 8 [[I 0, I 0, I 0, B false, B false, B false, B false, B false]]]) [1] [0, 0] 0 hok.len.symm rfl rfl (by decide) (by first | rfl | simp [hfVs, hfV, hfL, hfAll, hfRows, mvV, mvL, mvO, mpE, mpV, mpVs, mpO, fzL, rnL, rn0, ok0, nzI, nzB, nzN, nzF, nzP, nzO, nzQ, nzC, shL, shV, shO, okV, okL, okO, List.take_of_length_le, h_Side, hfRows_map h_Side, ok_eSide, okR_eSide, fx_eSide, fxR_eSide, h_Diner, hfRows_map h_Diner, ok_eDiner, okR_eDiner, fx_eDiner, fxR_eDiner, h_Mail, hfRows_map h_Mail, ok_eMail, okR_eMail, fx_eMail, fxR_eMail, h_Msg, hfRows_map h_Msg, ok_eMsg, okR_eMsg, fx_eMsg, fxR_eMsg, -List.map_set]) (by first | rfl | simp [hfVs, hfV, hfL, hfAll, hfRows, mvV, mvL, mvO, mpE, mpV, mpVs, mpO, fzL, rnL, rn0, ok0, nzI, nzB, nzN, nzF, nzP, nzO, nzQ, nzC, shL, shV, shO, okV, okL, okO, List.take_of_length_le, h_Side, hfRows_map h_Side, ok_eSide, okR_eSide, fx_eSide, fxR_eSide, h_Diner, hfRows_map h_Diner, ok_eDiner, okR_eDiner, fx_eDiner, fxR_eDiner, h_Mail, hfRows_map h_Mail, ok_eMail, okR_eMail, fx_eMail, fxR_eMail, h_Msg, hfRows_map h_Msg, ok_eMsg, okR_eMsg, fx_eMsg, fxR_eMsg, -List.map_set]) (by first | rfl | simp [hfVs, hfV, hfL, hfAll, hfRows, mvV, mvL, mvO, mpE, mpV, mpVs, mpO, fzL, rnL, rn0, ok0, nzI, nzB, nzN, nzF, nzP, nzO, nzQ, nzC, shL, shV, shO, okV, okL, okO, List.take_of_length_le, h_Side, hfRows_map h_Side, ok_eSide, okR_eSide, fx_eSide, fxR_eSide, h_Diner, hfRows_map h_Diner, ok_eDiner, okR_eDiner, fx_eDiner, fxR_eDiner, h_Mail, hfRows_map h_Mail, ok_eMail, okR_eMail, fx_eMail, fxR_eMail, h_Msg, hfRows_map h_Msg, ok_eMsg, okR_eMsg, fx_eMsg, fxR_eMsg, -List.map_set]) (by first | rfl | simp [hfVs, hfV, hfL, hfAll, hfRows, mvV, mvL, mvO, mpE, mpV, mpVs, mpO, fzL, rnL, rn0, ok0, nzI, nzB, nzN, nzF, nzP, nzO, nzQ, nzC, shL, shV, shO, okV, okL, okO, List.take_of_length_le, h_Side, hfRows_map h_Side, ok_eSide, okR_eSide, fx_eSide, fxR_eSide, h_Diner, hfRows_map h_Diner, ok_eDiner, okR_eDiner, fx_eDiner, fxR_eDiner, h_Mail, hfRows_map h_Mail, ok_eMail, okR_eMail, fx_eMail, fxR_eMail, h_Msg, hfRows_map h_Msg, ok_eMsg, okR_eMsg, fx_eMsg, fxR_eMsg, -List.map_set]))), rfl⟩
  · rintro _ ⟨z3, rfl, _, hw, rfl⟩
    dsimp only at h
    clear hz1
    refine Wp.weak hw ?_
    refine Wp.seq ?_
    refine Wp.text [4, 5] rfl rfl ?_ -- region 6
    refine TextR.build cm47 rfl ?_
    refine TextR.store1 tk47 rfl rfl rfl rfl rfl rfl .zero ?_
    refine TextR.assign rfl ?_
    refine TextR.done (.cons rfl (.cons rfl .nil)) ?_
    refine Wp.ret ?_
    obtain rfl := Option.some.inj h
    exact Ret.two rfl (resV_cellN tk47 rfl rfl) (resV_tmp rfl) rfl
  · rintro S' ⟨r2, rfl, hR⟩
    dsimp only at h
    obtain rfl := Option.some.inj h
    exact hR
theorem c_narthexref12_Side (N : Nat) (a0 : TDiner) (a1 : Int) (r : TSide × Bool) (h : narthexref12_Side N a0 a1 = some r) (H : List Ob) : DCall Try.prog 23 [.agg (eDiner a0), .c (I a1)] H (.tup [.agg (eSide r.1), .c (B r.2)]) := DCall.lift (by first | rfl | simp [hfVs, hfV, hfL, hfAll, hfRows, mvV, mvL, mvO, mpE, mpV, mpVs, mpO, fzL, rnL, rn0, ok0, nzI, nzB, nzN, nzF, nzP, nzO, nzQ, nzC, shL, shV, shO, okV, okL, okO, List.take_of_length_le, h_Side, hfRows_map h_Side, ok_eSide, okR_eSide, fx_eSide, fxR_eSide, h_Diner, hfRows_map h_Diner, ok_eDiner, okR_eDiner, fx_eDiner, fxR_eDiner, h_Mail, hfRows_map h_Mail, ok_eMail, okR_eMail, fx_eMail, fxR_eMail, h_Msg, hfRows_map h_Msg, ok_eMsg, okR_eMsg, fx_eMsg, fxR_eMsg, -List.map_set]) (by first | rfl | simp [hfVs, hfV, hfL, hfAll, hfRows, mvV, mvL, mvO, mpE, mpV, mpVs, mpO, fzL, rnL, rn0, ok0, nzI, nzB, nzN, nzF, nzP, nzO, nzQ, nzC, shL, shV, shO, okV, okL, okO, List.take_of_length_le, h_Side, hfRows_map h_Side, ok_eSide, okR_eSide, fx_eSide, fxR_eSide, h_Diner, hfRows_map h_Diner, ok_eDiner, okR_eDiner, fx_eDiner, fxR_eDiner, h_Mail, hfRows_map h_Mail, ok_eMail, okR_eMail, fx_eMail, fxR_eMail, h_Msg, hfRows_map h_Msg, ok_eMsg, okR_eMsg, fx_eMsg, fxR_eMsg, -List.map_set]) (fun _ => by simp [hfVs, hfV, hfL, hfAll, hfRows, mvV, mvL, mvO, mpE, mpV, mpVs, mpO, fzL, rnL, rn0, ok0, nzI, nzB, nzN, nzF, nzP, nzO, nzQ, nzC, shL, shV, shO, okV, okL, okO, List.take_of_length_le, h_Side, hfRows_map h_Side, ok_eSide, okR_eSide, fx_eSide, fxR_eSide, h_Diner, hfRows_map h_Diner, ok_eDiner, okR_eDiner, fx_eDiner, fxR_eDiner, h_Mail, hfRows_map h_Mail, ok_eMail, okR_eMail, fx_eMail, fxR_eMail, h_Msg, hfRows_map h_Msg, ok_eMsg, okR_eMsg, fx_eMsg, fxR_eMsg, -List.map_set]) (w_narthexref12_Side N a0 a1 r h) H
-- narthex/narthexlaw13.DineClean
theorem w_narthexlaw13_DineClean (N : Nat) (a0 : TDiner) (a1 : Int) (a2 : Int) (r : Bool) (h : narthexlaw13_DineClean N a0 a1 a2 = some r) : Nx.Call Try.prog 8 [.agg (eDiner a0), .c (I a1), .c (I a2)] [] fun r' _ => r' = .c (B r) := by
  refine Nx.Call.of_body Try.func8 rfl en8 Try.ntmps8 rfl (fun Γ hok => ?_)
  unfold narthexlaw13_DineClean at h
  refine Wp.seq ?_
  refine Wp.text [1, 2, 3] rfl rfl ?_ -- region 0
  refine TextR.box (cs := [I a0.ID, I a0.Phase, .slv (a0.Sides.map eSide)]) 0 rfl rfl rfl rfl .nil ?_
  refine TextR.assign rfl ?_
  refine TextR.done (.cons rfl (.cons rfl (.cons rfl .nil))) ?_
  refine Wp.seq ?_
  refine Wp.seq ?_
  obtain ⟨y1, hy1, h⟩ := bind_some h
  refine Wp.go false none [[], [], [], [(23, false)], [(23, false)], [(23, false)], [(23, false)], []] [] [1, 2, 3, 28] mixed rfl rfl (by kernel_rfl) ?_ -- region 1
  refine RunR.call rfl rfl rfl (fun H => c_narthexlaw13_awake N y1 hy1 H) ?_
  refine RunR.not rfl rfl rfl ?_
  refine RunR.move rfl rfl rfl ?_
  refine RunR.fieldAddr fo25_2 rfl rfl rfl rfl rfl ?_
  refine RunR.load1 tk23 rfl rfl rfl rfl ?_
  refine RunR.lenM us23 rfl rfl rfl rfl ?_
  refine RunR.int rfl rfl rfl rfl rfl ?_
  refine RunR.pickOr rfl rfl rfl rfl ?_
  refine RunR.doneQ (.cons rfl (.cons rfl (.cons rfl (.cons rfl .nil)))) ?_
  refine Wp.condM h rfl (fun hc1 h => ?_) (fun hc1 h => ?_)
  · refine Wp.seq ?_
    obtain ⟨y2, hy2, h⟩ := bind_some h
    refine Wp.text [6] rfl rfl ?_ -- region 2
    refine TextR.dcall rfl rfl (c_narthexlaw13_awake N y2 hy2 _) ?_
    refine TextR.assign rfl ?_
    refine TextR.done (.cons rfl .nil) ?_
    refine Wp.ret ?_
    obtain rfl := Option.some.inj h
    exact Ret.one rfl (resV_tmp rfl) rfl
  · refine Wp.skip ?_
    refine Wp.seq ?_
    obtain ⟨y3, hy3, h⟩ := bind_some h
    obtain ⟨y4, hy4, h⟩ := bind_some h
    refine Wp.text [1, 2, 3, 7, 8] rfl rfl ?_ -- region 3
    refine TextR.loadN (cs := [I a0.ID, I a0.Phase, .slv (a0.Sides.map eSide)]) tk25 rfl rfl ?_
    refine TextR.dcall rfl rfl (c_narthexlaw13_Own N a0 y3 hy3 _) ?_
    refine TextR.move rfl ?_
    refine TextR.move rfl ?_
    refine TextR.build cm40 rfl ?_
    refine TextR.dcall rfl rfl (c_dine_Get N y3 a1 (⟨1, a2, 0⟩ : TMsg) y4 hy4 _) ?_
    refine TextR.move rfl ?_
    refine TextR.extract rfl rfl ?_
    refine TextR.extract rfl rfl ?_
    refine TextR.alloc 1 zc25 rfl rfl (.cons .nil) ?_
    refine TextR.store1 tk25 rfl rfl rfl rfl rfl rfl (.succ .zero) ?_
    refine TextR.assign rfl ?_
    refine TextR.done (.cons rfl (.cons rfl (.cons rfl (.cons rfl (.cons rfl .nil))))) ?_
    refine Wp.seq ?_
    refine Wp.seq ?_
    refine Wp.text [1, 2, 3, 7, 40] rfl rfl ?_ -- region 4
    refine TextR.move rfl ?_
    refine TextR.int rfl rfl rfl ?_
    refine TextR.done (.cons rfl (.cons rfl (.cons rfl (.cons rfl (.cons rfl .nil))))) ?_
    refine Wp.condM h rfl (fun hc2 h => ?_) (fun hc2 h => ?_)
    · refine Wp.seq ?_
      refine Wp.text [6] rfl rfl ?_ -- region 5
      refine TextR.assign rfl ?_
      refine TextR.done (.cons rfl .nil) ?_
      refine Wp.ret ?_
      obtain rfl := Option.some.inj h
      exact Ret.one rfl (resV_tmp rfl) rfl
    · refine Wp.skip ?_
      refine Wp.seq ?_
      obtain ⟨y5, hy5, h⟩ := bind_some h
      obtain ⟨y6, hy6, h⟩ := bind_some h
      refine Wp.text [1, 2, 3, 9, 11] rfl rfl ?_ -- region 6
      refine TextR.loadN (cs := [I y4.1.ID, I y4.1.Phase, .slv (y4.1.Sides.map eSide)]) tk25 rfl rfl ?_
      refine TextR.dcall rfl rfl (c_narthexlaw13_Own N y4.1 y5 hy5 _) ?_
      refine TextR.dcall rfl rfl (c_dine_Fire N y5 y6 hy6 _) ?_
      refine TextR.move rfl ?_
      refine TextR.extract rfl rfl ?_
      refine TextR.extract rfl rfl ?_
      refine TextR.extract rfl rfl ?_
      refine TextR.alloc 2 zc25 rfl rfl (.cons (.cons .nil)) ?_
      refine TextR.store1 tk25 rfl rfl rfl rfl rfl rfl (.succ (.succ .zero)) ?_
      refine TextR.assign rfl ?_
      refine TextR.assign rfl ?_
      refine TextR.done (.cons rfl (.cons rfl (.cons rfl (.cons rfl (.cons rfl .nil))))) ?_
      refine Wp.seq ?_
      obtain ⟨y7, hy7, h⟩ := bind_some h
      obtain ⟨y8, hy8, h⟩ := bind_some h
      refine Wp.text [1, 3, 9, 11, 12] rfl rfl ?_ -- region 7
      refine TextR.loadN (cs := [I y6.1.ID, I y6.1.Phase, .slv (y6.1.Sides.map eSide)]) tk25 rfl rfl ?_
      refine TextR.dcall rfl rfl (c_narthexlaw13_Own N y6.1 y7 hy7 _) ?_
      refine TextR.move rfl ?_
      refine TextR.move rfl ?_
      refine TextR.build cm40 rfl ?_
      refine TextR.dcall rfl rfl (c_dine_Get N y7 a1 (⟨2, a2, 0⟩ : TMsg) y8 hy8 _) ?_
      refine TextR.move rfl ?_
      refine TextR.extract rfl rfl ?_
      refine TextR.extract rfl rfl ?_
      refine TextR.alloc 3 zc25 rfl rfl (.cons (.cons (.cons .nil))) ?_
      refine TextR.store1 tk25 rfl rfl rfl rfl rfl rfl (.succ (.succ (.succ .zero))) ?_
      refine TextR.assign rfl ?_
      refine TextR.done (.cons rfl (.cons rfl (.cons rfl (.cons rfl (.cons rfl .nil))))) ?_
      refine Wp.seq ?_
      obtain ⟨y9, hy9, h⟩ := bind_some h
      obtain ⟨y10, hy10, h⟩ := bind_some h
      refine Wp.text [1, 3, 9, 11, 12, 14, 16] rfl rfl ?_ -- region 8
      refine TextR.loadN (cs := [I y8.1.ID, I y8.1.Phase, .slv (y8.1.Sides.map eSide)]) tk25 rfl rfl ?_
      refine TextR.dcall rfl rfl (c_narthexlaw13_Own N y8.1 y9 hy9 _) ?_
      refine TextR.dcall rfl rfl (c_dine_Fire N y9 y10 hy10 _) ?_
      refine TextR.move rfl ?_
      refine TextR.extract rfl rfl ?_
      refine TextR.extract rfl rfl ?_
      refine TextR.extract rfl rfl ?_
      refine TextR.alloc 4 zc25 rfl rfl (.cons (.cons (.cons (.cons .nil)))) ?_
      refine TextR.store1 tk25 rfl rfl rfl rfl rfl rfl (.succ (.succ (.succ (.succ .zero)))) ?_
      refine TextR.assign rfl ?_
      refine TextR.assign rfl ?_
      refine TextR.done (.cons rfl (.cons rfl (.cons rfl (.cons rfl (.cons rfl (.cons rfl (.cons rfl .nil))))))) ?_
      refine Wp.seq ?_
      obtain ⟨y11, hy11, h⟩ := bind_some h
      refine Wp.text [1, 3, 9, 11, 12, 14, 16, 17] rfl rfl ?_ -- region 9
      refine TextR.loadN (cs := [I y6.1.ID, I y6.1.Phase, .slv (y6.1.Sides.map eSide)]) tk25 rfl rfl ?_
      refine TextR.move rfl ?_
      refine TextR.dcall rfl rfl (c_narthexref12_Side N y6.1 a1 y11 hy11 _) ?_
      refine TextR.move rfl ?_
      refine TextR.extract rfl rfl ?_
      refine TextR.extract rfl rfl ?_
      refine TextR.alloc 5 zc47 rfl rfl (.cons (.cons (.cons (.cons (.cons .nil))))) ?_
      refine TextR.store1 tk47 rfl rfl rfl rfl rfl rfl (.succ (.succ (.succ (.succ (.succ .zero))))) ?_
      refine TextR.assign rfl ?_
      refine TextR.done (.cons rfl (.cons rfl (.cons rfl (.cons rfl (.cons rfl (.cons rfl (.cons rfl (.cons rfl .nil)))))))) ?_
      refine Wp.seq ?_
      obtain ⟨y12, hy12, h⟩ := bind_some h
      refine Wp.text [3, 9, 11, 12, 16, 17, 19] rfl rfl ?_ -- region 10
      refine TextR.loadN (cs := [I y10.1.ID, I y10.1.Phase, .slv (y10.1.Sides.map eSide)]) tk25 rfl rfl ?_
      refine TextR.move rfl ?_
      refine TextR.dcall rfl rfl (c_narthexref12_Side N y10.1 a1 y12 hy12 _) ?_
      refine TextR.move rfl ?_
      refine TextR.extract rfl rfl ?_
      refine TextR.extract rfl rfl ?_
      refine TextR.alloc 6 zc47 rfl rfl (.cons (.cons (.cons (.cons (.cons (.cons .nil)))))) ?_
      refine TextR.store1 tk47 rfl rfl rfl rfl rfl rfl (.succ (.succ (.succ (.succ (.succ (.succ .zero)))))) ?_
      refine TextR.assign rfl ?_
      refine TextR.done (.cons rfl (.cons rfl (.cons rfl (.cons rfl (.cons rfl (.cons rfl (.cons rfl .nil))))))) ?_
      refine Wp.seq ?_
      refine Wp.go false none [[], [], [], [(78, true)], [(78, true)], [], [], [(82, true)], [(82, true)], [(82, true)], [(85, false), (82, true)], [(85, false), (82, true)], [(85, false), (82, true)], [(85, false), (82, true)], [(82, true)], [(82, true)], [(91, false), (82, true)], [(91, false), (82, true)], [(82, true)], [], [], [(96, true)], [(96, true)], [(96, true)], [(96, true)], [(96, true)], [(96, true)], [(102, true), (96, true)], [(102, true), (96, true)], [(102, true), (96, true)], [(96, true)], [(96, true)], [(96, true)], [(108, false), (96, true)], [(108, false), (96, true)], [(108, false), (96, true)], [(108, false), (96, true)], [(112, true), (108, false), (96, true)], [(112, true), (108, false), (96, true)], [(112, true), (108, false), (96, true)], [(108, false), (96, true)], [(96, true)], [], []] [] [6] mixed rfl rfl (by kernel_rfl) ?_ -- region 11
      refine RunR.move rfl rfl rfl ?_
      refine RunR.int rfl rfl rfl rfl rfl ?_
      refine RunR.move rfl rfl rfl ?_
      refine RunR.fieldAddr fo47_3 rfl rfl rfl rfl rfl ?_
      refine RunR.load1 tk4 rfl rfl rfl rfl ?_
      refine RunR.pickAnd rfl rfl rfl rfl ?_
      refine RunR.move rfl rfl rfl ?_
      refine RunR.move rfl rfl rfl ?_
      refine RunR.int rfl rfl rfl rfl rfl ?_
      refine RunR.move rfl rfl rfl ?_
      refine RunR.fieldAddr fo25_2 rfl rfl rfl rfl rfl ?_
      refine RunR.load1 tk23 rfl rfl rfl rfl ?_
      refine RunR.lenM us23 rfl rfl rfl rfl ?_
      refine RunR.int rfl rfl rfl rfl rfl ?_
      refine RunR.pickOr rfl rfl rfl rfl ?_
      refine RunR.move rfl rfl rfl ?_
      refine RunR.fieldAddr fo47_3 rfl rfl rfl rfl rfl ?_
      refine RunR.load1 tk4 rfl rfl rfl rfl ?_
      refine RunR.pickOr rfl rfl rfl rfl ?_
      refine RunR.pickAnd rfl rfl rfl rfl ?_
      refine RunR.move rfl rfl rfl ?_
      refine RunR.fieldAddr fo47_4 rfl rfl rfl rfl rfl ?_
      refine RunR.load1 tk4 rfl rfl rfl rfl ?_
      refine RunR.fieldAddr fo25_1 rfl rfl rfl rfl rfl ?_
      refine RunR.load1 tk22 rfl rfl rfl rfl ?_
      refine RunR.int rfl rfl rfl rfl rfl ?_
      refine RunR.move rfl rfl rfl ?_
      refine RunR.fieldAddr fo25_1 rfl rfl rfl rfl rfl ?_
      refine RunR.load1 tk22 rfl rfl rfl rfl ?_
      refine RunR.int rfl rfl rfl rfl rfl ?_
      refine RunR.pickAnd rfl rfl rfl rfl ?_
      refine RunR.eqBool (by kernel_rfl) rfl rfl rfl rfl ?_
      refine RunR.move rfl rfl rfl ?_
      refine RunR.fieldAddr fo25_1 rfl rfl rfl rfl rfl ?_
      refine RunR.load1 tk22 rfl rfl rfl rfl ?_
      refine RunR.int rfl rfl rfl rfl rfl ?_
      refine RunR.move rfl rfl rfl ?_
      refine RunR.fieldAddr fo47_4 rfl rfl rfl rfl rfl ?_
      refine RunR.load1 tk4 rfl rfl rfl rfl ?_
      refine RunR.not rfl rfl rfl ?_
      refine RunR.pickAnd rfl rfl rfl rfl ?_
      refine RunR.pickOr rfl rfl rfl rfl ?_
      refine RunR.pickAnd rfl rfl rfl rfl ?_
      refine RunR.assign rfl rfl rfl ?_
      refine RunR.doneQ (.cons rfl .nil) ?_
      refine Wp.ret ?_
      obtain rfl := Option.some.inj h
      exact Ret.one rfl (resV_tmp rfl) rfl
theorem c_narthexlaw13_DineClean (N : Nat) (a0 : TDiner) (a1 : Int) (a2 : Int) (r : Bool) (h : narthexlaw13_DineClean N a0 a1 a2 = some r) (H : List Ob) : DCall Try.prog 8 [.agg (eDiner a0), .c (I a1), .c (I a2)] H (.c (B r)) := DCall.lift (by first | rfl | simp [hfVs, hfV, hfL, hfAll, hfRows, mvV, mvL, mvO, mpE, mpV, mpVs, mpO, fzL, rnL, rn0, ok0, nzI, nzB, nzN, nzF, nzP, nzO, nzQ, nzC, shL, shV, shO, okV, okL, okO, List.take_of_length_le, h_Side, hfRows_map h_Side, ok_eSide, okR_eSide, fx_eSide, fxR_eSide, h_Diner, hfRows_map h_Diner, ok_eDiner, okR_eDiner, fx_eDiner, fxR_eDiner, h_Mail, hfRows_map h_Mail, ok_eMail, okR_eMail, fx_eMail, fxR_eMail, h_Msg, hfRows_map h_Msg, ok_eMsg, okR_eMsg, fx_eMsg, fxR_eMsg, -List.map_set]) (by first | rfl | simp [hfVs, hfV, hfL, hfAll, hfRows, mvV, mvL, mvO, mpE, mpV, mpVs, mpO, fzL, rnL, rn0, ok0, nzI, nzB, nzN, nzF, nzP, nzO, nzQ, nzC, shL, shV, shO, okV, okL, okO, List.take_of_length_le, h_Side, hfRows_map h_Side, ok_eSide, okR_eSide, fx_eSide, fxR_eSide, h_Diner, hfRows_map h_Diner, ok_eDiner, okR_eDiner, fx_eDiner, fxR_eDiner, h_Mail, hfRows_map h_Mail, ok_eMail, okR_eMail, fx_eMail, fxR_eMail, h_Msg, hfRows_map h_Msg, ok_eMsg, okR_eMsg, fx_eMsg, fxR_eMsg, -List.map_set]) (fun _ => by simp [hfVs, hfV, hfL, hfAll, hfRows, mvV, mvL, mvO, mpE, mpV, mpVs, mpO, fzL, rnL, rn0, ok0, nzI, nzB, nzN, nzF, nzP, nzO, nzQ, nzC, shL, shV, shO, okV, okL, okO, List.take_of_length_le, h_Side, hfRows_map h_Side, ok_eSide, okR_eSide, fx_eSide, fxR_eSide, h_Diner, hfRows_map h_Diner, ok_eDiner, okR_eDiner, fx_eDiner, fxR_eDiner, h_Mail, hfRows_map h_Mail, ok_eMail, okR_eMail, fx_eMail, fxR_eMail, h_Msg, hfRows_map h_Msg, ok_eMsg, okR_eMsg, fx_eMsg, fxR_eMsg, -List.map_set]) (w_narthexlaw13_DineClean N a0 a1 a2 r h) H
-- narthex/narthexlaw13.DineRow
theorem w_narthexlaw13_DineRow (N : Nat) (a0 : TDiner) (r : Bool) (h : narthexlaw13_DineRow N a0 = some r) : Nx.Call Try.prog 9 [.agg (eDiner a0)] [] fun r' _ => r' = .c (B r) := by
  refine Nx.Call.of_body Try.func9 rfl en9 Try.ntmps9 rfl (fun Γ hok => ?_)
  unfold narthexlaw13_DineRow at h
  refine Wp.seq ?_
  refine Wp.text [1] rfl rfl ?_ -- region 0
  refine TextR.box (cs := [I a0.ID, I a0.Phase, .slv (a0.Sides.map eSide)]) 0 rfl rfl rfl rfl .nil ?_
  refine TextR.assign rfl ?_
  refine TextR.done (.cons rfl .nil) ?_
  refine Wp.seq ?_
  refine Wp.seq ?_
  obtain ⟨y1, hy1, h⟩ := bind_some h
  refine Wp.go false none [[], [], [], [(11, false)], [(11, false)], [(11, false)], [(11, false)], []] [] [1, 16] mixed rfl rfl (by kernel_rfl) ?_ -- region 1
  refine RunR.call rfl rfl rfl (fun H => c_narthexlaw13_awake N y1 hy1 H) ?_
  refine RunR.not rfl rfl rfl ?_
  refine RunR.move rfl rfl rfl ?_
  refine RunR.fieldAddr fo25_2 rfl rfl rfl rfl rfl ?_
  refine RunR.load1 tk23 rfl rfl rfl rfl ?_
  refine RunR.lenM us23 rfl rfl rfl rfl ?_
  refine RunR.int rfl rfl rfl rfl rfl ?_
  refine RunR.pickOr rfl rfl rfl rfl ?_
  refine RunR.doneQ (.cons rfl (.cons rfl .nil)) ?_
  refine Wp.condM h rfl (fun hc1 h => ?_) (fun hc1 h => ?_)
  · refine Wp.seq ?_
    obtain ⟨y2, hy2, h⟩ := bind_some h
    refine Wp.text [2] rfl rfl ?_ -- region 2
    refine TextR.dcall rfl rfl (c_narthexlaw13_awake N y2 hy2 _) ?_
    refine TextR.assign rfl ?_
    refine TextR.done (.cons rfl .nil) ?_
    refine Wp.ret ?_
    obtain rfl := Option.some.inj h
    exact Ret.one rfl (resV_tmp rfl) rfl
  · refine Wp.skip ?_
    refine Wp.seq ?_
    obtain ⟨y3, hy3, h⟩ := bind_some h
    obtain ⟨y4, hy4, h⟩ := bind_some h
    refine Wp.text [4, 5] rfl rfl ?_ -- region 3
    refine TextR.loadN (cs := [I a0.ID, I a0.Phase, .slv (a0.Sides.map eSide)]) tk25 rfl rfl ?_
    refine TextR.dcall rfl rfl (c_narthexlaw13_Own N a0 y3 hy3 _) ?_
    refine TextR.dcall rfl rfl (c_dine_Fire N y3 y4 hy4 _) ?_
    refine TextR.move rfl ?_
    refine TextR.extract rfl rfl ?_
    refine TextR.extract rfl rfl ?_
    refine TextR.extract rfl rfl ?_
    refine TextR.alloc 1 zc25 rfl rfl (.cons .nil) ?_
    refine TextR.store1 tk25 rfl rfl rfl rfl rfl rfl (.succ .zero) ?_
    refine TextR.assign rfl ?_
    refine TextR.assign rfl ?_
    refine TextR.done (.cons rfl (.cons rfl .nil)) ?_
    refine Wp.seq ?_
    refine Wp.seq ?_
    refine Wp.text [4, 5, 6] rfl rfl ?_ -- region 4
    refine TextR.assign rfl ?_
    refine TextR.done (.cons rfl (.cons rfl (.cons rfl .nil))) ?_
    obtain ⟨z5, hz5, h⟩ := bind_some h
    refine Wp.fragR (fun S => ∃ z7, z5 = .inr z7 ∧ ∃ S', St.Weak ⟨Try.prog, 71, Γ⟩ S S' ∧ S' = ⟨[(4, .c (.slv (y4.2.1.map eMail))), (5, .c (I y4.2.2))], []⟩) (fun S => ∃ v, z5 = .inl v ∧ Ret Try.prog Try.f9 (fun r' _ => r' = .c (B v)) .ret S) ?_ ?_ ?_
    · replace h := hz5
      refine Wp.block ?_
      refine Wp.weak (St.Weak.trans (keepW (live := [4, 5, 6]) (.cons rfl (.cons rfl (.cons rfl .nil)))) (pickT (e' := [(4, .c (.slv (y4.2.1.map eMail))), (5, .c (I y4.2.2)), (6, .c (I 1))]) (H' := []) [] [0, 0] 0 hok.len.symm rfl rfl (by decide) (by first | rfl | simp [hfVs, hfV, hfL, hfAll, hfRows, mvV, mvL, mvO, mpE, mpV, mpVs, mpO, fzL, rnL, rn0, ok0, nzI, nzB, nzN, nzF, nzP, nzO, nzQ, nzC, shL, shV, shO, okV, okL, okO, List.take_of_length_le, h_Side, hfRows_map h_Side, ok_eSide, okR_eSide, fx_eSide, fxR_eSide, h_Diner, hfRows_map h_Diner, ok_eDiner, okR_eDiner, fx_eDiner, fxR_eDiner, h_Mail, hfRows_map h_Mail, ok_eMail, okR_eMail, fx_eMail, fxR_eMail, h_Msg, hfRows_map h_Msg, ok_eMsg, okR_eMsg, fx_eMsg, fxR_eMsg, -List.map_set]) (by first | rfl | simp [hfVs, hfV, hfL, hfAll, hfRows, mvV, mvL, mvO, mpE, mpV, mpVs, mpO, fzL, rnL, rn0, ok0, nzI, nzB, nzN, nzF, nzP, nzO, nzQ, nzC, shL, shV, shO, okV, okL, okO, List.take_of_length_le, h_Side, hfRows_map h_Side, ok_eSide, okR_eSide, fx_eSide, fxR_eSide, h_Diner, hfRows_map h_Diner, ok_eDiner, okR_eDiner, fx_eDiner, fxR_eDiner, h_Mail, hfRows_map h_Mail, ok_eMail, okR_eMail, fx_eMail, fxR_eMail, h_Msg, hfRows_map h_Msg, ok_eMsg, okR_eMsg, fx_eMsg, fxR_eMsg, -List.map_set]) (by first | rfl | simp [hfVs, hfV, hfL, hfAll, hfRows, mvV, mvL, mvO, mpE, mpV, mpVs, mpO, fzL, rnL, rn0, ok0, nzI, nzB, nzN, nzF, nzP, nzO, nzQ, nzC, shL, shV, shO, okV, okL, okO, List.take_of_length_le, h_Side, hfRows_map h_Side, ok_eSide, okR_eSide, fx_eSide, fxR_eSide, h_Diner, hfRows_map h_Diner, ok_eDiner, okR_eDiner, fx_eDiner, fxR_eDiner, h_Mail, hfRows_map h_Mail, ok_eMail, okR_eMail, fx_eMail, fxR_eMail, h_Msg, hfRows_map h_Msg, ok_eMsg, okR_eMsg, fx_eMsg, fxR_eMsg, -List.map_set]) (by first | rfl | simp [hfVs, hfV, hfL, hfAll, hfRows, mvV, mvL, mvO, mpE, mpV, mpVs, mpO, fzL, rnL, rn0, ok0, nzI, nzB, nzN, nzF, nzP, nzO, nzQ, nzC, shL, shV, shO, okV, okL, okO, List.take_of_length_le, h_Side, hfRows_map h_Side, ok_eSide, okR_eSide, fx_eSide, fxR_eSide, h_Diner, hfRows_map h_Diner, ok_eDiner, okR_eDiner, fx_eDiner, fxR_eDiner, h_Mail, hfRows_map h_Mail, ok_eMail, okR_eMail, fx_eMail, fxR_eMail, h_Msg, hfRows_map h_Msg, ok_eMsg, okR_eMsg, fx_eMsg, fxR_eMsg, -List.map_set]))) ?_
      refine Wp.loop (fun m S => ∃ s6_1, narthexlaw13_DineRow_L1 N y4 m s6_1 = some z5 ∧ S = ⟨[(4, .c (.slv (y4.2.1.map eMail))), (5, .c (I y4.2.2)), (6, .c (I s6_1))], []⟩) N ⟨_, h, rfl⟩ ?_
      rintro m1 _ ⟨s6_1, h, rfl⟩
      cases m1 with
      | zero => rw [narthexlaw13_DineRow_L1.eq_1] at h; cases h
      | succ m1 =>
      rw [narthexlaw13_DineRow_L1.eq_2] at h
      refine Wp.seq ?_
      refine Wp.seq ?_
      refine Wp.text [4, 5, 6, 28] rfl rfl ?_ -- region 5
      refine TextR.move rfl ?_
      refine TextR.move rfl ?_
      refine TextR.lenM us27 rfl rfl ?_
      refine TextR.int rfl rfl rfl ?_
      refine TextR.done (.cons rfl (.cons rfl (.cons rfl (.cons rfl .nil)))) ?_
      refine Wp.condM h rfl (fun hc3 h => ?_) (fun hc3 h => ?_)
      · refine Wp.skip ?_
        refine Wp.seq ?_
        refine Wp.block ?_
        refine Wp.seq ?_
        obtain ⟨x8, hx8, h⟩ := bind_some h
        obtain ⟨x9, hx9, h⟩ := bind_some h
        apply Wp.forkS 9 [0, 1] [[], [], [], [], [], [], [], [], [], [], [], [], []] [true, true, true, true, true, true, true, true, true, false, false, false, false] [[], [], [], [], [], [], [], [], [], [], [], [], []] [true, true, true, true, true, true, true, true, true, false, false, false, false] [4, 5, 6, 7, 8] mixed rfl (by kernel_rfl) (by kernel_rfl) (by kernel_rfl) (by kernel_rfl) (by kernel_rfl) -- region 7 FORK
        · refine RunR.move rfl rfl rfl ?_
          refine RunR.move rfl rfl rfl ?_
          refine RunR.int rfl rfl rfl rfl rfl ?_
          refine RunR.indexA se27 rfl rfl rfl rfl rfl hx8 rfl ?_
          refine RunR.loadNM tk49 rfl rfl rfl (at_get hx8) rfl ?_
          refine RunR.move rfl rfl rfl ?_
          refine RunR.move rfl rfl rfl ?_
          refine RunR.indexA se27 rfl rfl rfl rfl rfl hx9 rfl ?_
          refine RunR.loadNM tk49 rfl rfl rfl (at_get hx9) rfl ?_
          refine RunR.nil ⟨?_, ?_⟩
          · refine RunR.alloc 0 zc49 rfl rfl rfl rfl .nil ?_
            refine RunR.alloc 1 zc49 rfl rfl rfl rfl (.cons .nil) ?_
            refine RunR.store1 tk49 rfl rfl rfl rfl rfl rfl rfl rfl .zero ?_
            refine RunR.store1 tk49 rfl rfl rfl rfl rfl rfl rfl rfl (.succ .zero) ?_
            refine RunR.nil ⟨_, (.cons rfl (.cons rfl (.cons rfl (.cons rfl (.cons rfl .nil))))), rfl⟩
          · refine RunR.alloc 0 zc49 rfl rfl rfl rfl .nil ?_
            refine RunR.alloc 1 zc49 rfl rfl rfl rfl (.cons .nil) ?_
            refine RunR.store1 tk49 rfl rfl rfl rfl rfl rfl rfl rfl (.succ .zero) ?_
            refine RunR.store1 tk49 rfl rfl rfl rfl rfl rfl rfl rfl .zero ?_
            refine RunR.nil ⟨_, (.cons rfl (.cons rfl (.cons rfl (.cons rfl (.cons rfl .nil))))), pickT [1, 0] [1, 0] 0 hok.len.symm rfl rfl (by decide) (by first | rfl | simp [hfVs, hfV, hfL, hfAll, hfRows, mvV, mvL, mvO, mpE, mpV, mpVs, mpO, fzL, rnL, rn0, ok0, nzI, nzB, nzN, nzF, nzP, nzO, nzQ, nzC, shL, shV, shO, okV, okL, okO, List.take_of_length_le, h_Side, hfRows_map h_Side, ok_eSide, okR_eSide, fx_eSide, fxR_eSide, h_Diner, hfRows_map h_Diner, ok_eDiner, okR_eDiner, fx_eDiner, fxR_eDiner, h_Mail, hfRows_map h_Mail, ok_eMail, okR_eMail, fx_eMail, fxR_eMail, h_Msg, hfRows_map h_Msg, ok_eMsg, okR_eMsg, fx_eMsg, fxR_eMsg, -List.map_set]) (by first | rfl | simp [hfVs, hfV, hfL, hfAll, hfRows, mvV, mvL, mvO, mpE, mpV, mpVs, mpO, fzL, rnL, rn0, ok0, nzI, nzB, nzN, nzF, nzP, nzO, nzQ, nzC, shL, shV, shO, okV, okL, okO, List.take_of_length_le, h_Side, hfRows_map h_Side, ok_eSide, okR_eSide, fx_eSide, fxR_eSide, h_Diner, hfRows_map h_Diner, ok_eDiner, okR_eDiner, fx_eDiner, fxR_eDiner, h_Mail, hfRows_map h_Mail, ok_eMail, okR_eMail, fx_eMail, fxR_eMail, h_Msg, hfRows_map h_Msg, ok_eMsg, okR_eMsg, fx_eMsg, fxR_eMsg, -List.map_set]) (by first | rfl | simp [hfVs, hfV, hfL, hfAll, hfRows, mvV, mvL, mvO, mpE, mpV, mpVs, mpO, fzL, rnL, rn0, ok0, nzI, nzB, nzN, nzF, nzP, nzO, nzQ, nzC, shL, shV, shO, okV, okL, okO, List.take_of_length_le, h_Side, hfRows_map h_Side, ok_eSide, okR_eSide, fx_eSide, fxR_eSide, h_Diner, hfRows_map h_Diner, ok_eDiner, okR_eDiner, fx_eDiner, fxR_eDiner, h_Mail, hfRows_map h_Mail, ok_eMail, okR_eMail, fx_eMail, fxR_eMail, h_Msg, hfRows_map h_Msg, ok_eMsg, okR_eMsg, fx_eMsg, fxR_eMsg, -List.map_set]) (by first | rfl | simp [hfVs, hfV, hfL, hfAll, hfRows, mvV, mvL, mvO, mpE, mpV, mpVs, mpO, fzL, rnL, rn0, ok0, nzI, nzB, nzN, nzF, nzP, nzO, nzQ, nzC, shL, shV, shO, okV, okL, okO, List.take_of_length_le, h_Side, hfRows_map h_Side, ok_eSide, okR_eSide, fx_eSide, fxR_eSide, h_Diner, hfRows_map h_Diner, ok_eDiner, okR_eDiner, fx_eDiner, fxR_eDiner, h_Mail, hfRows_map h_Mail, ok_eMail, okR_eMail, fx_eMail, fxR_eMail, h_Msg, hfRows_map h_Msg, ok_eMsg, okR_eMsg, fx_eMsg, fxR_eMsg, -List.map_set])⟩
        refine Wp.seq ?_
        refine Wp.go false none [[], [], [], [], [], [], [(45, false)], [(45, false)], [(45, false)], [(45, false)], [(45, false)], [(45, false)], [(51, true), (45, false)], [(51, true), (45, false)], [(51, true), (45, false)], [(51, true), (45, false)], [(51, true), (45, false)], [(56, false), (51, true), (45, false)], [(56, false), (51, true), (45, false)], [(56, false), (51, true), (45, false)], [(56, false), (51, true), (45, false)], [(51, true), (45, false)], [(45, false)], []] [] [4, 5, 6, 63] mixed rfl rfl (by kernel_rfl) ?_ -- region 8
        refine RunR.fieldAddr fo49_1 rfl rfl rfl rfl rfl ?_
        refine RunR.load1 tk3 rfl rfl rfl rfl ?_
        refine RunR.fieldAddr fo49_1 rfl rfl rfl rfl rfl ?_
        refine RunR.load1 tk3 rfl rfl rfl rfl ?_
        refine RunR.int rfl rfl rfl rfl rfl ?_
        refine RunR.move rfl rfl rfl ?_
        refine RunR.fieldAddr fo49_1 rfl rfl rfl rfl rfl ?_
        refine RunR.load1 tk3 rfl rfl rfl rfl ?_
        refine RunR.fieldAddr fo49_1 rfl rfl rfl rfl rfl ?_
        refine RunR.load1 tk3 rfl rfl rfl rfl ?_
        refine RunR.int rfl rfl rfl rfl rfl ?_
        refine RunR.move rfl rfl rfl ?_
        refine RunR.fieldAddr fo49_2 rfl rfl rfl rfl rfl ?_
        refine RunR.fieldAddr fo40_0 rfl rfl rfl rfl rfl ?_
        refine RunR.load1 tk38 rfl rfl rfl rfl ?_
        refine RunR.int rfl rfl rfl rfl rfl ?_
        refine RunR.move rfl rfl rfl ?_
        refine RunR.fieldAddr fo49_2 rfl rfl rfl rfl rfl ?_
        refine RunR.fieldAddr fo40_0 rfl rfl rfl rfl rfl ?_
        refine RunR.load1 tk38 rfl rfl rfl rfl ?_
        refine RunR.int rfl rfl rfl rfl rfl ?_
        refine RunR.pickOr rfl rfl rfl rfl ?_
        refine RunR.pickAnd rfl rfl rfl rfl ?_
        refine RunR.pickOr rfl rfl rfl rfl ?_
        refine RunR.doneQ (.cons rfl (.cons rfl (.cons rfl (.cons rfl .nil)))) ?_
        refine Wp.condM h rfl (fun hc4 h => ?_) (fun hc4 h => ?_)
        · refine Wp.seq ?_
          refine Wp.text [2] rfl rfl ?_ -- region 9
          refine TextR.assign rfl ?_
          refine TextR.done (.cons rfl .nil) ?_
          refine Wp.ret ?_
          exact ⟨_, (Option.some.inj h).symm, Ret.one rfl (resV_tmp rfl) rfl⟩
        · refine Wp.skip ?_
          refine Wp.text [4, 5, 6] rfl rfl ?_ -- region 6
          refine TextR.move rfl ?_
          refine TextR.int rfl rfl rfl ?_
          refine TextR.assign rfl ?_
          refine TextR.done (.cons rfl (.cons rfl (.cons rfl .nil))) ?_
          exact ⟨m1, Nat.lt_succ_self _, _, (St.Weak.trans (keepW (live := [4, 5, 6]) (.cons rfl (.cons rfl (.cons rfl .nil)))) (pickT (e' := [(4, .c (.slv (y4.2.1.map eMail))), (5, .c (I y4.2.2)), (6, .c (I (w64 (s6_1 + 1))))]) (H' := []) [] [0, 0] 0 hok.len.symm rfl rfl (by decide) (by first | rfl | simp [hfVs, hfV, hfL, hfAll, hfRows, mvV, mvL, mvO, mpE, mpV, mpVs, mpO, fzL, rnL, rn0, ok0, nzI, nzB, nzN, nzF, nzP, nzO, nzQ, nzC, shL, shV, shO, okV, okL, okO, List.take_of_length_le, h_Side, hfRows_map h_Side, ok_eSide, okR_eSide, fx_eSide, fxR_eSide, h_Diner, hfRows_map h_Diner, ok_eDiner, okR_eDiner, fx_eDiner, fxR_eDiner, h_Mail, hfRows_map h_Mail, ok_eMail, okR_eMail, fx_eMail, fxR_eMail, h_Msg, hfRows_map h_Msg, ok_eMsg, okR_eMsg, fx_eMsg, fxR_eMsg, -List.map_set]) (by first | rfl | simp [hfVs, hfV, hfL, hfAll, hfRows, mvV, mvL, mvO, mpE, mpV, mpVs, mpO, fzL, rnL, rn0, ok0, nzI, nzB, nzN, nzF, nzP, nzO, nzQ, nzC, shL, shV, shO, okV, okL, okO, List.take_of_length_le, h_Side, hfRows_map h_Side, ok_eSide, okR_eSide, fx_eSide, fxR_eSide, h_Diner, hfRows_map h_Diner, ok_eDiner, okR_eDiner, fx_eDiner, fxR_eDiner, h_Mail, hfRows_map h_Mail, ok_eMail, okR_eMail, fx_eMail, fxR_eMail, h_Msg, hfRows_map h_Msg, ok_eMsg, okR_eMsg, fx_eMsg, fxR_eMsg, -List.map_set]) (by first | rfl | simp [hfVs, hfV, hfL, hfAll, hfRows, mvV, mvL, mvO, mpE, mpV, mpVs, mpO, fzL, rnL, rn0, ok0, nzI, nzB, nzN, nzF, nzP, nzO, nzQ, nzC, shL, shV, shO, okV, okL, okO, List.take_of_length_le, h_Side, hfRows_map h_Side, ok_eSide, okR_eSide, fx_eSide, fxR_eSide, h_Diner, hfRows_map h_Diner, ok_eDiner, okR_eDiner, fx_eDiner, fxR_eDiner, h_Mail, hfRows_map h_Mail, ok_eMail, okR_eMail, fx_eMail, fxR_eMail, h_Msg, hfRows_map h_Msg, ok_eMsg, okR_eMsg, fx_eMsg, fxR_eMsg, -List.map_set]) (by first | rfl | simp [hfVs, hfV, hfL, hfAll, hfRows, mvV, mvL, mvO, mpE, mpV, mpVs, mpO, fzL, rnL, rn0, ok0, nzI, nzB, nzN, nzF, nzP, nzO, nzQ, nzC, shL, shV, shO, okV, okL, okO, List.take_of_length_le, h_Side, hfRows_map h_Side, ok_eSide, okR_eSide, fx_eSide, fxR_eSide, h_Diner, hfRows_map h_Diner, ok_eDiner, okR_eDiner, fx_eDiner, fxR_eDiner, h_Mail, hfRows_map h_Mail, ok_eMail, okR_eMail, fx_eMail, fxR_eMail, h_Msg, hfRows_map h_Msg, ok_eMsg, okR_eMsg, fx_eMsg, fxR_eMsg, -List.map_set]))), _, h, rfl⟩
      · refine Wp.exit ?_
        exact ⟨_, (Option.some.inj h).symm, _, (keepW (live := [4, 5]) (.cons rfl (.cons rfl .nil))), rfl⟩
    · rintro _ ⟨z7, rfl, _, hw, rfl⟩
      dsimp only at h
      clear hz5
      refine Wp.weak hw ?_
      refine Wp.seq ?_
      refine Wp.go false none [[], [], [], [(66, false)], [(66, false)], [(66, false)], [], []] [] [2] mixed rfl rfl (by kernel_rfl) ?_ -- region 10
      refine RunR.move rfl rfl rfl ?_
      refine RunR.int rfl rfl rfl rfl rfl ?_
      refine RunR.move rfl rfl rfl ?_
      refine RunR.move rfl rfl rfl ?_
      refine RunR.lenM us27 rfl rfl rfl rfl ?_
      refine RunR.int rfl rfl rfl rfl rfl ?_
      refine RunR.pickOr rfl rfl rfl rfl ?_
      refine RunR.assign rfl rfl rfl ?_
      refine RunR.doneQ (.cons rfl .nil) ?_
      refine Wp.ret ?_
      obtain rfl := Option.some.inj h
      exact Ret.one rfl (resV_tmp rfl) rfl
    · rintro S' ⟨r6, rfl, hR⟩
      dsimp only at h
      obtain rfl := Option.some.inj h
      exact hR
theorem c_narthexlaw13_DineRow (N : Nat) (a0 : TDiner) (r : Bool) (h : narthexlaw13_DineRow N a0 = some r) (H : List Ob) : DCall Try.prog 9 [.agg (eDiner a0)] H (.c (B r)) := DCall.lift (by first | rfl | simp [hfVs, hfV, hfL, hfAll, hfRows, mvV, mvL, mvO, mpE, mpV, mpVs, mpO, fzL, rnL, rn0, ok0, nzI, nzB, nzN, nzF, nzP, nzO, nzQ, nzC, shL, shV, shO, okV, okL, okO, List.take_of_length_le, h_Side, hfRows_map h_Side, ok_eSide, okR_eSide, fx_eSide, fxR_eSide, h_Diner, hfRows_map h_Diner, ok_eDiner, okR_eDiner, fx_eDiner, fxR_eDiner, h_Mail, hfRows_map h_Mail, ok_eMail, okR_eMail, fx_eMail, fxR_eMail, h_Msg, hfRows_map h_Msg, ok_eMsg, okR_eMsg, fx_eMsg, fxR_eMsg, -List.map_set]) (by first | rfl | simp [hfVs, hfV, hfL, hfAll, hfRows, mvV, mvL, mvO, mpE, mpV, mpVs, mpO, fzL, rnL, rn0, ok0, nzI, nzB, nzN, nzF, nzP, nzO, nzQ, nzC, shL, shV, shO, okV, okL, okO, List.take_of_length_le, h_Side, hfRows_map h_Side, ok_eSide, okR_eSide, fx_eSide, fxR_eSide, h_Diner, hfRows_map h_Diner, ok_eDiner, okR_eDiner, fx_eDiner, fxR_eDiner, h_Mail, hfRows_map h_Mail, ok_eMail, okR_eMail, fx_eMail, fxR_eMail, h_Msg, hfRows_map h_Msg, ok_eMsg, okR_eMsg, fx_eMsg, fxR_eMsg, -List.map_set]) (fun _ => by simp [hfVs, hfV, hfL, hfAll, hfRows, mvV, mvL, mvO, mpE, mpV, mpVs, mpO, fzL, rnL, rn0, ok0, nzI, nzB, nzN, nzF, nzP, nzO, nzQ, nzC, shL, shV, shO, okV, okL, okO, List.take_of_length_le, h_Side, hfRows_map h_Side, ok_eSide, okR_eSide, fx_eSide, fxR_eSide, h_Diner, hfRows_map h_Diner, ok_eDiner, okR_eDiner, fx_eDiner, fxR_eDiner, h_Mail, hfRows_map h_Mail, ok_eMail, okR_eMail, fx_eMail, fxR_eMail, h_Msg, hfRows_map h_Msg, ok_eMsg, okR_eMsg, fx_eMsg, fxR_eMsg, -List.map_set]) (w_narthexlaw13_DineRow N a0 r h) H
end Go.Proofs.Ytcnbkfgajnlbpaa
