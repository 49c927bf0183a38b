/- The functions do what their models say. -/
import Derived.Test.YtcnbkfgajnlbpaaEnc
namespace Go.Proofs.Ytcnbkfgajnlbpaa
open Go Go.Nx
set_option linter.unusedVariables false
set_option linter.unusedSimpArgs false
set_option maxRecDepth 8000
-- narthex/dine.Check$1
theorem w_dine_Check_1 (N : Nat) (a0 : TSide) (c0_0 : Int) (c0_1 : Int) (c0_2 : List TSide) (c1_0 : Int) (r : Bool × Int) (h : dine_Check_1 N a0 c0_0 c0_1 c0_2 c1_0 = some r) : Nx.Call Try.prog 27 [.agg (eSide a0), .c (.ptr 1 0 0 0), .c (.ptr 0 0 0 0)] [.live 0 3 [[I c0_0, I c0_1, .slv (c0_2.map eSide)]], .live 0 1 [[I c1_0]]] fun r' H' => r' = .c (B r.1) ∧ ∃ junk, H' = [.live 0 3 [[I c0_0, I c0_1, .slv (c0_2.map eSide)]], .live 0 1 [[I r.2]]] ++ junk := by
  refine Nx.Call.of_body Try.func27 rfl en27 Try.ntmps27 rfl (fun Γ hok => ?_)
  unfold dine_Check_1 at h
  refine Wp.seq ?_
  refine Wp.text [1, 2, 3] rfl rfl ?_ -- region 0
  refine TextR.box (cs := [I a0.Peer, I a0.Epoch, I a0.State, B a0.Fork, B a0.Dirty, B a0.Token, B a0.Bottle, B a0.Ask]) 2 rfl rfl rfl rfl (.cons (.cons .nil)) ?_
  refine TextR.assign rfl ?_
  refine TextR.done (.cons rfl (.cons rfl (.cons rfl .nil))) ?_
  refine Wp.seq ?_
  refine Wp.go false none [[], [], [], [], [], [(10, true)], [(10, true)], [(10, true)], [(10, true)], [(10, true)], [], []] [] [1, 3, 5] mixed rfl rfl (by kernel_rfl) ?_ -- region 1
  refine RunR.fieldAddr fo47_0 rfl rfl rfl rfl rfl ?_
  refine RunR.load1 tk3 rfl rfl rfl rfl ?_
  refine RunR.load1 tk3 rfl rfl rfl rfl ?_
  refine RunR.int rfl rfl rfl rfl rfl ?_
  refine RunR.move rfl rfl rfl ?_
  refine RunR.fieldAddr fo47_0 rfl rfl rfl rfl rfl ?_
  refine RunR.load1 tk3 rfl rfl rfl rfl ?_
  refine RunR.fieldAddr fo25_0 rfl rfl rfl rfl rfl ?_
  refine RunR.load1 tk3 rfl rfl rfl rfl ?_
  refine RunR.int rfl rfl rfl rfl rfl ?_
  refine RunR.pickAnd rfl rfl rfl rfl ?_
  refine RunR.assign rfl rfl rfl ?_
  refine RunR.doneQ (.cons rfl (.cons rfl (.cons rfl .nil))) ?_
  refine Wp.seq ?_
  refine Wp.text [3, 5] rfl rfl ?_ -- region 2
  refine TextR.fieldAddr fo47_0 rfl rfl rfl ?_
  refine TextR.load1 tk3 rfl rfl ?_
  refine TextR.store1 tk3 rfl rfl rfl rfl rfl rfl (.succ .zero) ?_
  refine TextR.done (.cons rfl (.cons rfl .nil)) ?_
  refine Wp.seq ?_
  refine Wp.go false none [[], [], [], [(21, false)], [(21, false)], [(21, false)], [], [], [(26, false)], [(26, false)], [(26, false)], [], [], [(31, false)], [(31, false)], [(31, false)], [], [], [(36, false)], [(36, false)], [(36, false)], [], [], [(41, false)], [(41, false)], [(41, false)], [(44, true), (41, false)], [(44, true), (41, false)], [(44, true), (41, false)], [(41, false)], [], []] [] [4] mixed rfl rfl (by kernel_rfl) ?_ -- region 3
  refine RunR.move rfl rfl rfl ?_
  refine RunR.not rfl rfl rfl ?_
  refine RunR.move rfl rfl rfl ?_
  refine RunR.fieldAddr fo47_1 rfl rfl rfl rfl rfl ?_
  refine RunR.load1 tk3 rfl rfl rfl rfl ?_
  refine RunR.int rfl rfl rfl rfl rfl ?_
  refine RunR.pickOr rfl rfl rfl rfl ?_
  refine RunR.move rfl rfl rfl ?_
  refine RunR.fieldAddr fo47_1 rfl rfl rfl rfl rfl ?_
  refine RunR.load1 tk3 rfl rfl rfl rfl ?_
  refine RunR.int rfl rfl rfl rfl rfl ?_
  refine RunR.pickOr rfl rfl rfl rfl ?_
  refine RunR.move rfl rfl rfl ?_
  refine RunR.fieldAddr fo47_2 rfl rfl rfl rfl rfl ?_
  refine RunR.load1 tk45 rfl rfl rfl rfl ?_
  refine RunR.int rfl rfl rfl rfl rfl ?_
  refine RunR.pickOr rfl rfl rfl rfl ?_
  refine RunR.move rfl rfl rfl ?_
  refine RunR.fieldAddr fo47_2 rfl rfl rfl rfl rfl ?_
  refine RunR.load1 tk45 rfl rfl rfl rfl ?_
  refine RunR.int rfl rfl rfl rfl rfl ?_
  refine RunR.pickOr rfl rfl rfl rfl ?_
  refine RunR.move rfl rfl rfl ?_
  refine RunR.fieldAddr fo47_4 rfl rfl rfl rfl rfl ?_
  refine RunR.load1 tk4 rfl rfl rfl rfl ?_
  refine RunR.move rfl rfl rfl ?_
  refine RunR.fieldAddr fo47_3 rfl rfl rfl rfl rfl ?_
  refine RunR.load1 tk4 rfl rfl rfl rfl ?_
  refine RunR.not rfl rfl rfl ?_
  refine RunR.pickAnd rfl rfl rfl rfl ?_
  refine RunR.pickOr rfl rfl rfl rfl ?_
  refine RunR.assign rfl rfl rfl ?_
  refine RunR.doneQ (.cons rfl .nil) ?_
  refine Wp.ret ?_
  obtain rfl := Option.some.inj h
  exact Ret.one rfl (resV_tmp rfl) ⟨rfl, _, rfl⟩
theorem c_dine_Check_1 (N : Nat) (a0 : TSide) (c0_0 : Int) (c0_1 : Int) (c0_2 : List TSide) (c1_0 : Int) (r : Bool × Int) (h : dine_Check_1 N a0 c0_0 c0_1 c0_2 c1_0 = some r) : Nx.Call Try.prog 27 [.agg (eSide a0), .c (.ptr 1 0 0 0), .c (.ptr 0 0 0 0)] [.live 0 3 [[I c0_0, I c0_1, .slv (c0_2.map eSide)]], .live 0 1 [[I c1_0]]] fun r' H' => r' = .c (B r.1) ∧ H' = [.live 0 3 [[I c0_0, I c0_1, .slv (c0_2.map eSide)]], .live 0 1 [[I r.2]]] := Call.trim (by simp) (by first | rfl | simp [hfVs, hfV, hfL, hfAll, hfRows, mvV, mvL, mvO, mpE, mpV, mpVs, mpO, fzL, rnL, rn0, ok0, nzI, nzB, nzN, nzF, nzP, nzO, nzQ, nzC, shL, shV, shO, okV, okL, okO, List.take_of_length_le, h_Side, hfRows_map h_Side, ok_eSide, okR_eSide, fx_eSide, fxR_eSide, h_Diner, hfRows_map h_Diner, ok_eDiner, okR_eDiner, fx_eDiner, fxR_eDiner, h_Mail, hfRows_map h_Mail, ok_eMail, okR_eMail, fx_eMail, fxR_eMail, h_Msg, hfRows_map h_Msg, ok_eMsg, okR_eMsg, fx_eMsg, fxR_eMsg, -List.map_set]) (by first | rfl | simp [hfVs, hfV, hfL, hfAll, hfRows, mvV, mvL, mvO, mpE, mpV, mpVs, mpO, fzL, rnL, rn0, ok0, nzI, nzB, nzN, nzF, nzP, nzO, nzQ, nzC, shL, shV, shO, okV, okL, okO, List.take_of_length_le, h_Side, hfRows_map h_Side, ok_eSide, okR_eSide, fx_eSide, fxR_eSide, h_Diner, hfRows_map h_Diner, ok_eDiner, okR_eDiner, fx_eDiner, fxR_eDiner, h_Mail, hfRows_map h_Mail, ok_eMail, okR_eMail, fx_eMail, fxR_eMail, h_Msg, hfRows_map h_Msg, ok_eMsg, okR_eMsg, fx_eMsg, fxR_eMsg, -List.map_set]) (w_dine_Check_1 N a0 c0_0 c0_1 c0_2 c1_0 r h)
-- slices.IndexFunc[[]narthex/api.Side,narthex/api.Side]
theorem w_slices_IndexFunc_Side (N : Nat) (a0 : List TSide) (c0_0 : Int) (c0_1 : Int) (c0_2 : List TSide) (c1_0 : Int) (r : Int × Int) (h : slices_IndexFunc_Side N a0 c0_0 c0_1 c0_2 c1_0 = some r) : Nx.Call Try.prog 30 [.c (.slv (a0.map eSide)), .c (.clo 27 [.ptr 1 0 0 0, .ptr 0 0 0 0])] [.live 0 3 [[I c0_0, I c0_1, .slv (c0_2.map eSide)]], .live 0 1 [[I c1_0]]] fun r' H' => r' = .c (I r.1) ∧ ∃ junk, H' = [.live 0 3 [[I c0_0, I c0_1, .slv (c0_2.map eSide)]], .live 0 1 [[I r.2]]] ++ junk := by
  refine Nx.Call.of_body Try.func30 rfl en30 Try.ntmps30 rfl (fun Γ hok => ?_)
  unfold slices_IndexFunc_Side at h
  refine Wp.seq ?_
  refine Wp.text [0, 1] rfl rfl ?_ -- region 0
  refine TextR.assign rfl ?_
  refine TextR.done (.cons rfl (.cons rfl .nil)) ?_
  refine Wp.seq ?_
  refine Wp.seq ?_
  refine Wp.text [0, 1, 7, 8] rfl rfl ?_ -- region 1
  refine TextR.move rfl ?_
  refine TextR.lenM us23 rfl rfl ?_
  refine TextR.move rfl ?_
  refine TextR.done (.cons rfl (.cons rfl (.cons rfl (.cons rfl .nil)))) ?_
  obtain ⟨z1, hz1, h⟩ := bind_some h
  refine Wp.fragR (fun S => ∃ z3, z1 = .inr z3 ∧ ∃ S', St.Weak ⟨Try.prog, 19, Γ⟩ S S' ∧ S' = ⟨[], [.live 0 3 [[I c0_0, I c0_1, .slv (c0_2.map eSide)]], .live 0 1 [[I z3]]]⟩) (fun S => ∃ v, z1 = .inl v ∧ Ret Try.prog Try.f30 (fun r' H' => r' = .c (I v.1) ∧ ∃ junk, H' = [.live 0 3 [[I c0_0, I c0_1, .slv (c0_2.map eSide)]], .live 0 1 [[I v.2]]] ++ junk) .ret S) ?_ ?_ ?_
  · replace h := hz1
    refine Wp.block ?_
    refine Wp.weak (keepW (live := [0, 1, 7, 8]) (.cons rfl (.cons rfl (.cons rfl (.cons rfl .nil))))) ?_
    refine Wp.loop (fun m S => ∃ c1_0_1, ∃ s8_1, slices_IndexFunc_Side_L1 N a0 c0_0 c0_1 c0_2 m c1_0_1 s8_1 = some z1 ∧ S = ⟨[(0, .c (.slv (a0.map eSide))), (1, .c (.clo 27 [.ptr 1 0 0 0, .ptr 0 0 0 0])), (7, .c (I (a0.length : Int))), (8, .c (I s8_1))], [.live 0 3 [[I c0_0, I c0_1, .slv (c0_2.map eSide)]], .live 0 1 [[I c1_0_1]]]⟩) N ⟨_, _, h, rfl⟩ ?_
    rintro m1 _ ⟨c1_0_1, s8_1, h, rfl⟩
    cases m1 with
    | zero => rw [slices_IndexFunc_Side_L1.eq_1] at h; cases h
    | succ m1 =>
    rw [slices_IndexFunc_Side_L1.eq_2] at h
    refine Wp.seq ?_
    refine Wp.text [0, 1, 7, 8, 9] rfl rfl ?_ -- region 2
    refine TextR.int rfl rfl rfl ?_
    refine TextR.done (.cons rfl (.cons rfl (.cons rfl (.cons rfl (.cons rfl .nil))))) ?_
    refine Wp.seq ?_
    refine Wp.condM h rfl (fun hc2 h => ?_) (fun hc2 h => ?_)
    · refine Wp.skip ?_
      refine Wp.seq ?_
      refine Wp.block ?_
      refine Wp.seq ?_
      refine Wp.text [0, 1, 5, 7, 8] rfl rfl ?_ -- region 3
      refine TextR.move rfl ?_
      refine TextR.assign rfl ?_
      refine TextR.done (.cons rfl (.cons rfl (.cons rfl (.cons rfl (.cons rfl .nil))))) ?_
      refine Wp.seq ?_
      obtain ⟨x4, hx4, h⟩ := bind_some h
      obtain ⟨y5, hy5, h⟩ := bind_some h
      refine Wp.text [0, 1, 5, 7, 8, 16] rfl rfl ?_ -- region 4
      refine TextR.move rfl ?_
      refine TextR.move rfl ?_
      refine TextR.move rfl ?_
      refine TextR.indexA se23 rfl rfl rfl hx4 rfl ?_
      refine TextR.loadNM tk47 rfl (at_get hx4) rfl ?_
      refine TextR.call rfl rfl (by exact c_dine_Check_1 N x4 c0_0 c0_1 c0_2 c1_0_1 y5 hy5) (fun x H' hk => ?_)
      obtain ⟨rfl, rfl⟩ := hk
      refine TextR.done (.cons rfl (.cons rfl (.cons rfl (.cons rfl (.cons rfl (.cons rfl .nil)))))) ?_
      refine Wp.condM h rfl (fun hc3 h => ?_) (fun hc3 h => ?_)
      · refine Wp.seq ?_
        refine Wp.text [4] rfl rfl ?_ -- region 5
        refine TextR.move rfl ?_
        refine TextR.assign rfl ?_
        refine TextR.done (.cons rfl .nil) ?_
        refine Wp.ret ?_
        exact ⟨_, (Option.some.inj h).symm, Ret.one rfl (resV_tmp rfl) ⟨rfl, _, rfl⟩⟩
      · refine Wp.skip ?_
        refine Wp.text [0, 1, 7, 8] rfl rfl ?_ -- region 6
        refine TextR.int rfl rfl rfl ?_
        refine TextR.move rfl ?_
        refine TextR.done (.cons rfl (.cons rfl (.cons rfl (.cons rfl .nil)))) ?_
        exact ⟨m1, Nat.lt_succ_self _, _, (keepW (live := [0, 1, 7, 8]) (.cons rfl (.cons rfl (.cons rfl (.cons rfl .nil))))), _, _, h, rfl⟩
    · refine Wp.exit ?_
      exact ⟨_, (Option.some.inj h).symm, _, (keepW (live := []) .nil), rfl⟩
  · rintro _ ⟨z3, rfl, _, hw, rfl⟩
    dsimp only at h
    clear hz1
    refine Wp.weak hw ?_
    refine Wp.seq ?_
    refine Wp.text [4] rfl rfl ?_ -- region 7
    refine TextR.assign rfl ?_
    refine TextR.done (.cons rfl .nil) ?_
    refine Wp.ret ?_
    obtain rfl := Option.some.inj h
    exact Ret.one rfl (resV_tmp rfl) ⟨rfl, _, rfl⟩
  · rintro S' ⟨r2, rfl, hR⟩
    dsimp only at h
    obtain rfl := Option.some.inj h
    exact hR
theorem c_slices_IndexFunc_Side (N : Nat) (a0 : List TSide) (c0_0 : Int) (c0_1 : Int) (c0_2 : List TSide) (c1_0 : Int) (r : Int × Int) (h : slices_IndexFunc_Side N a0 c0_0 c0_1 c0_2 c1_0 = some r) : Nx.Call Try.prog 30 [.c (.slv (a0.map eSide)), .c (.clo 27 [.ptr 1 0 0 0, .ptr 0 0 0 0])] [.live 0 3 [[I c0_0, I c0_1, .slv (c0_2.map eSide)]], .live 0 1 [[I c1_0]]] fun r' H' => r' = .c (I r.1) ∧ H' = [.live 0 3 [[I c0_0, I c0_1, .slv (c0_2.map eSide)]], .live 0 1 [[I r.2]]] := Call.trim (by simp) (by first | rfl | simp [hfVs, hfV, hfL, hfAll, hfRows, mvV, mvL, mvO, mpE, mpV, mpVs, mpO, fzL, rnL, rn0, ok0, nzI, nzB, nzN, nzF, nzP, nzO, nzQ, nzC, shL, shV, shO, okV, okL, okO, List.take_of_length_le, h_Side, hfRows_map h_Side, ok_eSide, okR_eSide, fx_eSide, fxR_eSide, h_Diner, hfRows_map h_Diner, ok_eDiner, okR_eDiner, fx_eDiner, fxR_eDiner, h_Mail, hfRows_map h_Mail, ok_eMail, okR_eMail, fx_eMail, fxR_eMail, h_Msg, hfRows_map h_Msg, ok_eMsg, okR_eMsg, fx_eMsg, fxR_eMsg, -List.map_set]) (by first | rfl | simp [hfVs, hfV, hfL, hfAll, hfRows, mvV, mvL, mvO, mpE, mpV, mpVs, mpO, fzL, rnL, rn0, ok0, nzI, nzB, nzN, nzF, nzP, nzO, nzQ, nzC, shL, shV, shO, okV, okL, okO, List.take_of_length_le, h_Side, hfRows_map h_Side, ok_eSide, okR_eSide, fx_eSide, fxR_eSide, h_Diner, hfRows_map h_Diner, ok_eDiner, okR_eDiner, fx_eDiner, fxR_eDiner, h_Mail, hfRows_map h_Mail, ok_eMail, okR_eMail, fx_eMail, fxR_eMail, h_Msg, hfRows_map h_Msg, ok_eMsg, okR_eMsg, fx_eMsg, fxR_eMsg, -List.map_set]) (w_slices_IndexFunc_Side N a0 c0_0 c0_1 c0_2 c1_0 r h)
-- slices.ContainsFunc[[]narthex/api.Side,narthex/api.Side]
theorem w_slices_ContainsFunc_Side (N : Nat) (a0 : List TSide) (c0_0 : Int) (c0_1 : Int) (c0_2 : List TSide) (c1_0 : Int) (r : Bool × Int) (h : slices_ContainsFunc_Side N a0 c0_0 c0_1 c0_2 c1_0 = some r) : Nx.Call Try.prog 28 [.c (.slv (a0.map eSide)), .c (.clo 27 [.ptr 1 0 0 0, .ptr 0 0 0 0])] [.live 0 3 [[I c0_0, I c0_1, .slv (c0_2.map eSide)]], .live 0 1 [[I c1_0]]] fun r' H' => r' = .c (B r.1) ∧ ∃ junk, H' = [.live 0 3 [[I c0_0, I c0_1, .slv (c0_2.map eSide)]], .live 0 1 [[I r.2]]] ++ junk := by
  refine Nx.Call.of_body Try.func28 rfl en28 Try.ntmps28 rfl (fun Γ hok => ?_)
  unfold slices_ContainsFunc_Side at h
  refine Wp.seq ?_
  refine Wp.text [0, 1] rfl rfl ?_ -- region 0
  refine TextR.assign rfl ?_
  refine TextR.done (.cons rfl (.cons rfl .nil)) ?_
  refine Wp.seq ?_
  obtain ⟨y1, hy1, h⟩ := bind_some h
  refine Wp.text [4] rfl rfl ?_ -- region 1
  refine TextR.move rfl ?_
  refine TextR.move rfl ?_
  refine TextR.call rfl rfl (by exact c_slices_IndexFunc_Side N a0 c0_0 c0_1 c0_2 c1_0 y1 hy1) (fun x H' hk => ?_)
  obtain ⟨rfl, rfl⟩ := hk
  refine TextR.int rfl rfl rfl ?_
  refine TextR.assign rfl ?_
  refine TextR.done (.cons rfl .nil) ?_
  refine Wp.ret ?_
  obtain rfl := Option.some.inj h
  exact Ret.one rfl (resV_tmp rfl) ⟨rfl, _, rfl⟩
theorem c_slices_ContainsFunc_Side (N : Nat) (a0 : List TSide) (c0_0 : Int) (c0_1 : Int) (c0_2 : List TSide) (c1_0 : Int) (r : Bool × Int) (h : slices_ContainsFunc_Side N a0 c0_0 c0_1 c0_2 c1_0 = some r) : Nx.Call Try.prog 28 [.c (.slv (a0.map eSide)), .c (.clo 27 [.ptr 1 0 0 0, .ptr 0 0 0 0])] [.live 0 3 [[I c0_0, I c0_1, .slv (c0_2.map eSide)]], .live 0 1 [[I c1_0]]] fun r' H' => r' = .c (B r.1) ∧ H' = [.live 0 3 [[I c0_0, I c0_1, .slv (c0_2.map eSide)]], .live 0 1 [[I r.2]]] := Call.trim (by simp) (by first | rfl | simp [hfVs, hfV, hfL, hfAll, hfRows, mvV, mvL, mvO, mpE, mpV, mpVs, mpO, fzL, rnL, rn0, ok0, nzI, nzB, nzN, nzF, nzP, nzO, nzQ, nzC, shL, shV, shO, okV, okL, okO, List.take_of_length_le, h_Side, hfRows_map h_Side, ok_eSide, okR_eSide, fx_eSide, fxR_eSide, h_Diner, hfRows_map h_Diner, ok_eDiner, okR_eDiner, fx_eDiner, fxR_eDiner, h_Mail, hfRows_map h_Mail, ok_eMail, okR_eMail, fx_eMail, fxR_eMail, h_Msg, hfRows_map h_Msg, ok_eMsg, okR_eMsg, fx_eMsg, fxR_eMsg, -List.map_set]) (by first | rfl | simp [hfVs, hfV, hfL, hfAll, hfRows, mvV, mvL, mvO, mpE, mpV, mpVs, mpO, fzL, rnL, rn0, ok0, nzI, nzB, nzN, nzF, nzP, nzO, nzQ, nzC, shL, shV, shO, okV, okL, okO, List.take_of_length_le, h_Side, hfRows_map h_Side, ok_eSide, okR_eSide, fx_eSide, fxR_eSide, h_Diner, hfRows_map h_Diner, ok_eDiner, okR_eDiner, fx_eDiner, fxR_eDiner, h_Mail, hfRows_map h_Mail, ok_eMail, okR_eMail, fx_eMail, fxR_eMail, h_Msg, hfRows_map h_Msg, ok_eMsg, okR_eMsg, fx_eMsg, fxR_eMsg, -List.map_set]) (w_slices_ContainsFunc_Side N a0 c0_0 c0_1 c0_2 c1_0 r h)
-- narthex/dine.Check
theorem w_dine_Check (N : Nat) (a0 : TDiner) (r : Int) (h : dine_Check N a0 = some r) : Nx.Call Try.prog 16 [.agg (eDiner a0)] [] fun r' _ => r' = .c (I r) := by
  refine Nx.Call.of_body Try.func16 rfl en16 Try.ntmps16 rfl (fun Γ hok => ?_)
  unfold dine_Check at h
  refine Wp.seq ?_
  refine Wp.text [1] rfl rfl ?_ -- region 0
  refine TextR.box (cs := [I a0.ID, I a0.Phase, .slv (a0.Sides.map eSide)]) 0 rfl rfl rfl rfl .nil ?_
  refine TextR.assign rfl ?_
  refine TextR.done (.cons rfl .nil) ?_
  refine Wp.seq ?_
  refine Wp.text [1, 3] rfl rfl ?_ -- region 1
  refine TextR.alloc 1 zc3 rfl rfl (.cons .nil) ?_
  refine TextR.store1 tk3 rfl rfl rfl rfl rfl rfl (.succ .zero) ?_
  refine TextR.done (.cons rfl (.cons rfl .nil)) ?_
  refine Wp.seq ?_
  refine Wp.text [1, 4] rfl rfl ?_ -- region 2
  refine TextR.makeFunc rfl ?_
  refine TextR.assign rfl ?_
  refine TextR.done (.cons rfl (.cons rfl .nil)) ?_
  refine Wp.seq ?_
  refine Wp.seq ?_
  obtain ⟨y1, hy1, h⟩ := bind_some h
  refine Wp.text [30] rfl rfl ?_ -- region 3
  refine TextR.preN 20 [[], [], [], [], [(9, false)], [(9, false)], [(9, false)], [], [], [(14, false)], [(14, false)], [(14, false)], [], [], [(19, false)], [(19, false)], [(19, false)], [(19, false)], [], []] [1, 4, 25] (by kernel_rfl) ?_
  refine RunR.fieldAddr fo25_0 rfl rfl rfl rfl rfl ?_
  refine RunR.load1 tk3 rfl rfl rfl rfl ?_
  refine RunR.int rfl rfl rfl rfl rfl ?_
  refine RunR.move rfl rfl rfl ?_
  refine RunR.fieldAddr fo25_1 rfl rfl rfl rfl rfl ?_
  refine RunR.load1 tk22 rfl rfl rfl rfl ?_
  refine RunR.int rfl rfl rfl rfl rfl ?_
  refine RunR.pickOr rfl rfl rfl rfl ?_
  refine RunR.move rfl rfl rfl ?_
  refine RunR.fieldAddr fo25_1 rfl rfl rfl rfl rfl ?_
  refine RunR.load1 tk22 rfl rfl rfl rfl ?_
  refine RunR.int rfl rfl rfl rfl rfl ?_
  refine RunR.pickOr rfl rfl rfl rfl ?_
  refine RunR.move rfl rfl rfl ?_
  refine RunR.fieldAddr fo25_2 rfl rfl rfl rfl rfl ?_
  refine RunR.load1 tk23 rfl rfl rfl rfl ?_
  refine RunR.lenM us23 rfl rfl rfl rfl ?_
  refine RunR.int rfl rfl rfl rfl rfl ?_
  refine RunR.pickOr rfl rfl rfl rfl ?_
  refine RunR.move rfl rfl rfl ?_
  refine RunR.nil ⟨_, (.cons rfl (.cons rfl (.cons rfl .nil))), ?_⟩
  refine TextR.cont (K1 := fun e' H' => Keeps e' [30] [(30, .c (B (((((decide (a0.ID < 0)) || (decide (a0.Phase < 0))) || (decide (a0.Phase > 2))) || (decide ((a0.Sides.length : Int) ≥ 64))) || y1.1)))] ∧ H' = [.live 0 3 [[I a0.ID, I a0.Phase, .slv (a0.Sides.map eSide)]], .live 0 1 [[I y1.2]]]) ?_ (fun e' H' hk => ?_)
  · refine TextR.byBool 25 rfl (fun hv => ?_) (fun hv => ?_)
    · rw [if_neg (by rw [hv]; simp)] at hy1
      obtain rfl := Option.some.inj hy1
      refine TextR.off rfl ?_
      refine TextR.off rfl ?_
      refine TextR.off rfl ?_
      refine TextR.off rfl ?_
      refine TextR.pickOr1 rfl rfl ?_
      refine TextR.nil ⟨(.cons (by first | rfl | (rw [hv]; rfl)) .nil), rfl⟩
    · rw [if_pos (by rw [hv]; simp)] at hy1
      refine TextR.gfieldAddr rfl fo25_2 rfl  rfl rfl ?_
      refine TextR.gload1 rfl tk23  rfl rfl ?_
      refine TextR.gmove rfl  rfl ?_
      refine TextR.callG rfl rfl rfl (by exact c_slices_ContainsFunc_Side N a0.Sides a0.ID a0.Phase a0.Sides (-1) y1 hy1) (fun x H' hk => ?_)
      obtain ⟨rfl, rfl⟩ := hk
      refine TextR.pickOr rfl rfl ?_
      refine TextR.nil ⟨(.cons (by first | rfl | (rw [hv]; rfl)) .nil), rfl⟩
  obtain ⟨hk, rfl⟩ := hk
  refine ⟨_, hk, ?_⟩
  refine Wp.condM h rfl (fun hc1 h => ?_) (fun hc1 h => ?_)
  · refine Wp.seq ?_
    refine Wp.text [2] rfl rfl ?_ -- region 4
    refine TextR.assign rfl ?_
    refine TextR.done (.cons rfl .nil) ?_
    refine Wp.ret ?_
    obtain rfl := Option.some.inj h
    exact Ret.one rfl (resV_tmp rfl) rfl
  · refine Wp.skip ?_
    refine Wp.seq ?_
    refine Wp.text [2] rfl rfl ?_ -- region 5
    refine TextR.assign rfl ?_
    refine TextR.done (.cons rfl .nil) ?_
    refine Wp.ret ?_
    obtain rfl := Option.some.inj h
    exact Ret.one rfl (resV_tmp rfl) rfl
theorem c_dine_Check (N : Nat) (a0 : TDiner) (r : Int) (h : dine_Check N a0 = some r) (H : List Ob) : DCall Try.prog 16 [.agg (eDiner a0)] H (.c (I r)) := DCall.lift (by first | rfl | simp [hfVs, hfV, hfL, hfAll, hfRows, mvV, mvL, mvO, mpE, mpV, mpVs, mpO, fzL, rnL, rn0, ok0, nzI, nzB, nzN, nzF, nzP, nzO, nzQ, nzC, shL, shV, shO, okV, okL, okO, List.take_of_length_le, h_Side, hfRows_map h_Side, ok_eSide, okR_eSide, fx_eSide, fxR_eSide, h_Diner, hfRows_map h_Diner, ok_eDiner, okR_eDiner, fx_eDiner, fxR_eDiner, h_Mail, hfRows_map h_Mail, ok_eMail, okR_eMail, fx_eMail, fxR_eMail, h_Msg, hfRows_map h_Msg, ok_eMsg, okR_eMsg, fx_eMsg, fxR_eMsg, -List.map_set]) (by first | rfl | simp [hfVs, hfV, hfL, hfAll, hfRows, mvV, mvL, mvO, mpE, mpV, mpVs, mpO, fzL, rnL, rn0, ok0, nzI, nzB, nzN, nzF, nzP, nzO, nzQ, nzC, shL, shV, shO, okV, okL, okO, List.take_of_length_le, h_Side, hfRows_map h_Side, ok_eSide, okR_eSide, fx_eSide, fxR_eSide, h_Diner, hfRows_map h_Diner, ok_eDiner, okR_eDiner, fx_eDiner, fxR_eDiner, h_Mail, hfRows_map h_Mail, ok_eMail, okR_eMail, fx_eMail, fxR_eMail, h_Msg, hfRows_map h_Msg, ok_eMsg, okR_eMsg, fx_eMsg, fxR_eMsg, -List.map_set]) (fun _ => by simp [hfVs, hfV, hfL, hfAll, hfRows, mvV, mvL, mvO, mpE, mpV, mpVs, mpO, fzL, rnL, rn0, ok0, nzI, nzB, nzN, nzF, nzP, nzO, nzQ, nzC, shL, shV, shO, okV, okL, okO, List.take_of_length_le, h_Side, hfRows_map h_Side, ok_eSide, okR_eSide, fx_eSide, fxR_eSide, h_Diner, hfRows_map h_Diner, ok_eDiner, okR_eDiner, fx_eDiner, fxR_eDiner, h_Mail, hfRows_map h_Mail, ok_eMail, okR_eMail, fx_eMail, fxR_eMail, h_Msg, hfRows_map h_Msg, ok_eMsg, okR_eMsg, fx_eMsg, fxR_eMsg, -List.map_set]) (w_dine_Check N a0 r h) H
-- slices.Clone
theorem bn_slices_Clone_Side : Nx.Call Try.prog 24 [.c nilS] [] fun r' H' => r' = .c (.sl 0 1 0 0) ∧ ∃ junk, H' = [.live 1 8 []] ++ junk := by
  refine Nx.Call.of_body Try.func24 rfl en24 Try.ntmps24 rfl (fun Γ hok => ?_)
  refine Wp.seq ?_
  refine Wp.text [0] rfl rfl ?_ -- region 0
  refine TextR.assign rfl ?_
  refine TextR.done (.cons rfl .nil) ?_
  refine Wp.seq ?_
  refine Wp.seq ?_
  refine Wp.text [0, 4] rfl rfl ?_ -- region 1
  refine TextR.move rfl ?_
  refine TextR.eqNil us23 rfl rfl ?_
  refine TextR.done (.cons rfl (.cons rfl .nil)) ?_
  refine Wp.cond rfl (fun hc => ?_) (fun hc => ?_)
  · refine Wp.seq ?_
    refine Wp.text [2] rfl rfl ?_ -- region 2
    refine TextR.assign rfl ?_
    refine TextR.done (.cons rfl .nil) ?_
    refine Wp.weak (fun a w hs => nilV_sat (t := 2) 1 8 0 rfl rfl .nil hs) ?_
    refine Wp.ret ?_
    refine Ret.one rfl (resV_tmp rfl) ?_
    exact ⟨rfl, [], rfl⟩
  · cases hc
theorem bq_slices_Clone_Side (xs : List TSide) (hl : xs.length ≤ 10000000000) : Nx.Call Try.prog 24 [.c (.slq (xs.map eSide))] [] fun r' H' => r' = .c (.sl 0 1 0 xs.length) ∧ ∃ junk, H' = [.live 1 8 (xs.map eSide)] ++ junk := by
  refine Nx.Call.of_body Try.func24 rfl en24 Try.ntmps24 rfl (fun Γ hok => ?_)
  refine Wp.seq ?_
  refine Wp.text [0] rfl rfl ?_ -- region 0
  refine TextR.assign rfl ?_
  refine TextR.done (.cons rfl .nil) ?_
  refine Wp.seq ?_
  refine Wp.seq ?_
  refine Wp.text [0, 4] rfl rfl ?_ -- region 1
  refine TextR.move rfl ?_
  refine TextR.eqNil us23 rfl rfl ?_
  refine TextR.done (.cons rfl (.cons rfl .nil)) ?_
  refine Wp.cond rfl (fun hc => ?_) (fun hc => ?_)
  · cases hc
  · refine Wp.skip ?_
    refine Wp.seq ?_
    refine Wp.text [2] rfl rfl ?_ -- region 3
    refine TextR.buildSlice 0 se23 rfl rfl rfl .nil ?_
    refine TextR.move rfl ?_
    refine TextR.appendM eSide [] xs xs rfl se23 rfl rfl rfl rfl (fun _ => rfl) rfl (by simp; omega) .zero ?_
    refine TextR.assign rfl ?_
    refine TextR.done (.cons rfl .nil) ?_
    refine Wp.ret ?_
    refine Ret.one rfl (resV_tmp rfl) ?_
    exact ⟨rfl, [], rfl⟩
theorem b_slices_Clone_Side (xs : List TSide) (hl : xs.length ≤ 10000000000) : Nx.Call Try.prog 24 [.c (.slv (xs.map eSide))] [] fun r' H' => r' = .c (.sl 0 1 0 xs.length) ∧ ∃ junk, H' = [.live 1 8 (xs.map eSide)] ++ junk :=
  .cases en24 fun Γ args' hok hc => by
    simp only [concVs] at hc
    obtain ⟨y, ys', h1, h2, h3⟩ := hc
    rcases conc_slv_nil h2 with ⟨h4, h5⟩ | h5
    · have h6 : xs = [] := by simpa using h4
      subst h6
      exact ⟨[.c nilS], bn_slices_Clone_Side, by simp only [concVs]; exact ⟨y, ys', h1, h5, h3⟩⟩
    · exact ⟨[.c (.slq (xs.map eSide))], bq_slices_Clone_Side xs hl, by simp only [concVs]; exact ⟨y, ys', h1, h5, h3⟩⟩
theorem o_slices_Clone_Side (N : Nat) (a0 r : List TSide) (h : slices_Clone_Side N a0 = some r) {H H1 : List Ob} (k : Nat) (hh : H.length = k) (hs : Snoc (.live 1 8 (r.map eSide)) H H1) : Nx.Call Try.prog 24 [.c (.slv (a0.map eSide))] H fun r' H' => r' = .c (.sl k 1 0 r.length) ∧ H' = H1 := by
  have he := app_eq h
  have hl := app_len h
  simp only [List.nil_append] at he
  subst he
  have hc := Call.lift (objs := [.live 1 8 (a0.map eSide)]) (by simp [hfVs, hfV, hfL, hfRows_map h_Side]) rfl (by have := okR_eSide (p := mvL 1) a0; simpa [mvO] using this) (b_slices_Clone_Side a0 (by simpa using hl)) H
  refine Call.mono hc fun r' H' ⟨h1, h2⟩ => ⟨by subst hh; simpa [shV, shL] using h1, ?_⟩
  rw [h2, ← hs.eq]
  simp [shO, fx_eSide]
theorem w_slices_Clone_Side (N : Nat) (a0 r : List TSide) (h : slices_Clone_Side N a0 = some r) : Nx.Call Try.prog 24 [.c (.slv (a0.map eSide))] [] fun r' _ => r' = .c (.slv (r.map eSide)) := by
  have he := app_eq h
  have hl := app_len h
  simp only [List.nil_append] at he
  subst he
  exact Call.frz (b_slices_Clone_Side a0 (by simpa using hl))
theorem c_slices_Clone_Side (N : Nat) (a0 r : List TSide) (h : slices_Clone_Side N a0 = some r) (H : List Ob) : DCall Try.prog 24 [.c (.slv (a0.map eSide))] H (.c (.slv (r.map eSide))) := DCall.lift (by simp [hfVs, hfV, hfL, hfRows_map h_Side]) (by simp [mvV, mvL, hfL, hfRows_map h_Side]) (fun _ => rfl) (w_slices_Clone_Side N a0 r h) H

-- narthex/dine.turned
theorem w_dine_turned (N : Nat) (a0 : TDiner) (a1 : Int) (a2 : Int) (r : TDiner × Int) (h : dine_turned N a0 a1 a2 = some r) : Nx.Call Try.prog 33 [.agg (eDiner a0), .c (I a1), .c (I a2)] [] fun r' _ => r' = .tup [.agg (eDiner r.1), .c (I r.2)] := by
  refine Nx.Call.of_body Try.func33 rfl en33 Try.ntmps33 rfl (fun Γ hok => ?_)
  unfold dine_turned at h
  refine Wp.seq ?_
  refine Wp.text [1, 2, 3, 6] rfl rfl ?_ -- region 0
  refine TextR.box (cs := [I a0.ID, I a0.Phase, .slv (a0.Sides.map eSide)]) 0 rfl rfl rfl rfl .nil ?_
  refine TextR.alloc 1 zc25 rfl rfl (.cons .nil) ?_
  refine TextR.assign rfl ?_
  refine TextR.done (.cons rfl (.cons rfl (.cons rfl (.cons rfl .nil)))) ?_
  refine Wp.seq ?_
  obtain ⟨y1, hy1, h⟩ := bind_some h
  refine Wp.text [1, 2, 3, 6, 8] rfl rfl ?_ -- region 1
  refine TextR.loadN (cs := [I a0.ID, I a0.Phase, .slv (a0.Sides.map eSide)]) tk25 rfl rfl ?_
  refine TextR.dcall rfl rfl (c_dine_Check N a0 y1 hy1 _) ?_
  refine TextR.assign rfl ?_
  refine TextR.done (.cons rfl (.cons rfl (.cons rfl (.cons rfl (.cons rfl .nil))))) ?_
  refine Wp.seq ?_
  refine Wp.seq ?_
  refine Wp.go false none [[], [], [], [(13, true)], [(13, true)], [(13, true)], [(13, true)], []] [] [2, 3, 6, 8, 18] mixed rfl rfl (by kernel_rfl) ?_ -- region 2
  refine RunR.move rfl rfl rfl ?_
  refine RunR.int rfl rfl rfl rfl rfl ?_
  refine RunR.move rfl rfl rfl ?_
  refine RunR.fieldAddr fo25_1 rfl rfl rfl rfl rfl ?_
  refine RunR.load1 tk22 rfl rfl rfl rfl ?_
  refine RunR.move rfl rfl rfl ?_
  refine RunR.int rfl rfl rfl rfl rfl ?_
  refine RunR.pickAnd rfl rfl rfl rfl ?_
  refine RunR.doneQ (.cons rfl (.cons rfl (.cons rfl (.cons rfl (.cons rfl .nil))))) ?_
  obtain ⟨z2, hz2, h⟩ := bind_some h
  refine Wp.fragN (fun S => ∃ S', St.Weak ⟨Try.prog, 30, Γ⟩ S S' ∧ S' = ⟨[(2, .c (I a2)), (3, .c (.ptr 0 0 0 0)), (6, .c (.ptr 1 0 0 0)), (8, .c (I z2))], [.live 0 3 [[I a0.ID, I a0.Phase, .slv (a0.Sides.map eSide)]], .live 0 3 [[I 0, I 0, nilS]]]⟩) ?_ ?_
  · replace h := hz2
    refine Wp.condM h rfl (fun hc2 h => ?_) (fun hc2 h => ?_)
    · refine Wp.text [2, 3, 6, 8] rfl rfl ?_ -- region 3
      refine TextR.assign rfl ?_
      refine TextR.done (.cons rfl (.cons rfl (.cons rfl (.cons rfl .nil)))) ?_
      obtain rfl := Option.some.inj h
      exact ⟨_, (keepW (live := [2, 3, 6, 8]) (.cons rfl (.cons rfl (.cons rfl (.cons rfl .nil))))), rfl⟩
    · refine Wp.skip ?_
      obtain rfl := Option.some.inj h
      exact ⟨_, (keepW (live := [2, 3, 6, 8]) (.cons rfl (.cons rfl (.cons rfl (.cons rfl .nil))))), rfl⟩
  rintro _ ⟨S', hw, rfl⟩
  clear hz2
  refine Wp.weak hw ?_
  refine Wp.seq ?_
  refine Wp.seq ?_
  refine Wp.text [2, 3, 6, 8, 20] rfl rfl ?_ -- region 4
  refine TextR.move rfl ?_
  refine TextR.int rfl rfl rfl ?_
  refine TextR.done (.cons rfl (.cons rfl (.cons rfl (.cons rfl (.cons rfl .nil))))) ?_
  refine Wp.condM h rfl (fun hc1 h => ?_) (fun hc1 h => ?_)
  · refine Wp.seq ?_
    refine Wp.text [6, 7] rfl rfl ?_ -- region 5
    refine TextR.build cm25 rfl ?_
    refine TextR.move rfl ?_
    refine TextR.store1 tk25 rfl rfl rfl rfl rfl rfl (.succ .zero) ?_
    refine TextR.assign rfl ?_
    refine TextR.done (.cons rfl (.cons rfl .nil)) ?_
    refine Wp.weak (keepW (live := [6, 7] ) (.cons rfl (.cons rfl .nil))) ?_
    refine Wp.weak (nzT (e' := [(6, .c (.ptr 1 0 0 0)), (7, .c (I z2))]) (H' := [.live 0 3 [[I a0.ID, I a0.Phase, .slv (a0.Sides.map eSide)]], .live 0 3 [[I 0, I 0, .slv ([].map eSide)]]]) (by first | rfl | simp [hfVs, hfV, hfL, hfAll, hfRows, mvV, mvL, mvO, mpE, mpV, mpVs, mpO, fzL, rnL, rn0, ok0, nzI, nzB, nzN, nzF, nzP, nzO, nzQ, nzC, shL, shV, shO, okV, okL, okO, List.take_of_length_le, h_Side, hfRows_map h_Side, ok_eSide, okR_eSide, fx_eSide, fxR_eSide, h_Diner, hfRows_map h_Diner, ok_eDiner, okR_eDiner, fx_eDiner, fxR_eDiner, h_Mail, hfRows_map h_Mail, ok_eMail, okR_eMail, fx_eMail, fxR_eMail, h_Msg, hfRows_map h_Msg, ok_eMsg, okR_eMsg, fx_eMsg, fxR_eMsg, -List.map_set]) (by first | rfl | simp [hfVs, hfV, hfL, hfAll, hfRows, mvV, mvL, mvO, mpE, mpV, mpVs, mpO, fzL, rnL, rn0, ok0, nzI, nzB, nzN, nzF, nzP, nzO, nzQ, nzC, shL, shV, shO, okV, okL, okO, List.take_of_length_le, h_Side, hfRows_map h_Side, ok_eSide, okR_eSide, fx_eSide, fxR_eSide, h_Diner, hfRows_map h_Diner, ok_eDiner, okR_eDiner, fx_eDiner, fxR_eDiner, h_Mail, hfRows_map h_Mail, ok_eMail, okR_eMail, fx_eMail, fxR_eMail, h_Msg, hfRows_map h_Msg, ok_eMsg, okR_eMsg, fx_eMsg, fxR_eMsg, -List.map_set])) ?_
    refine Wp.ret ?_
    obtain rfl := Option.some.inj h
    exact Ret.two rfl (resV_cellN tk25 rfl rfl) (resV_tmp rfl) rfl
  · refine Wp.skip ?_
    refine Wp.seq ?_
    obtain ⟨y3, hy3, h⟩ := bind_some h
    refine Wp.go true (some [1]) [] [] [6, 7] mixed rfl rfl (by kernel_rfl) ?_ -- region 6
    refine RunR.fieldAddr fo25_0 rfl rfl rfl rfl rfl ?_
    refine RunR.load1 tk3 rfl rfl rfl rfl ?_
    refine RunR.move rfl rfl rfl ?_
    refine RunR.fieldAddr fo25_2 rfl rfl rfl rfl rfl ?_
    refine RunR.load1 tk23 rfl rfl rfl rfl ?_
    refine RunR.call rfl rfl rfl (fun H => c_slices_Clone_Side N a0.Sides y3 hy3 H) ?_
    refine RunR.build cm25 rfl rfl rfl ?_
    refine RunR.store1 tk25 rfl rfl rfl rfl rfl rfl rfl rfl (.succ .zero) ?_
    refine RunR.assign rfl rfl rfl ?_
    refine RunR.doneQ (.cons rfl (.cons rfl .nil)) ?_
    refine Wp.ret ?_
    obtain rfl := Option.some.inj h
    exact Ret.two rfl (resV_cellN tk25 rfl rfl) (resV_tmp rfl) rfl
theorem c_dine_turned (N : Nat) (a0 : TDiner) (a1 : Int) (a2 : Int) (r : TDiner × Int) (h : dine_turned N a0 a1 a2 = some r) (H : List Ob) : DCall Try.prog 33 [.agg (eDiner a0), .c (I a1), .c (I a2)] H (.tup [.agg (eDiner r.1), .c (I r.2)]) := DCall.lift (by first | rfl | simp [hfVs, hfV, hfL, hfAll, hfRows, mvV, mvL, mvO, mpE, mpV, mpVs, mpO, fzL, rnL, rn0, ok0, nzI, nzB, nzN, nzF, nzP, nzO, nzQ, nzC, shL, shV, shO, okV, okL, okO, List.take_of_length_le, h_Side, hfRows_map h_Side, ok_eSide, okR_eSide, fx_eSide, fxR_eSide, h_Diner, hfRows_map h_Diner, ok_eDiner, okR_eDiner, fx_eDiner, fxR_eDiner, h_Mail, hfRows_map h_Mail, ok_eMail, okR_eMail, fx_eMail, fxR_eMail, h_Msg, hfRows_map h_Msg, ok_eMsg, okR_eMsg, fx_eMsg, fxR_eMsg, -List.map_set]) (by first | rfl | simp [hfVs, hfV, hfL, hfAll, hfRows, mvV, mvL, mvO, mpE, mpV, mpVs, mpO, fzL, rnL, rn0, ok0, nzI, nzB, nzN, nzF, nzP, nzO, nzQ, nzC, shL, shV, shO, okV, okL, okO, List.take_of_length_le, h_Side, hfRows_map h_Side, ok_eSide, okR_eSide, fx_eSide, fxR_eSide, h_Diner, hfRows_map h_Diner, ok_eDiner, okR_eDiner, fx_eDiner, fxR_eDiner, h_Mail, hfRows_map h_Mail, ok_eMail, okR_eMail, fx_eMail, fxR_eMail, h_Msg, hfRows_map h_Msg, ok_eMsg, okR_eMsg, fx_eMsg, fxR_eMsg, -List.map_set]) (fun _ => by simp [hfVs, hfV, hfL, hfAll, hfRows, mvV, mvL, mvO, mpE, mpV, mpVs, mpO, fzL, rnL, rn0, ok0, nzI, nzB, nzN, nzF, nzP, nzO, nzQ, nzC, shL, shV, shO, okV, okL, okO, List.take_of_length_le, h_Side, hfRows_map h_Side, ok_eSide, okR_eSide, fx_eSide, fxR_eSide, h_Diner, hfRows_map h_Diner, ok_eDiner, okR_eDiner, fx_eDiner, fxR_eDiner, h_Mail, hfRows_map h_Mail, ok_eMail, okR_eMail, fx_eMail, fxR_eMail, h_Msg, hfRows_map h_Msg, ok_eMsg, okR_eMsg, fx_eMsg, fxR_eMsg, -List.map_set]) (w_dine_turned N a0 a1 a2 r h) H
-- narthex/dine.Start
theorem w_dine_Start (N : Nat) (a0 : TDiner) (r : TDiner × Int) (h : dine_Start N a0 = some r) : Nx.Call Try.prog 21 [.agg (eDiner a0)] [] fun r' _ => r' = .tup [.agg (eDiner r.1), .c (I r.2)] := by
  refine Nx.Call.of_body Try.func21 rfl en21 Try.ntmps21 rfl (fun Γ hok => ?_)
  unfold dine_Start at h
  refine Wp.seq ?_
  refine Wp.text [1, 2] rfl rfl ?_ -- region 0
  refine TextR.box (cs := [I a0.ID, I a0.Phase, .slv (a0.Sides.map eSide)]) 0 rfl rfl rfl rfl .nil ?_
  refine TextR.alloc 1 zc25 rfl rfl (.cons .nil) ?_
  refine TextR.assign rfl ?_
  refine TextR.done (.cons rfl (.cons rfl .nil)) ?_
  refine Wp.seq ?_
  obtain ⟨y1, hy1, h⟩ := bind_some h
  refine Wp.text [2, 3] rfl rfl ?_ -- region 1
  refine TextR.loadN (cs := [I a0.ID, I a0.Phase, .slv (a0.Sides.map eSide)]) tk25 rfl rfl ?_
  refine TextR.dcall rfl rfl (c_dine_turned N a0 0 1 y1 hy1 _) ?_
  refine TextR.extract rfl rfl ?_
  refine TextR.extract rfl rfl ?_
  refine TextR.store1 tk25 rfl rfl rfl rfl rfl rfl (.succ .zero) ?_
  refine TextR.assign rfl ?_
  refine TextR.done (.cons rfl (.cons rfl .nil)) ?_
  refine Wp.ret ?_
  obtain rfl := Option.some.inj h
  exact Ret.two rfl (resV_cellN tk25 rfl rfl) (resV_tmp rfl) rfl
theorem c_dine_Start (N : Nat) (a0 : TDiner) (r : TDiner × Int) (h : dine_Start N a0 = some r) (H : List Ob) : DCall Try.prog 21 [.agg (eDiner a0)] H (.tup [.agg (eDiner r.1), .c (I r.2)]) := DCall.lift (by first | rfl | simp [hfVs, hfV, hfL, hfAll, hfRows, mvV, mvL, mvO, mpE, mpV, mpVs, mpO, fzL, rnL, rn0, ok0, nzI, nzB, nzN, nzF, nzP, nzO, nzQ, nzC, shL, shV, shO, okV, okL, okO, List.take_of_length_le, h_Side, hfRows_map h_Side, ok_eSide, okR_eSide, fx_eSide, fxR_eSide, h_Diner, hfRows_map h_Diner, ok_eDiner, okR_eDiner, fx_eDiner, fxR_eDiner, h_Mail, hfRows_map h_Mail, ok_eMail, okR_eMail, fx_eMail, fxR_eMail, h_Msg, hfRows_map h_Msg, ok_eMsg, okR_eMsg, fx_eMsg, fxR_eMsg, -List.map_set]) (by first | rfl | simp [hfVs, hfV, hfL, hfAll, hfRows, mvV, mvL, mvO, mpE, mpV, mpVs, mpO, fzL, rnL, rn0, ok0, nzI, nzB, nzN, nzF, nzP, nzO, nzQ, nzC, shL, shV, shO, okV, okL, okO, List.take_of_length_le, h_Side, hfRows_map h_Side, ok_eSide, okR_eSide, fx_eSide, fxR_eSide, h_Diner, hfRows_map h_Diner, ok_eDiner, okR_eDiner, fx_eDiner, fxR_eDiner, h_Mail, hfRows_map h_Mail, ok_eMail, okR_eMail, fx_eMail, fxR_eMail, h_Msg, hfRows_map h_Msg, ok_eMsg, okR_eMsg, fx_eMsg, fxR_eMsg, -List.map_set]) (fun _ => by simp [hfVs, hfV, hfL, hfAll, hfRows, mvV, mvL, mvO, mpE, mpV, mpVs, mpO, fzL, rnL, rn0, ok0, nzI, nzB, nzN, nzF, nzP, nzO, nzQ, nzC, shL, shV, shO, okV, okL, okO, List.take_of_length_le, h_Side, hfRows_map h_Side, ok_eSide, okR_eSide, fx_eSide, fxR_eSide, h_Diner, hfRows_map h_Diner, ok_eDiner, okR_eDiner, fx_eDiner, fxR_eDiner, h_Mail, hfRows_map h_Mail, ok_eMail, okR_eMail, fx_eMail, fxR_eMail, h_Msg, hfRows_map h_Msg, ok_eMsg, okR_eMsg, fx_eMsg, fxR_eMsg, -List.map_set]) (w_dine_Start N a0 r h) H
-- narthex/dine.Fire$1
theorem w_dine_Fire_1 (N : Nat) (a0 : Int) (c0_0 : Int) (c0_1 : Int) (l1 : List TSide) (c2_0 : Int) (c2_1 : Int) (c4_0 : Nat) (l5 : List TMail) {w1 : Nat} {w5 : Nat} (r : (List TMail)) (h : dine_Fire_1 N a0 c0_0 c0_1 l1 c2_0 c2_1 c4_0 l5 = some r) : Nx.Call Try.prog 25 [.c (I a0), .c (.ptr 3 0 0 0), .c (.ptr 0 0 0 0), .c (.ptr 4 0 0 0)] [.live 0 3 [[I c0_0, I c0_1, .sl 1 w1 0 l1.length]], .live w1 8 (l1.map eSide), .live 0 3 [[I c2_0, I c2_1, nilS]], .live 0 1 [[.sl 5 w5 0 l5.length]], .live 0 1 [[.ptr 1 w1 c4_0 0]], .live w5 5 (l5.map eMail)] fun r' H' => r' = .tup [] ∧ ∃ junk, H' = [.live 0 3 [[I c0_0, I c0_1, .sl 1 w1 0 l1.length]], .live w1 8 (l1.map eSide), .live 0 3 [[I c2_0, I c2_1, nilS]], .live 0 1 [[.sl 5 (w5 + 1) 0 r.length]], .live 0 1 [[.ptr 1 w1 c4_0 0]], .live (w5 + 1) 5 (r.map eMail)] ++ junk := by
  refine Nx.Call.of_body Try.func25 rfl en25 Try.ntmps25 rfl (fun Γ hok => ?_)
  unfold dine_Fire_1 at h
  obtain ⟨x1, hx1, h⟩ := bind_some h
  obtain ⟨x2, hx2, h⟩ := bind_some h
  refine Wp.go true (some [6]) [] [true, false, false, false, false, false, false, false, false, false, false, false, false, false, false, true, true] [] mixed rfl rfl (by kernel_rfl) ?_ -- region 0
  refine RunR.load1 tk27 rfl rfl rfl rfl ?_
  refine RunR.fieldAddr fo25_0 rfl rfl rfl rfl rfl ?_
  refine RunR.load1 tk3 rfl rfl rfl rfl ?_
  refine RunR.load1 tk54 rfl rfl rfl rfl ?_
  refine RunR.nilCheck rfl rfl rfl (by simp [alive, obj]) ?_
  refine RunR.fieldAddr (l := .ptr 1 w1 c4_0 0) fo47_0 rfl rfl rfl rfl (by simp [fieldL, obj]) ?_
  refine RunR.load1O tk3 rfl rfl rfl (obj_of rfl) hx1 rfl ?_
  refine RunR.move rfl rfl rfl ?_
  refine RunR.load1 tk54 rfl rfl rfl rfl ?_
  refine RunR.nilCheck rfl rfl rfl (by simp [alive, obj]) ?_
  refine RunR.fieldAddr (l := .ptr 1 w1 c4_0 1) fo47_1 rfl rfl rfl rfl (by simp [fieldL, obj]) ?_
  refine RunR.load1O tk3 rfl rfl rfl (obj_of rfl) hx1 rfl ?_
  refine RunR.build cm40 rfl rfl rfl ?_
  refine RunR.build cm49 rfl rfl rfl ?_
  refine RunR.buildSlice (rows := [(⟨c0_0, x1.Peer, (⟨a0, x1.Epoch, 0⟩ : TMsg)⟩ : TMail)].map eMail) 6 se27 rfl rfl rfl rfl rfl (.cons (.cons (.cons (.cons (.cons (.cons .nil)))))) ?_
  refine RunR.appendM eMail l5 [(⟨c0_0, x1.Peer, (⟨a0, x1.Epoch, 0⟩ : TMsg)⟩ : TMail)] x2 (app_eq hx2) se27 rfl rfl rfl (obj_of rfl) rfl (view_whole (f := eMail) (xs := [(⟨c0_0, x1.Peer, (⟨a0, x1.Epoch, 0⟩ : TMsg)⟩ : TMail)]) rfl) (fun _ => rfl) rfl (app_len hx2) (.succ (.succ (.succ (.succ (.succ .zero))))) ?_
  refine RunR.store1 tk27 rfl rfl rfl rfl rfl rfl rfl rfl (.succ (.succ (.succ .zero))) ?_
  refine RunR.doneQ .nil ?_
  obtain rfl := Option.some.inj h
  exact Ret.zeroN rfl  ⟨rfl, _, rfl⟩
theorem c_dine_Fire_1 (N : Nat) (a0 : Int) (c0_0 : Int) (c0_1 : Int) (l1 : List TSide) (c2_0 : Int) (c2_1 : Int) (c4_0 : Nat) (l5 : List TMail) {w1 : Nat} {w5 : Nat} (r : (List TMail)) (h : dine_Fire_1 N a0 c0_0 c0_1 l1 c2_0 c2_1 c4_0 l5 = some r) : Nx.Call Try.prog 25 [.c (I a0), .c (.ptr 3 0 0 0), .c (.ptr 0 0 0 0), .c (.ptr 4 0 0 0)] [.live 0 3 [[I c0_0, I c0_1, .sl 1 w1 0 l1.length]], .live w1 8 (l1.map eSide), .live 0 3 [[I c2_0, I c2_1, nilS]], .live 0 1 [[.sl 5 w5 0 l5.length]], .live 0 1 [[.ptr 1 w1 c4_0 0]], .live w5 5 (l5.map eMail)] fun r' H' => r' = .tup [] ∧ H' = [.live 0 3 [[I c0_0, I c0_1, .sl 1 w1 0 l1.length]], .live w1 8 (l1.map eSide), .live 0 3 [[I c2_0, I c2_1, nilS]], .live 0 1 [[.sl 5 (w5 + 1) 0 r.length]], .live 0 1 [[.ptr 1 w1 c4_0 0]], .live (w5 + 1) 5 (r.map eMail)] := Call.trim (by simp) (by first | rfl | simp [hfVs, hfV, hfL, hfAll, hfRows, mvV, mvL, mvO, mpE, mpV, mpVs, mpO, fzL, rnL, rn0, ok0, nzI, nzB, nzN, nzF, nzP, nzO, nzQ, nzC, shL, shV, shO, okV, okL, okO, List.take_of_length_le, h_Side, hfRows_map h_Side, ok_eSide, okR_eSide, fx_eSide, fxR_eSide, h_Diner, hfRows_map h_Diner, ok_eDiner, okR_eDiner, fx_eDiner, fxR_eDiner, h_Mail, hfRows_map h_Mail, ok_eMail, okR_eMail, fx_eMail, fxR_eMail, h_Msg, hfRows_map h_Msg, ok_eMsg, okR_eMsg, fx_eMsg, fxR_eMsg, -List.map_set]) (by first | rfl | simp [hfVs, hfV, hfL, hfAll, hfRows, mvV, mvL, mvO, mpE, mpV, mpVs, mpO, fzL, rnL, rn0, ok0, nzI, nzB, nzN, nzF, nzP, nzO, nzQ, nzC, shL, shV, shO, okV, okL, okO, List.take_of_length_le, h_Side, hfRows_map h_Side, ok_eSide, okR_eSide, fx_eSide, fxR_eSide, h_Diner, hfRows_map h_Diner, ok_eDiner, okR_eDiner, fx_eDiner, fxR_eDiner, h_Mail, hfRows_map h_Mail, ok_eMail, okR_eMail, fx_eMail, fxR_eMail, h_Msg, hfRows_map h_Msg, ok_eMsg, okR_eMsg, fx_eMsg, fxR_eMsg, -List.map_set]) (w_dine_Fire_1 N a0 c0_0 c0_1 l1 c2_0 c2_1 c4_0 l5 r h)
-- narthex/dine.Fire$1
theorem w_dine_Fire_1_2 (N : Nat) (a0 : Int) (c0_0 : Int) (c0_1 : Int) (l1 : List TSide) (c2_0 : Int) (c2_1 : Int) (l4 : List TMail) (c5_0 : Nat) {w1 : Nat} {w4 : Nat} (r : (List TMail)) (h : dine_Fire_1_2 N a0 c0_0 c0_1 l1 c2_0 c2_1 l4 c5_0 = some r) : Nx.Call Try.prog 25 [.c (I a0), .c (.ptr 3 0 0 0), .c (.ptr 0 0 0 0), .c (.ptr 5 0 0 0)] [.live 0 3 [[I c0_0, I c0_1, .sl 1 w1 0 l1.length]], .live w1 8 (l1.map eSide), .live 0 3 [[I c2_0, I c2_1, nilS]], .live 0 1 [[.sl 4 w4 0 l4.length]], .live w4 5 (l4.map eMail), .live 0 1 [[.ptr 1 w1 c5_0 0]]] fun r' H' => r' = .tup [] ∧ ∃ junk, H' = [.live 0 3 [[I c0_0, I c0_1, .sl 1 w1 0 l1.length]], .live w1 8 (l1.map eSide), .live 0 3 [[I c2_0, I c2_1, nilS]], .live 0 1 [[.sl 4 (w4 + 1) 0 r.length]], .live (w4 + 1) 5 (r.map eMail), .live 0 1 [[.ptr 1 w1 c5_0 0]]] ++ junk := by
  refine Nx.Call.of_body Try.func25 rfl en25 Try.ntmps25 rfl (fun Γ hok => ?_)
  unfold dine_Fire_1_2 at h
  obtain ⟨x1, hx1, h⟩ := bind_some h
  obtain ⟨x2, hx2, h⟩ := bind_some h
  refine Wp.go true (some [6]) [] [true, false, false, false, false, false, false, false, false, false, false, false, false, false, false, true, true] [] mixed rfl rfl (by kernel_rfl) ?_ -- region 0
  refine RunR.load1 tk27 rfl rfl rfl rfl ?_
  refine RunR.fieldAddr fo25_0 rfl rfl rfl rfl rfl ?_
  refine RunR.load1 tk3 rfl rfl rfl rfl ?_
  refine RunR.load1 tk54 rfl rfl rfl rfl ?_
  refine RunR.nilCheck rfl rfl rfl (by simp [alive, obj]) ?_
  refine RunR.fieldAddr (l := .ptr 1 w1 c5_0 0) fo47_0 rfl rfl rfl rfl (by simp [fieldL, obj]) ?_
  refine RunR.load1O tk3 rfl rfl rfl (obj_of rfl) hx1 rfl ?_
  refine RunR.move rfl rfl rfl ?_
  refine RunR.load1 tk54 rfl rfl rfl rfl ?_
  refine RunR.nilCheck rfl rfl rfl (by simp [alive, obj]) ?_
  refine RunR.fieldAddr (l := .ptr 1 w1 c5_0 1) fo47_1 rfl rfl rfl rfl (by simp [fieldL, obj]) ?_
  refine RunR.load1O tk3 rfl rfl rfl (obj_of rfl) hx1 rfl ?_
  refine RunR.build cm40 rfl rfl rfl ?_
  refine RunR.build cm49 rfl rfl rfl ?_
  refine RunR.buildSlice (rows := [(⟨c0_0, x1.Peer, (⟨a0, x1.Epoch, 0⟩ : TMsg)⟩ : TMail)].map eMail) 6 se27 rfl rfl rfl rfl rfl (.cons (.cons (.cons (.cons (.cons (.cons .nil)))))) ?_
  refine RunR.appendM eMail l4 [(⟨c0_0, x1.Peer, (⟨a0, x1.Epoch, 0⟩ : TMsg)⟩ : TMail)] x2 (app_eq hx2) se27 rfl rfl rfl (obj_of rfl) rfl (view_whole (f := eMail) (xs := [(⟨c0_0, x1.Peer, (⟨a0, x1.Epoch, 0⟩ : TMsg)⟩ : TMail)]) rfl) (fun _ => rfl) rfl (app_len hx2) (.succ (.succ (.succ (.succ .zero)))) ?_
  refine RunR.store1 tk27 rfl rfl rfl rfl rfl rfl rfl rfl (.succ (.succ (.succ .zero))) ?_
  refine RunR.doneQ .nil ?_
  obtain rfl := Option.some.inj h
  exact Ret.zeroN rfl  ⟨rfl, _, rfl⟩
theorem c_dine_Fire_1_2 (N : Nat) (a0 : Int) (c0_0 : Int) (c0_1 : Int) (l1 : List TSide) (c2_0 : Int) (c2_1 : Int) (l4 : List TMail) (c5_0 : Nat) {w1 : Nat} {w4 : Nat} (r : (List TMail)) (h : dine_Fire_1_2 N a0 c0_0 c0_1 l1 c2_0 c2_1 l4 c5_0 = some r) : Nx.Call Try.prog 25 [.c (I a0), .c (.ptr 3 0 0 0), .c (.ptr 0 0 0 0), .c (.ptr 5 0 0 0)] [.live 0 3 [[I c0_0, I c0_1, .sl 1 w1 0 l1.length]], .live w1 8 (l1.map eSide), .live 0 3 [[I c2_0, I c2_1, nilS]], .live 0 1 [[.sl 4 w4 0 l4.length]], .live w4 5 (l4.map eMail), .live 0 1 [[.ptr 1 w1 c5_0 0]]] fun r' H' => r' = .tup [] ∧ H' = [.live 0 3 [[I c0_0, I c0_1, .sl 1 w1 0 l1.length]], .live w1 8 (l1.map eSide), .live 0 3 [[I c2_0, I c2_1, nilS]], .live 0 1 [[.sl 4 (w4 + 1) 0 r.length]], .live (w4 + 1) 5 (r.map eMail), .live 0 1 [[.ptr 1 w1 c5_0 0]]] := Call.trim (by simp) (by first | rfl | simp [hfVs, hfV, hfL, hfAll, hfRows, mvV, mvL, mvO, mpE, mpV, mpVs, mpO, fzL, rnL, rn0, ok0, nzI, nzB, nzN, nzF, nzP, nzO, nzQ, nzC, shL, shV, shO, okV, okL, okO, List.take_of_length_le, h_Side, hfRows_map h_Side, ok_eSide, okR_eSide, fx_eSide, fxR_eSide, h_Diner, hfRows_map h_Diner, ok_eDiner, okR_eDiner, fx_eDiner, fxR_eDiner, h_Mail, hfRows_map h_Mail, ok_eMail, okR_eMail, fx_eMail, fxR_eMail, h_Msg, hfRows_map h_Msg, ok_eMsg, okR_eMsg, fx_eMsg, fxR_eMsg, -List.map_set]) (by first | rfl | simp [hfVs, hfV, hfL, hfAll, hfRows, mvV, mvL, mvO, mpE, mpV, mpVs, mpO, fzL, rnL, rn0, ok0, nzI, nzB, nzN, nzF, nzP, nzO, nzQ, nzC, shL, shV, shO, okV, okL, okO, List.take_of_length_le, h_Side, hfRows_map h_Side, ok_eSide, okR_eSide, fx_eSide, fxR_eSide, h_Diner, hfRows_map h_Diner, ok_eDiner, okR_eDiner, fx_eDiner, fxR_eDiner, h_Mail, hfRows_map h_Mail, ok_eMail, okR_eMail, fx_eMail, fxR_eMail, h_Msg, hfRows_map h_Msg, ok_eMsg, okR_eMsg, fx_eMsg, fxR_eMsg, -List.map_set]) (w_dine_Fire_1_2 N a0 c0_0 c0_1 l1 c2_0 c2_1 l4 c5_0 r h)
-- narthex/dine.Fire
theorem w_dine_Fire (N : Nat) (a0 : TDiner) (r : TDiner × (List TMail) × Int) (h : dine_Fire N a0 = some r) : Nx.Call Try.prog 11 [.agg (eDiner a0)] [] fun r' _ => r' = .tup [.agg (eDiner r.1), .c (.slv (r.2.1.map eMail)), .c (I r.2.2)] := by
  refine Nx.Call.of_body Try.func11 rfl en11 Try.ntmps11 rfl (fun Γ hok => ?_)
  unfold dine_Fire at h
  refine Wp.seq ?_
  refine Wp.text [1, 2] rfl rfl ?_ -- region 0
  refine TextR.box (cs := [I a0.ID, I a0.Phase, .slv (a0.Sides.map eSide)]) 0 rfl rfl rfl rfl .nil ?_
  refine TextR.alloc 1 zc25 rfl rfl (.cons .nil) ?_
  refine TextR.assign rfl ?_
  refine TextR.assign rfl ?_
  refine TextR.done (.cons rfl (.cons rfl .nil)) ?_
  refine Wp.seq ?_
  refine Wp.seq ?_
  obtain ⟨y1, hy1, h⟩ := bind_some h
  refine Wp.text [1, 2, 5] rfl rfl ?_ -- region 1
  refine TextR.loadN (cs := [I a0.ID, I a0.Phase, .slv (a0.Sides.map eSide)]) tk25 rfl rfl ?_
  refine TextR.dcall rfl rfl (c_dine_Check N a0 y1 hy1 _) ?_
  refine TextR.assign rfl ?_
  refine TextR.done (.cons rfl (.cons rfl (.cons rfl .nil))) ?_
  refine Wp.seq ?_
  refine Wp.text [1, 2, 5, 15] rfl rfl ?_ -- region 2
  refine TextR.move rfl ?_
  refine TextR.int rfl rfl rfl ?_
  refine TextR.done (.cons rfl (.cons rfl (.cons rfl (.cons rfl .nil)))) ?_
  refine Wp.condM h rfl (fun hc1 h => ?_) (fun hc1 h => ?_)
  · refine Wp.seq ?_
    refine Wp.text [2, 3, 4] rfl rfl ?_ -- region 3
    refine TextR.build cm25 rfl ?_
    refine TextR.move rfl ?_
    refine TextR.store1 tk25 rfl rfl rfl rfl rfl rfl (.succ .zero) ?_
    refine TextR.assign rfl ?_
    refine TextR.assign rfl ?_
    refine TextR.done (.cons rfl (.cons rfl (.cons rfl .nil))) ?_
    refine Wp.weak (keepW (live := [2, 3, 4] ) (.cons rfl (.cons rfl (.cons rfl .nil)))) ?_
    refine Wp.weak (nzT (e' := [(2, .c (.ptr 1 0 0 0)), (3, .c (.slv ([].map eMail))), (4, .c (I y1))]) (H' := [.live 0 3 [[I a0.ID, I a0.Phase, .slv (a0.Sides.map eSide)]], .live 0 3 [[I 0, I 0, .slv ([].map eSide)]]]) (by first | rfl | simp [hfVs, hfV, hfL, hfAll, hfRows, mvV, mvL, mvO, mpE, mpV, mpVs, mpO, fzL, rnL, rn0, ok0, nzI, nzB, nzN, nzF, nzP, nzO, nzQ, nzC, shL, shV, shO, okV, okL, okO, List.take_of_length_le, h_Side, hfRows_map h_Side, ok_eSide, okR_eSide, fx_eSide, fxR_eSide, h_Diner, hfRows_map h_Diner, ok_eDiner, okR_eDiner, fx_eDiner, fxR_eDiner, h_Mail, hfRows_map h_Mail, ok_eMail, okR_eMail, fx_eMail, fxR_eMail, h_Msg, hfRows_map h_Msg, ok_eMsg, okR_eMsg, fx_eMsg, fxR_eMsg, -List.map_set]) (by first | rfl | simp [hfVs, hfV, hfL, hfAll, hfRows, mvV, mvL, mvO, mpE, mpV, mpVs, mpO, fzL, rnL, rn0, ok0, nzI, nzB, nzN, nzF, nzP, nzO, nzQ, nzC, shL, shV, shO, okV, okL, okO, List.take_of_length_le, h_Side, hfRows_map h_Side, ok_eSide, okR_eSide, fx_eSide, fxR_eSide, h_Diner, hfRows_map h_Diner, ok_eDiner, okR_eDiner, fx_eDiner, fxR_eDiner, h_Mail, hfRows_map h_Mail, ok_eMail, okR_eMail, fx_eMail, fxR_eMail, h_Msg, hfRows_map h_Msg, ok_eMsg, okR_eMsg, fx_eMsg, fxR_eMsg, -List.map_set])) ?_
    refine Wp.ret ?_
    obtain rfl := Option.some.inj h
    exact Ret.three rfl (resV_cellN tk25 rfl rfl) (resV_tmp rfl) (resV_tmp rfl) rfl
  · refine Wp.skip ?_
    refine Wp.seq ?_
    obtain ⟨y2, hy2, h⟩ := bind_some h
    refine Wp.text [1, 2] rfl rfl ?_ -- region 4
    refine TextR.fieldAddr fo25_2 rfl rfl rfl ?_
    refine TextR.load1 tk23 rfl rfl ?_
    refine TextR.call rfl rfl (by exact o_slices_Clone_Side N a0.Sides y2 hy2 2 rfl (.cons (.cons .nil))) (fun x H' hk => ?_)
    obtain ⟨rfl, rfl⟩ := hk
    refine TextR.fieldAddr fo25_2 rfl rfl rfl ?_
    refine TextR.storeF (r' := [I a0.ID, I a0.Phase, .sl 2 1 0 y2.length]) tk23 rfl rfl rfl rfl rfl rfl rfl .zero ?_
    refine TextR.done (.cons rfl (.cons rfl .nil)) ?_
    refine Wp.seq ?_
    refine Wp.text [1, 2, 6] rfl rfl ?_ -- region 5
    refine TextR.alloc 3 zc27 rfl rfl (.cons (.cons (.cons .nil))) ?_
    refine TextR.done (.cons rfl (.cons rfl (.cons rfl .nil))) ?_
    refine Wp.seq ?_
    refine Wp.text [1, 2, 6, 7] rfl rfl ?_ -- region 6
    refine TextR.assign rfl ?_
    refine TextR.done (.cons rfl (.cons rfl (.cons rfl (.cons rfl .nil)))) ?_
    refine Wp.seq ?_
    refine Wp.seq ?_
    refine Wp.text [1, 2, 6, 7, 24, 25] rfl rfl ?_ -- region 7
    refine TextR.fieldAddr fo25_2 rfl rfl rfl ?_
    refine TextR.load1 tk23 rfl rfl ?_
    refine TextR.len us23 rfl rfl ?_
    refine TextR.move rfl ?_
    refine TextR.done (.cons rfl (.cons rfl (.cons rfl (.cons rfl (.cons rfl (.cons rfl .nil)))))) ?_
    obtain ⟨z3, hz3, h⟩ := bind_some h
    refine Wp.fragN (fun S => ∃ wz3_4, ∃ S', St.Weak ⟨Try.prog, 112, Γ⟩ S S' ∧ S' = ⟨[(1, .c (.ptr 0 0 0 0)), (2, .c (.ptr 2 0 0 0)), (6, .c (.ptr 3 0 0 0)), (7, .c (B z3.2.2))], [.live 0 3 [[I a0.ID, I a0.Phase, .sl 1 1 0 z3.1.length]], .live 1 8 (z3.1.map eSide), .live 0 3 [[I 0, I 0, nilS]], .live 0 1 [[.sl 4 wz3_4 0 z3.2.1.length]], .live wz3_4 5 (z3.2.1.map eMail)]⟩) ?_ ?_
    · replace h := hz3
      refine Wp.block ?_
      refine Wp.weak (St.Weak.trans (keepW (live := [1, 2, 6, 7, 24, 25]) (.cons rfl (.cons rfl (.cons rfl (.cons rfl (.cons rfl (.cons rfl .nil))))))) (St.Weak.trans (pickT (e' := [(1, .c (.ptr 0 0 0 0)), (2, .c (.ptr 2 0 0 0)), (6, .c (.ptr 3 0 0 0)), (7, .c (B true)), (24, .c (I (y2.length : Int))), (25, .c (I 0))]) (H' := [.live 0 3 [[I a0.ID, I a0.Phase, .sl 1 1 0 y2.length]], .live 1 8 (y2.map eSide), .live 0 3 [[I 0, I 0, nilS]], .live 0 1 [[nilS]]]) [0, 2, 1, 3] [0, 2, 1, 3] 0 hok.len.symm rfl rfl (by decide) (by first | rfl | simp [hfVs, hfV, hfL, hfAll, hfRows, mvV, mvL, mvO, mpE, mpV, mpVs, mpO, fzL, rnL, rn0, ok0, nzI, nzB, nzN, nzF, nzP, nzO, nzQ, nzC, shL, shV, shO, okV, okL, okO, List.take_of_length_le, h_Side, hfRows_map h_Side, ok_eSide, okR_eSide, fx_eSide, fxR_eSide, h_Diner, hfRows_map h_Diner, ok_eDiner, okR_eDiner, fx_eDiner, fxR_eDiner, h_Mail, hfRows_map h_Mail, ok_eMail, okR_eMail, fx_eMail, fxR_eMail, h_Msg, hfRows_map h_Msg, ok_eMsg, okR_eMsg, fx_eMsg, fxR_eMsg, -List.map_set]) (by first | rfl | simp [hfVs, hfV, hfL, hfAll, hfRows, mvV, mvL, mvO, mpE, mpV, mpVs, mpO, fzL, rnL, rn0, ok0, nzI, nzB, nzN, nzF, nzP, nzO, nzQ, nzC, shL, shV, shO, okV, okL, okO, List.take_of_length_le, h_Side, hfRows_map h_Side, ok_eSide, okR_eSide, fx_eSide, fxR_eSide, h_Diner, hfRows_map h_Diner, ok_eDiner, okR_eDiner, fx_eDiner, fxR_eDiner, h_Mail, hfRows_map h_Mail, ok_eMail, okR_eMail, fx_eMail, fxR_eMail, h_Msg, hfRows_map h_Msg, ok_eMsg, okR_eMsg, fx_eMsg, fxR_eMsg, -List.map_set]) (by first | rfl | simp [hfVs, hfV, hfL, hfAll, hfRows, mvV, mvL, mvO, mpE, mpV, mpVs, mpO, fzL, rnL, rn0, ok0, nzI, nzB, nzN, nzF, nzP, nzO, nzQ, nzC, shL, shV, shO, okV, okL, okO, List.take_of_length_le, h_Side, hfRows_map h_Side, ok_eSide, okR_eSide, fx_eSide, fxR_eSide, h_Diner, hfRows_map h_Diner, ok_eDiner, okR_eDiner, fx_eDiner, fxR_eDiner, h_Mail, hfRows_map h_Mail, ok_eMail, okR_eMail, fx_eMail, fxR_eMail, h_Msg, hfRows_map h_Msg, ok_eMsg, okR_eMsg, fx_eMsg, fxR_eMsg, -List.map_set]) (by first | rfl | simp [hfVs, hfV, hfL, hfAll, hfRows, mvV, mvL, mvO, mpE, mpV, mpVs, mpO, fzL, rnL, rn0, ok0, nzI, nzB, nzN, nzF, nzP, nzO, nzQ, nzC, shL, shV, shO, okV, okL, okO, List.take_of_length_le, h_Side, hfRows_map h_Side, ok_eSide, okR_eSide, fx_eSide, fxR_eSide, h_Diner, hfRows_map h_Diner, ok_eDiner, okR_eDiner, fx_eDiner, fxR_eDiner, h_Mail, hfRows_map h_Mail, ok_eMail, okR_eMail, fx_eMail, fxR_eMail, h_Msg, hfRows_map h_Msg, ok_eMsg, okR_eMsg, fx_eMsg, fxR_eMsg, -List.map_set])) (St.Weak.trans (nilCellW (H := [.live 0 3 [[I a0.ID, I a0.Phase, .sl 1 1 0 y2.length]], .live 1 8 (y2.map eSide), .live 0 3 [[I 0, I 0, nilS]], .live 0 1 [[nilS]]]) (ver := 0) (g := 3) (i := 0) (k := 0) 5 4 rfl rfl rfl rfl rfl (.cons (.cons (.cons (.cons .nil)))) (.succ (.succ (.succ .zero)))) (keepW (live := [1, 2, 6, 7, 24, 25]) (.cons rfl (.cons rfl (.cons rfl (.cons rfl (.cons rfl (.cons rfl .nil)))))))))) ?_
      refine Wp.loop (fun m S => ∃ l1_1, ∃ l4_1, ∃ s7_1, ∃ s25_1, ∃ wh4_1, dine_Fire_L1 N a0 y2 m l1_1 l4_1 s7_1 s25_1 = some z3 ∧ S = ⟨[(1, .c (.ptr 0 0 0 0)), (2, .c (.ptr 2 0 0 0)), (6, .c (.ptr 3 0 0 0)), (7, .c (B s7_1)), (24, .c (I (y2.length : Int))), (25, .c (I s25_1))], [.live 0 3 [[I a0.ID, I a0.Phase, .sl 1 1 0 l1_1.length]], .live 1 8 (l1_1.map eSide), .live 0 3 [[I 0, I 0, nilS]], .live 0 1 [[.sl 4 wh4_1 0 l4_1.length]], .live wh4_1 5 (l4_1.map eMail)]⟩) N ⟨_, _, _, _, _, h, rfl⟩ ?_
      rintro m1 _ ⟨l1_1, l4_1, s7_1, s25_1, wh4_1, h, rfl⟩
      cases m1 with
      | zero => rw [dine_Fire_L1.eq_1] at h; cases h
      | succ m1 =>
      rw [dine_Fire_L1.eq_2] at h
      refine Wp.seq ?_
      refine Wp.text [1, 2, 6, 7, 24, 25, 26] rfl rfl ?_ -- region 8
      refine TextR.int rfl rfl rfl ?_
      refine TextR.done (.cons rfl (.cons rfl (.cons rfl (.cons rfl (.cons rfl (.cons rfl (.cons rfl .nil))))))) ?_
      refine Wp.seq ?_
      refine Wp.condM h rfl (fun hc3 h => ?_) (fun hc3 h => ?_)
      · refine Wp.skip ?_
        refine Wp.seq ?_
        refine Wp.block ?_
        refine Wp.seq ?_
        refine Wp.text [1, 2, 6, 7, 8, 24, 25] rfl rfl ?_ -- region 9
        refine TextR.move rfl ?_
        refine TextR.assign rfl ?_
        refine TextR.done (.cons rfl (.cons rfl (.cons rfl (.cons rfl (.cons rfl (.cons rfl (.cons rfl .nil))))))) ?_
        refine Wp.seq ?_
        obtain ⟨x4, hx4, h⟩ := bind_some h
        refine Wp.text [1, 2, 6, 7, 9, 24, 25] rfl rfl ?_ -- region 10
        refine TextR.fieldAddr fo25_2 rfl rfl rfl ?_
        refine TextR.load1 tk23 rfl rfl ?_
        refine TextR.move rfl ?_
        refine TextR.indexOA se23 rfl rfl rfl hx4 ?_
        refine TextR.alloc 5 zc54 rfl rfl (.cons (.cons (.cons (.cons (.cons .nil))))) ?_
        refine TextR.store1 tk54 rfl rfl rfl rfl rfl rfl (.succ (.succ (.succ (.succ (.succ .zero))))) ?_
        refine TextR.done (.cons rfl (.cons rfl (.cons rfl (.cons rfl (.cons rfl (.cons rfl (.cons rfl .nil))))))) ?_
        refine Wp.seq ?_
        refine Wp.text [1, 2, 6, 7, 9, 10, 24, 25] rfl rfl ?_ -- region 11
        refine TextR.makeFunc rfl ?_
        refine TextR.assign rfl ?_
        refine TextR.done (.cons rfl (.cons rfl (.cons rfl (.cons rfl (.cons rfl (.cons rfl (.cons rfl (.cons rfl .nil)))))))) ?_
        refine Wp.seq ?_
        refine Wp.seq ?_
        refine Wp.go false none [[], [], [], [], [], [(37, true)], [(37, true)], [(37, true)], [(37, true)], [], [], [(43, true)], [(43, true)], [(43, true)], [(43, true)], [], [], [(49, true)], [(49, true)], [(49, true)], []] [] [1, 2, 6, 7, 9, 10, 24, 25, 53] mixed rfl rfl (by kernel_rfl) ?_ -- region 12
        refine RunR.load1 tk54 rfl rfl rfl rfl ?_
        refine RunR.nilCheck rfl rfl rfl rfl ?_
        refine RunR.fieldAddr fo47_3 rfl rfl rfl rfl rfl ?_
        refine RunR.load1O tk4 rfl rfl rfl rfl (at_get hx4) rfl ?_
        refine RunR.move rfl rfl rfl ?_
        refine RunR.load1 tk54 rfl rfl rfl rfl ?_
        refine RunR.nilCheck rfl rfl rfl rfl ?_
        refine RunR.fieldAddr fo47_4 rfl rfl rfl rfl rfl ?_
        refine RunR.load1O tk4 rfl rfl rfl rfl (at_get hx4) rfl ?_
        refine RunR.pickAnd rfl rfl rfl rfl ?_
        refine RunR.move rfl rfl rfl ?_
        refine RunR.load1 tk54 rfl rfl rfl rfl ?_
        refine RunR.nilCheck rfl rfl rfl rfl ?_
        refine RunR.fieldAddr fo47_5 rfl rfl rfl rfl rfl ?_
        refine RunR.load1O tk4 rfl rfl rfl rfl (at_get hx4) rfl ?_
        refine RunR.pickAnd rfl rfl rfl rfl ?_
        refine RunR.move rfl rfl rfl ?_
        refine RunR.fieldAddr fo25_1 rfl rfl rfl rfl rfl ?_
        refine RunR.load1 tk22 rfl rfl rfl rfl ?_
        refine RunR.int rfl rfl rfl rfl rfl ?_
        refine RunR.pickAnd rfl rfl rfl rfl ?_
        refine RunR.doneQ (.cons rfl (.cons rfl (.cons rfl (.cons rfl (.cons rfl (.cons rfl (.cons rfl (.cons rfl (.cons rfl .nil))))))))) ?_
        obtain ⟨z5, hz5, h⟩ := bind_some h
        refine Wp.fragN (fun S => ∃ wz5_4, ∃ S', St.Weak ⟨Try.prog, 112, Γ⟩ S S' ∧ S' = ⟨[(1, .c (.ptr 0 0 0 0)), (2, .c (.ptr 2 0 0 0)), (6, .c (.ptr 3 0 0 0)), (7, .c (B s7_1)), (9, .c (.ptr 5 0 0 0)), (10, .c (.clo 25 [.ptr 3 0 0 0, .ptr 0 0 0 0, .ptr 5 0 0 0])), (24, .c (I (y2.length : Int))), (25, .c (I s25_1))], [.live 0 3 [[I a0.ID, I a0.Phase, .sl 1 1 0 z5.1.length]], .live 1 8 (z5.1.map eSide), .live 0 3 [[I 0, I 0, nilS]], .live 0 1 [[.sl 4 wz5_4 0 z5.2.length]], .live wz5_4 5 (z5.2.map eMail), .live 0 1 [[.ptr 1 1 s25_1.toNat 0]]]⟩) ?_ ?_
        · replace h := hz5
          refine Wp.condM h rfl (fun hc5 h => ?_) (fun hc5 h => ?_)
          · refine Wp.seq ?_
            refine Wp.go true (some [1]) [] [false, true, false, false, false, false, false, true] [1, 2, 6, 7, 9, 10, 24, 25] mixed rfl rfl (by kernel_rfl) ?_ -- region 13
            refine RunR.load1 tk54 rfl rfl rfl rfl ?_
            refine RunR.load1 tk54 rfl rfl rfl rfl ?_
            refine RunR.nilCheck rfl rfl rfl rfl ?_
            refine RunR.fieldAddr fo47_3 rfl rfl rfl rfl rfl ?_
            refine RunR.storeO { x4 with Fork := false } tk4 rfl rfl rfl rfl rfl rfl rfl (at_get hx4) rfl rfl (.succ .zero) ?_
            refine RunR.nilCheck rfl rfl rfl rfl ?_
            refine RunR.fieldAddr fo47_4 rfl rfl rfl rfl rfl ?_
            refine RunR.storeO { x4 with Fork := false, Dirty := false } tk4 rfl rfl rfl rfl rfl rfl rfl (at_set (at_get hx4)) rfl rfl (.succ .zero) ?_
            refine RunR.doneQ (.cons rfl (.cons rfl (.cons rfl (.cons rfl (.cons rfl (.cons rfl (.cons rfl (.cons rfl .nil)))))))) ?_
            refine Wp.weak (eqW (S' := ⟨[(1, .c (.ptr 0 0 0 0)), (2, .c (.ptr 2 0 0 0)), (6, .c (.ptr 3 0 0 0)), (7, .c (B s7_1)), (9, .c (.ptr 5 0 0 0)), (10, .c (.clo 25 [.ptr 3 0 0 0, .ptr 0 0 0 0, .ptr 5 0 0 0])), (24, .c (I (y2.length : Int))), (25, .c (I s25_1))], [.live 0 3 [[I a0.ID, I a0.Phase, .sl 1 1 0 ((l1_1.set s25_1.toNat { x4 with Fork := false }).set s25_1.toNat { x4 with Fork := false, Dirty := false }).length]], .live 1 8 (((l1_1.set s25_1.toNat { x4 with Fork := false }).set s25_1.toNat { x4 with Fork := false, Dirty := false }).map eSide), .live 0 3 [[I 0, I 0, nilS]], .live 0 1 [[.sl 4 wh4_1 0 l4_1.length]], .live wh4_1 5 (l4_1.map eMail), .live 0 1 [[.ptr 1 1 s25_1.toNat 0]]]⟩) (by first | rfl | (simp only [List.length_set]; done) | (simp only [List.length_set]; rfl))) ?_
            obtain ⟨y6, hy6, h⟩ := bind_some h
            refine Wp.text [1, 2, 6, 7, 9, 10, 24, 25] rfl rfl ?_ -- region 14
            refine TextR.move rfl ?_
            refine TextR.call rfl rfl (by exact c_dine_Fire_1_2 N 1 a0.ID a0.Phase ((l1_1.set s25_1.toNat { x4 with Fork := false }).set s25_1.toNat { x4 with Fork := false, Dirty := false }) 0 0 l4_1 s25_1.toNat y6 hy6) (fun x H' hk => ?_)
            obtain ⟨rfl, rfl⟩ := hk
            refine TextR.done (.cons rfl (.cons rfl (.cons rfl (.cons rfl (.cons rfl (.cons rfl (.cons rfl (.cons rfl .nil)))))))) ?_
            obtain rfl := Option.some.inj h
            exact ⟨_, _, (keepW (live := [1, 2, 6, 7, 9, 10, 24, 25]) (.cons rfl (.cons rfl (.cons rfl (.cons rfl (.cons rfl (.cons rfl (.cons rfl (.cons rfl .nil))))))))), rfl⟩
          · refine Wp.skip ?_
            obtain rfl := Option.some.inj h
            exact ⟨_, _, (keepW (live := [1, 2, 6, 7, 9, 10, 24, 25]) (.cons rfl (.cons rfl (.cons rfl (.cons rfl (.cons rfl (.cons rfl (.cons rfl (.cons rfl .nil))))))))), rfl⟩
        rintro _ ⟨wz5_4, S', hw, rfl⟩
        clear hz5
        refine Wp.weak hw ?_
        refine Wp.seq ?_
        refine Wp.seq ?_
        obtain ⟨x7, hx7, h⟩ := bind_some h
        obtain ⟨x8, hx8, h⟩ := bind_some h
        refine Wp.go false none [[], [], [], [], [(65, true)], [(65, true)], [(65, true)], [(65, true)], [], [], [(71, true)], [(71, true)], [(71, true)], [(71, true)], [(71, true)], []] [] [1, 2, 6, 7, 9, 10, 24, 25, 77] mixed rfl rfl (by kernel_rfl) ?_ -- region 15
        refine RunR.fieldAddr fo25_1 rfl rfl rfl rfl rfl ?_
        refine RunR.load1 tk22 rfl rfl rfl rfl ?_
        refine RunR.int rfl rfl rfl rfl rfl ?_
        refine RunR.move rfl rfl rfl ?_
        refine RunR.load1 tk54 rfl rfl rfl rfl ?_
        refine RunR.nilCheck rfl rfl rfl rfl ?_
        refine RunR.fieldAddr fo47_5 rfl rfl rfl rfl rfl ?_
        refine RunR.load1OG tk4 rfl rfl rfl rfl (ifT hx7 gT) rfl ?_
        refine RunR.pickAnd rfl rfl rfl rfl ?_
        refine RunR.move rfl rfl rfl ?_
        refine RunR.load1 tk54 rfl rfl rfl rfl ?_
        refine RunR.nilCheck rfl rfl rfl rfl ?_
        refine RunR.fieldAddr fo47_3 rfl rfl rfl rfl rfl ?_
        refine RunR.load1OG tk4 rfl rfl rfl rfl (ifT hx8 gT) rfl ?_
        refine RunR.not rfl rfl rfl ?_
        refine RunR.pickAnd rfl rfl rfl rfl ?_
        refine RunR.doneQ (.cons rfl (.cons rfl (.cons rfl (.cons rfl (.cons rfl (.cons rfl (.cons rfl (.cons rfl (.cons rfl .nil))))))))) ?_
        refine Wp.condM h rfl (fun hc4 h => ?_) (fun hc4 h => ?_)
        · refine Wp.seq ?_
          obtain ⟨x9, hx9, h⟩ := bind_some h
          refine Wp.text [1, 2, 6, 7, 9, 10, 24, 25] rfl rfl ?_ -- region 16
          refine TextR.load1 tk54 rfl rfl ?_
          refine TextR.nilCheck rfl rfl ?_
          refine TextR.fieldAddr fo47_5 rfl rfl rfl ?_
          refine TextR.storeO { x9 with Token := false } tk4 rfl rfl rfl rfl rfl hx9 rfl rfl (.succ .zero) ?_
          refine TextR.done (.cons rfl (.cons rfl (.cons rfl (.cons rfl (.cons rfl (.cons rfl (.cons rfl (.cons rfl .nil)))))))) ?_
          refine Wp.weak (eqW (S' := ⟨[(1, .c (.ptr 0 0 0 0)), (2, .c (.ptr 2 0 0 0)), (6, .c (.ptr 3 0 0 0)), (7, .c (B s7_1)), (9, .c (.ptr 5 0 0 0)), (10, .c (.clo 25 [.ptr 3 0 0 0, .ptr 0 0 0 0, .ptr 5 0 0 0])), (24, .c (I (y2.length : Int))), (25, .c (I s25_1))], [.live 0 3 [[I a0.ID, I a0.Phase, .sl 1 1 0 (z5.1.set s25_1.toNat { x9 with Token := false }).length]], .live 1 8 ((z5.1.set s25_1.toNat { x9 with Token := false }).map eSide), .live 0 3 [[I 0, I 0, nilS]], .live 0 1 [[.sl 4 wz5_4 0 z5.2.length]], .live wz5_4 5 (z5.2.map eMail), .live 0 1 [[.ptr 1 1 s25_1.toNat 0]]]⟩) (by first | rfl | (simp only [List.length_set]; done) | (simp only [List.length_set]; rfl))) ?_
          obtain ⟨y10, hy10, h⟩ := bind_some h
          refine Wp.text [1, 2, 6, 7, 9, 24, 25] rfl rfl ?_ -- region 17
          refine TextR.move rfl ?_
          refine TextR.call rfl rfl (by exact c_dine_Fire_1_2 N 2 a0.ID a0.Phase (z5.1.set s25_1.toNat { x9 with Token := false }) 0 0 z5.2 s25_1.toNat y10 hy10) (fun x H' hk => ?_)
          obtain ⟨rfl, rfl⟩ := hk
          refine TextR.done (.cons rfl (.cons rfl (.cons rfl (.cons rfl (.cons rfl (.cons rfl (.cons rfl .nil))))))) ?_
          refine Wp.go false none [[], [], [(84, true)], [(84, true)], [(84, true)], [(84, true)], [], []] [] [1, 2, 6, 7, 24, 25] mixed rfl rfl (by kernel_rfl) ?_ -- region 18
          refine RunR.move rfl rfl rfl ?_
          refine RunR.move rfl rfl rfl ?_
          refine RunR.load1 tk54 rfl rfl rfl rfl ?_
          refine RunR.nilCheck rfl rfl rfl rfl ?_
          refine RunR.fieldAddr fo47_3 rfl rfl rfl rfl rfl ?_
          refine RunR.load1O tk4 rfl rfl rfl rfl (at_set hx9) rfl ?_
          refine RunR.pickAnd rfl rfl rfl rfl ?_
          refine RunR.assign rfl rfl rfl ?_
          refine RunR.doneQ (.cons rfl (.cons rfl (.cons rfl (.cons rfl (.cons rfl (.cons rfl .nil)))))) ?_
          refine Wp.text [1, 2, 6, 7, 24, 25] rfl rfl ?_ -- region 19
          refine TextR.int rfl rfl rfl ?_
          refine TextR.move rfl ?_
          refine TextR.done (.cons rfl (.cons rfl (.cons rfl (.cons rfl (.cons rfl (.cons rfl .nil)))))) ?_
          exact ⟨m1, Nat.lt_succ_self _, _, (St.Weak.trans (keepW (live := [1, 2, 6, 7, 24, 25]) (.cons rfl (.cons rfl (.cons rfl (.cons rfl (.cons rfl (.cons rfl .nil))))))) (pickT (e' := [(1, .c (.ptr 0 0 0 0)), (2, .c (.ptr 2 0 0 0)), (6, .c (.ptr 3 0 0 0)), (7, .c (B (s7_1 && x9.Fork))), (24, .c (I (y2.length : Int))), (25, .c (I (w64 (s25_1 + 1))))]) (H' := [.live 0 3 [[I a0.ID, I a0.Phase, .sl 1 1 0 (z5.1.set s25_1.toNat { x9 with Token := false }).length]], .live 1 8 ((z5.1.set s25_1.toNat { x9 with Token := false }).map eSide), .live 0 3 [[I 0, I 0, nilS]], .live 0 1 [[.sl 4 (wz5_4 + 1) 0 y10.length]], .live (wz5_4 + 1) 5 (y10.map eMail)]) [0, 1, 2, 3, 4] [0, 1, 2, 3, 4, 0] 0 hok.len.symm rfl rfl (by decide) (by first | rfl | simp [hfVs, hfV, hfL, hfAll, hfRows, mvV, mvL, mvO, mpE, mpV, mpVs, mpO, fzL, rnL, rn0, ok0, nzI, nzB, nzN, nzF, nzP, nzO, nzQ, nzC, shL, shV, shO, okV, okL, okO, List.take_of_length_le, h_Side, hfRows_map h_Side, ok_eSide, okR_eSide, fx_eSide, fxR_eSide, h_Diner, hfRows_map h_Diner, ok_eDiner, okR_eDiner, fx_eDiner, fxR_eDiner, h_Mail, hfRows_map h_Mail, ok_eMail, okR_eMail, fx_eMail, fxR_eMail, h_Msg, hfRows_map h_Msg, ok_eMsg, okR_eMsg, fx_eMsg, fxR_eMsg, -List.map_set]) (by first | rfl | simp [hfVs, hfV, hfL, hfAll, hfRows, mvV, mvL, mvO, mpE, mpV, mpVs, mpO, fzL, rnL, rn0, ok0, nzI, nzB, nzN, nzF, nzP, nzO, nzQ, nzC, shL, shV, shO, okV, okL, okO, List.take_of_length_le, h_Side, hfRows_map h_Side, ok_eSide, okR_eSide, fx_eSide, fxR_eSide, h_Diner, hfRows_map h_Diner, ok_eDiner, okR_eDiner, fx_eDiner, fxR_eDiner, h_Mail, hfRows_map h_Mail, ok_eMail, okR_eMail, fx_eMail, fxR_eMail, h_Msg, hfRows_map h_Msg, ok_eMsg, okR_eMsg, fx_eMsg, fxR_eMsg, -List.map_set]) (by first | rfl | simp [hfVs, hfV, hfL, hfAll, hfRows, mvV, mvL, mvO, mpE, mpV, mpVs, mpO, fzL, rnL, rn0, ok0, nzI, nzB, nzN, nzF, nzP, nzO, nzQ, nzC, shL, shV, shO, okV, okL, okO, List.take_of_length_le, h_Side, hfRows_map h_Side, ok_eSide, okR_eSide, fx_eSide, fxR_eSide, h_Diner, hfRows_map h_Diner, ok_eDiner, okR_eDiner, fx_eDiner, fxR_eDiner, h_Mail, hfRows_map h_Mail, ok_eMail, okR_eMail, fx_eMail, fxR_eMail, h_Msg, hfRows_map h_Msg, ok_eMsg, okR_eMsg, fx_eMsg, fxR_eMsg, -List.map_set]) (by first | rfl | simp [hfVs, hfV, hfL, hfAll, hfRows, mvV, mvL, mvO, mpE, mpV, mpVs, mpO, fzL, rnL, rn0, ok0, nzI, nzB, nzN, nzF, nzP, nzO, nzQ, nzC, shL, shV, shO, okV, okL, okO, List.take_of_length_le, h_Side, hfRows_map h_Side, ok_eSide, okR_eSide, fx_eSide, fxR_eSide, h_Diner, hfRows_map h_Diner, ok_eDiner, okR_eDiner, fx_eDiner, fxR_eDiner, h_Mail, hfRows_map h_Mail, ok_eMail, okR_eMail, fx_eMail, fxR_eMail, h_Msg, hfRows_map h_Msg, ok_eMsg, okR_eMsg, fx_eMsg, fxR_eMsg, -List.map_set]))), _, _, _, _, _, h, rfl⟩
        · refine Wp.skip ?_
          obtain ⟨x11, hx11, h⟩ := bind_some h
          refine Wp.go false none [[], [], [(84, true)], [(84, true)], [(84, true)], [(84, true)], [], []] [] [1, 2, 6, 7, 24, 25] mixed rfl rfl (by kernel_rfl) ?_ -- region 18
          refine RunR.move rfl rfl rfl ?_
          refine RunR.move rfl rfl rfl ?_
          refine RunR.load1 tk54 rfl rfl rfl rfl ?_
          refine RunR.nilCheck rfl rfl rfl rfl ?_
          refine RunR.fieldAddr fo47_3 rfl rfl rfl rfl rfl ?_
          refine RunR.load1OG tk4 rfl rfl rfl rfl (ifT hx11 gT) rfl ?_
          refine RunR.pickAnd rfl rfl rfl rfl ?_
          refine RunR.assign rfl rfl rfl ?_
          refine RunR.doneQ (.cons rfl (.cons rfl (.cons rfl (.cons rfl (.cons rfl (.cons rfl .nil)))))) ?_
          refine Wp.text [1, 2, 6, 7, 24, 25] rfl rfl ?_ -- region 19
          refine TextR.int rfl rfl rfl ?_
          refine TextR.move rfl ?_
          refine TextR.done (.cons rfl (.cons rfl (.cons rfl (.cons rfl (.cons rfl (.cons rfl .nil)))))) ?_
          exact ⟨m1, Nat.lt_succ_self _, _, (St.Weak.trans (keepW (live := [1, 2, 6, 7, 24, 25]) (.cons rfl (.cons rfl (.cons rfl (.cons rfl (.cons rfl (.cons rfl .nil))))))) (pickT (e' := [(1, .c (.ptr 0 0 0 0)), (2, .c (.ptr 2 0 0 0)), (6, .c (.ptr 3 0 0 0)), (7, .c (B (s7_1 && x11.Fork))), (24, .c (I (y2.length : Int))), (25, .c (I (w64 (s25_1 + 1))))]) (H' := [.live 0 3 [[I a0.ID, I a0.Phase, .sl 1 1 0 z5.1.length]], .live 1 8 (z5.1.map eSide), .live 0 3 [[I 0, I 0, nilS]], .live 0 1 [[.sl 4 wz5_4 0 z5.2.length]], .live wz5_4 5 (z5.2.map eMail)]) [0, 1, 2, 3, 4] [0, 1, 2, 3, 4, 0] 0 hok.len.symm rfl rfl (by decide) (by first | rfl | simp [hfVs, hfV, hfL, hfAll, hfRows, mvV, mvL, mvO, mpE, mpV, mpVs, mpO, fzL, rnL, rn0, ok0, nzI, nzB, nzN, nzF, nzP, nzO, nzQ, nzC, shL, shV, shO, okV, okL, okO, List.take_of_length_le, h_Side, hfRows_map h_Side, ok_eSide, okR_eSide, fx_eSide, fxR_eSide, h_Diner, hfRows_map h_Diner, ok_eDiner, okR_eDiner, fx_eDiner, fxR_eDiner, h_Mail, hfRows_map h_Mail, ok_eMail, okR_eMail, fx_eMail, fxR_eMail, h_Msg, hfRows_map h_Msg, ok_eMsg, okR_eMsg, fx_eMsg, fxR_eMsg, -List.map_set]) (by first | rfl | simp [hfVs, hfV, hfL, hfAll, hfRows, mvV, mvL, mvO, mpE, mpV, mpVs, mpO, fzL, rnL, rn0, ok0, nzI, nzB, nzN, nzF, nzP, nzO, nzQ, nzC, shL, shV, shO, okV, okL, okO, List.take_of_length_le, h_Side, hfRows_map h_Side, ok_eSide, okR_eSide, fx_eSide, fxR_eSide, h_Diner, hfRows_map h_Diner, ok_eDiner, okR_eDiner, fx_eDiner, fxR_eDiner, h_Mail, hfRows_map h_Mail, ok_eMail, okR_eMail, fx_eMail, fxR_eMail, h_Msg, hfRows_map h_Msg, ok_eMsg, okR_eMsg, fx_eMsg, fxR_eMsg, -List.map_set]) (by first | rfl | simp [hfVs, hfV, hfL, hfAll, hfRows, mvV, mvL, mvO, mpE, mpV, mpVs, mpO, fzL, rnL, rn0, ok0, nzI, nzB, nzN, nzF, nzP, nzO, nzQ, nzC, shL, shV, shO, okV, okL, okO, List.take_of_length_le, h_Side, hfRows_map h_Side, ok_eSide, okR_eSide, fx_eSide, fxR_eSide, h_Diner, hfRows_map h_Diner, ok_eDiner, okR_eDiner, fx_eDiner, fxR_eDiner, h_Mail, hfRows_map h_Mail, ok_eMail, okR_eMail, fx_eMail, fxR_eMail, h_Msg, hfRows_map h_Msg, ok_eMsg, okR_eMsg, fx_eMsg, fxR_eMsg, -List.map_set]) (by first | rfl | simp [hfVs, hfV, hfL, hfAll, hfRows, mvV, mvL, mvO, mpE, mpV, mpVs, mpO, fzL, rnL, rn0, ok0, nzI, nzB, nzN, nzF, nzP, nzO, nzQ, nzC, shL, shV, shO, okV, okL, okO, List.take_of_length_le, h_Side, hfRows_map h_Side, ok_eSide, okR_eSide, fx_eSide, fxR_eSide, h_Diner, hfRows_map h_Diner, ok_eDiner, okR_eDiner, fx_eDiner, fxR_eDiner, h_Mail, hfRows_map h_Mail, ok_eMail, okR_eMail, fx_eMail, fxR_eMail, h_Msg, hfRows_map h_Msg, ok_eMsg, okR_eMsg, fx_eMsg, fxR_eMsg, -List.map_set]))), _, _, _, _, _, h, rfl⟩
      · refine Wp.exit ?_
        obtain rfl := Option.some.inj h
        exact ⟨_, _, (keepW (live := [1, 2, 6, 7]) (.cons rfl (.cons rfl (.cons rfl (.cons rfl .nil))))), rfl⟩
    rintro _ ⟨wz3_4, S', hw, rfl⟩
    clear hz3
    refine Wp.weak hw ?_
    refine Wp.seq ?_
    refine Wp.seq ?_
    refine Wp.go false none [[], [], [], [], [(94, true)], []] [] [1, 2, 6, 96] mixed rfl rfl (by kernel_rfl) ?_ -- region 20
    refine RunR.fieldAddr fo25_1 rfl rfl rfl rfl rfl ?_
    refine RunR.load1 tk22 rfl rfl rfl rfl ?_
    refine RunR.int rfl rfl rfl rfl rfl ?_
    refine RunR.move rfl rfl rfl ?_
    refine RunR.move rfl rfl rfl ?_
    refine RunR.pickAnd rfl rfl rfl rfl ?_
    refine RunR.doneQ (.cons rfl (.cons rfl (.cons rfl (.cons rfl .nil)))) ?_
    refine Wp.condM h rfl (fun hc2 h => ?_) (fun hc2 h => ?_)
    · refine Wp.seq ?_
      refine Wp.text [1, 2, 6] rfl rfl ?_ -- region 21
      refine TextR.fieldAddr fo25_1 rfl rfl rfl ?_
      refine TextR.storeF (r' := [I a0.ID, I 2, .sl 1 1 0 z3.1.length]) tk22 rfl rfl rfl rfl rfl rfl rfl .zero ?_
      refine TextR.done (.cons rfl (.cons rfl (.cons rfl .nil))) ?_
      refine Wp.seq ?_
      refine Wp.text [1, 2, 6, 100, 101] rfl rfl ?_ -- region 22
      refine TextR.fieldAddr fo25_2 rfl rfl rfl ?_
      refine TextR.load1 tk23 rfl rfl ?_
      refine TextR.len us23 rfl rfl ?_
      refine TextR.move rfl ?_
      refine TextR.done (.cons rfl (.cons rfl (.cons rfl (.cons rfl (.cons rfl .nil))))) ?_
      obtain ⟨z12, hz12, h⟩ := bind_some h
      refine Wp.fragN (fun S => ∃ S', St.Weak ⟨Try.prog, 112, Γ⟩ S S' ∧ S' = ⟨[(1, .c (.ptr 0 0 0 0)), (2, .c (.ptr 2 0 0 0)), (6, .c (.ptr 3 0 0 0))], [.live 0 3 [[I a0.ID, I 2, .sl 1 1 0 z12.length]], .live 1 8 (z12.map eSide), .live 0 3 [[I 0, I 0, nilS]], .live 0 1 [[.sl 4 wz3_4 0 z3.2.1.length]], .live wz3_4 5 (z3.2.1.map eMail)]⟩) ?_ ?_
      · replace h := hz12
        refine Wp.block ?_
        refine Wp.weak (keepW (live := [1, 2, 6, 100, 101]) (.cons rfl (.cons rfl (.cons rfl (.cons rfl (.cons rfl .nil)))))) ?_
        refine Wp.loop (fun m S => ∃ l1_2, ∃ s101_2, dine_Fire_L2 N z3 m l1_2 s101_2 = some z12 ∧ S = ⟨[(1, .c (.ptr 0 0 0 0)), (2, .c (.ptr 2 0 0 0)), (6, .c (.ptr 3 0 0 0)), (100, .c (I (z3.1.length : Int))), (101, .c (I s101_2))], [.live 0 3 [[I a0.ID, I 2, .sl 1 1 0 l1_2.length]], .live 1 8 (l1_2.map eSide), .live 0 3 [[I 0, I 0, nilS]], .live 0 1 [[.sl 4 wz3_4 0 z3.2.1.length]], .live wz3_4 5 (z3.2.1.map eMail)]⟩) N ⟨_, _, h, rfl⟩ ?_
        rintro m2 _ ⟨l1_2, s101_2, h, rfl⟩
        cases m2 with
        | zero => rw [dine_Fire_L2.eq_1] at h; cases h
        | succ m2 =>
        rw [dine_Fire_L2.eq_2] at h
        refine Wp.seq ?_
        refine Wp.text [1, 2, 6, 100, 101, 102] rfl rfl ?_ -- region 23
        refine TextR.int rfl rfl rfl ?_
        refine TextR.done (.cons rfl (.cons rfl (.cons rfl (.cons rfl (.cons rfl (.cons rfl .nil)))))) ?_
        refine Wp.seq ?_
        refine Wp.condM h rfl (fun hc4 h => ?_) (fun hc4 h => ?_)
        · refine Wp.skip ?_
          refine Wp.seq ?_
          refine Wp.block ?_
          refine Wp.seq ?_
          refine Wp.text [1, 2, 6, 11, 100, 101] rfl rfl ?_ -- region 24
          refine TextR.move rfl ?_
          refine TextR.assign rfl ?_
          refine TextR.done (.cons rfl (.cons rfl (.cons rfl (.cons rfl (.cons rfl (.cons rfl .nil)))))) ?_
          obtain ⟨x13, hx13, h⟩ := bind_some h
          refine Wp.text [1, 2, 6, 100, 101] rfl rfl ?_ -- region 25
          refine TextR.fieldAddr fo25_2 rfl rfl rfl ?_
          refine TextR.load1 tk23 rfl rfl ?_
          refine TextR.move rfl ?_
          refine TextR.indexOA se23 rfl rfl rfl hx13 ?_
          refine TextR.fieldAddr fo47_4 rfl rfl rfl ?_
          refine TextR.storeO { x13 with Dirty := true } tk4 rfl rfl rfl rfl rfl (at_get hx13) rfl rfl (.succ .zero) ?_
          refine TextR.done (.cons rfl (.cons rfl (.cons rfl (.cons rfl (.cons rfl .nil))))) ?_
          refine Wp.weak (eqW (S' := ⟨[(1, .c (.ptr 0 0 0 0)), (2, .c (.ptr 2 0 0 0)), (6, .c (.ptr 3 0 0 0)), (100, .c (I (z3.1.length : Int))), (101, .c (I s101_2))], [.live 0 3 [[I a0.ID, I 2, .sl 1 1 0 (l1_2.set s101_2.toNat { x13 with Dirty := true }).length]], .live 1 8 ((l1_2.set s101_2.toNat { x13 with Dirty := true }).map eSide), .live 0 3 [[I 0, I 0, nilS]], .live 0 1 [[.sl 4 wz3_4 0 z3.2.1.length]], .live wz3_4 5 (z3.2.1.map eMail)]⟩) (by first | rfl | (simp only [List.length_set]; done) | (simp only [List.length_set]; rfl))) ?_
          refine Wp.text [1, 2, 6, 100, 101] rfl rfl ?_ -- region 26
          refine TextR.int rfl rfl rfl ?_
          refine TextR.move rfl ?_
          refine TextR.done (.cons rfl (.cons rfl (.cons rfl (.cons rfl (.cons rfl .nil))))) ?_
          exact ⟨m2, Nat.lt_succ_self _, _, (keepW (live := [1, 2, 6, 100, 101]) (.cons rfl (.cons rfl (.cons rfl (.cons rfl (.cons rfl .nil)))))), _, _, h, rfl⟩
        · refine Wp.exit ?_
          obtain rfl := Option.some.inj h
          exact ⟨_, (keepW (live := [1, 2, 6]) (.cons rfl (.cons rfl (.cons rfl .nil)))), rfl⟩
      rintro _ ⟨S', hw, rfl⟩
      clear hz12
      refine Wp.weak hw ?_
      refine Wp.seq ?_
      refine Wp.go true (some [2]) [] [false, true, false, false, false] [2, 3, 4] mixed rfl rfl (by kernel_rfl) ?_ -- region 27
      refine RunR.loadN (cs := [I a0.ID, I 2, .sl 1 1 0 z12.length]) tk25 rfl rfl rfl rfl ?_
      refine RunR.load1 tk27 rfl rfl rfl rfl ?_
      refine RunR.store1 tk25 rfl rfl rfl rfl rfl rfl rfl rfl (.succ (.succ .zero)) ?_
      refine RunR.assign rfl rfl rfl ?_
      refine RunR.assign rfl rfl rfl ?_
      refine RunR.doneQ (.cons rfl (.cons rfl (.cons rfl .nil))) ?_
      refine Wp.weak (keepW (live := [2, 3, 4] ) (.cons rfl (.cons rfl (.cons rfl .nil)))) ?_
      refine Wp.weak (freezeW (h := 1) (ver := 1) (rows := z12.map eSide) (e' := [(2, .c (.ptr 2 0 0 0)), (3, .c (.sl 4 wz3_4 0 z3.2.1.length)), (4, .c (I 0))]) (H' := [.live 0 3 [[I a0.ID, I 2, .slv (z12.map eSide)]], .dead, .live 0 3 [[I a0.ID, I 2, .slv (z12.map eSide)]], .live 0 1 [[.sl 4 wz3_4 0 z3.2.1.length]], .live wz3_4 5 (z3.2.1.map eMail)]) rfl (by first | rfl | simp [hfVs, hfV, hfL, hfAll, hfRows, mvV, mvL, mvO, mpE, mpV, mpVs, mpO, fzL, rnL, rn0, ok0, nzI, nzB, nzN, nzF, nzP, nzO, nzQ, nzC, shL, shV, shO, okV, okL, okO, List.take_of_length_le, h_Side, hfRows_map h_Side, ok_eSide, okR_eSide, fx_eSide, fxR_eSide, h_Diner, hfRows_map h_Diner, ok_eDiner, okR_eDiner, fx_eDiner, fxR_eDiner, h_Mail, hfRows_map h_Mail, ok_eMail, okR_eMail, fx_eMail, fxR_eMail, h_Msg, hfRows_map h_Msg, ok_eMsg, okR_eMsg, fx_eMsg, fxR_eMsg, -List.map_set]) (by first | rfl | simp [hfVs, hfV, hfL, hfAll, hfRows, mvV, mvL, mvO, mpE, mpV, mpVs, mpO, fzL, rnL, rn0, ok0, nzI, nzB, nzN, nzF, nzP, nzO, nzQ, nzC, shL, shV, shO, okV, okL, okO, List.take_of_length_le, h_Side, hfRows_map h_Side, ok_eSide, okR_eSide, fx_eSide, fxR_eSide, h_Diner, hfRows_map h_Diner, ok_eDiner, okR_eDiner, fx_eDiner, fxR_eDiner, h_Mail, hfRows_map h_Mail, ok_eMail, okR_eMail, fx_eMail, fxR_eMail, h_Msg, hfRows_map h_Msg, ok_eMsg, okR_eMsg, fx_eMsg, fxR_eMsg, -List.map_set])) ?_
      refine Wp.weak (freezeW (h := 4) (ver := wz3_4) (rows := z3.2.1.map eMail) (e' := [(2, .c (.ptr 2 0 0 0)), (3, .c (.slv (z3.2.1.map eMail))), (4, .c (I 0))]) (H' := [.live 0 3 [[I a0.ID, I 2, .slv (z12.map eSide)]], .dead, .live 0 3 [[I a0.ID, I 2, .slv (z12.map eSide)]], .live 0 1 [[.slv (z3.2.1.map eMail)]], .dead]) (obj_of rfl) (by first | rfl | simp [hfVs, hfV, hfL, hfAll, hfRows, mvV, mvL, mvO, mpE, mpV, mpVs, mpO, fzL, rnL, rn0, ok0, nzI, nzB, nzN, nzF, nzP, nzO, nzQ, nzC, shL, shV, shO, okV, okL, okO, List.take_of_length_le, h_Side, hfRows_map h_Side, ok_eSide, okR_eSide, fx_eSide, fxR_eSide, h_Diner, hfRows_map h_Diner, ok_eDiner, okR_eDiner, fx_eDiner, fxR_eDiner, h_Mail, hfRows_map h_Mail, ok_eMail, okR_eMail, fx_eMail, fxR_eMail, h_Msg, hfRows_map h_Msg, ok_eMsg, okR_eMsg, fx_eMsg, fxR_eMsg, -List.map_set]) (by first | rfl | simp [hfVs, hfV, hfL, hfAll, hfRows, mvV, mvL, mvO, mpE, mpV, mpVs, mpO, fzL, rnL, rn0, ok0, nzI, nzB, nzN, nzF, nzP, nzO, nzQ, nzC, shL, shV, shO, okV, okL, okO, List.take_of_length_le, h_Side, hfRows_map h_Side, ok_eSide, okR_eSide, fx_eSide, fxR_eSide, h_Diner, hfRows_map h_Diner, ok_eDiner, okR_eDiner, fx_eDiner, fxR_eDiner, h_Mail, hfRows_map h_Mail, ok_eMail, okR_eMail, fx_eMail, fxR_eMail, h_Msg, hfRows_map h_Msg, ok_eMsg, okR_eMsg, fx_eMsg, fxR_eMsg, -List.map_set])) ?_
      refine Wp.ret ?_
      obtain rfl := Option.some.inj h
      exact Ret.three rfl (resV_cellN tk25 rfl rfl) (resV_tmp rfl) (resV_tmp rfl) rfl
    · refine Wp.skip ?_
      refine Wp.seq ?_
      refine Wp.go true (some [2]) [] [false, true, false, false, false] [2, 3, 4] mixed rfl rfl (by kernel_rfl) ?_ -- region 27
      refine RunR.loadN (cs := [I a0.ID, I a0.Phase, .sl 1 1 0 z3.1.length]) tk25 rfl rfl rfl rfl ?_
      refine RunR.load1 tk27 rfl rfl rfl rfl ?_
      refine RunR.store1 tk25 rfl rfl rfl rfl rfl rfl rfl rfl (.succ (.succ .zero)) ?_
      refine RunR.assign rfl rfl rfl ?_
      refine RunR.assign rfl rfl rfl ?_
      refine RunR.doneQ (.cons rfl (.cons rfl (.cons rfl .nil))) ?_
      refine Wp.weak (keepW (live := [2, 3, 4] ) (.cons rfl (.cons rfl (.cons rfl .nil)))) ?_
      refine Wp.weak (freezeW (h := 1) (ver := 1) (rows := z3.1.map eSide) (e' := [(2, .c (.ptr 2 0 0 0)), (3, .c (.sl 4 wz3_4 0 z3.2.1.length)), (4, .c (I 0))]) (H' := [.live 0 3 [[I a0.ID, I a0.Phase, .slv (z3.1.map eSide)]], .dead, .live 0 3 [[I a0.ID, I a0.Phase, .slv (z3.1.map eSide)]], .live 0 1 [[.sl 4 wz3_4 0 z3.2.1.length]], .live wz3_4 5 (z3.2.1.map eMail)]) rfl (by first | rfl | simp [hfVs, hfV, hfL, hfAll, hfRows, mvV, mvL, mvO, mpE, mpV, mpVs, mpO, fzL, rnL, rn0, ok0, nzI, nzB, nzN, nzF, nzP, nzO, nzQ, nzC, shL, shV, shO, okV, okL, okO, List.take_of_length_le, h_Side, hfRows_map h_Side, ok_eSide, okR_eSide, fx_eSide, fxR_eSide, h_Diner, hfRows_map h_Diner, ok_eDiner, okR_eDiner, fx_eDiner, fxR_eDiner, h_Mail, hfRows_map h_Mail, ok_eMail, okR_eMail, fx_eMail, fxR_eMail, h_Msg, hfRows_map h_Msg, ok_eMsg, okR_eMsg, fx_eMsg, fxR_eMsg, -List.map_set]) (by first | rfl | simp [hfVs, hfV, hfL, hfAll, hfRows, mvV, mvL, mvO, mpE, mpV, mpVs, mpO, fzL, rnL, rn0, ok0, nzI, nzB, nzN, nzF, nzP, nzO, nzQ, nzC, shL, shV, shO, okV, okL, okO, List.take_of_length_le, h_Side, hfRows_map h_Side, ok_eSide, okR_eSide, fx_eSide, fxR_eSide, h_Diner, hfRows_map h_Diner, ok_eDiner, okR_eDiner, fx_eDiner, fxR_eDiner, h_Mail, hfRows_map h_Mail, ok_eMail, okR_eMail, fx_eMail, fxR_eMail, h_Msg, hfRows_map h_Msg, ok_eMsg, okR_eMsg, fx_eMsg, fxR_eMsg, -List.map_set])) ?_
      refine Wp.weak (freezeW (h := 4) (ver := wz3_4) (rows := z3.2.1.map eMail) (e' := [(2, .c (.ptr 2 0 0 0)), (3, .c (.slv (z3.2.1.map eMail))), (4, .c (I 0))]) (H' := [.live 0 3 [[I a0.ID, I a0.Phase, .slv (z3.1.map eSide)]], .dead, .live 0 3 [[I a0.ID, I a0.Phase, .slv (z3.1.map eSide)]], .live 0 1 [[.slv (z3.2.1.map eMail)]], .dead]) (obj_of rfl) (by first | rfl | simp [hfVs, hfV, hfL, hfAll, hfRows, mvV, mvL, mvO, mpE, mpV, mpVs, mpO, fzL, rnL, rn0, ok0, nzI, nzB, nzN, nzF, nzP, nzO, nzQ, nzC, shL, shV, shO, okV, okL, okO, List.take_of_length_le, h_Side, hfRows_map h_Side, ok_eSide, okR_eSide, fx_eSide, fxR_eSide, h_Diner, hfRows_map h_Diner, ok_eDiner, okR_eDiner, fx_eDiner, fxR_eDiner, h_Mail, hfRows_map h_Mail, ok_eMail, okR_eMail, fx_eMail, fxR_eMail, h_Msg, hfRows_map h_Msg, ok_eMsg, okR_eMsg, fx_eMsg, fxR_eMsg, -List.map_set]) (by first | rfl | simp [hfVs, hfV, hfL, hfAll, hfRows, mvV, mvL, mvO, mpE, mpV, mpVs, mpO, fzL, rnL, rn0, ok0, nzI, nzB, nzN, nzF, nzP, nzO, nzQ, nzC, shL, shV, shO, okV, okL, okO, List.take_of_length_le, h_Side, hfRows_map h_Side, ok_eSide, okR_eSide, fx_eSide, fxR_eSide, h_Diner, hfRows_map h_Diner, ok_eDiner, okR_eDiner, fx_eDiner, fxR_eDiner, h_Mail, hfRows_map h_Mail, ok_eMail, okR_eMail, fx_eMail, fxR_eMail, h_Msg, hfRows_map h_Msg, ok_eMsg, okR_eMsg, fx_eMsg, fxR_eMsg, -List.map_set])) ?_
      refine Wp.ret ?_
      obtain rfl := Option.some.inj h
      exact Ret.three rfl (resV_cellN tk25 rfl rfl) (resV_tmp rfl) (resV_tmp rfl) rfl
theorem c_dine_Fire (N : Nat) (a0 : TDiner) (r : TDiner × (List TMail) × Int) (h : dine_Fire N a0 = some r) (H : List Ob) : DCall Try.prog 11 [.agg (eDiner a0)] H (.tup [.agg (eDiner r.1), .c (.slv (r.2.1.map eMail)), .c (I r.2.2)]) := DCall.lift (by first | rfl | simp [hfVs, hfV, hfL, hfAll, hfRows, mvV, mvL, mvO, mpE, mpV, mpVs, mpO, fzL, rnL, rn0, ok0, nzI, nzB, nzN, nzF, nzP, nzO, nzQ, nzC, shL, shV, shO, okV, okL, okO, List.take_of_length_le, h_Side, hfRows_map h_Side, ok_eSide, okR_eSide, fx_eSide, fxR_eSide, h_Diner, hfRows_map h_Diner, ok_eDiner, okR_eDiner, fx_eDiner, fxR_eDiner, h_Mail, hfRows_map h_Mail, ok_eMail, okR_eMail, fx_eMail, fxR_eMail, h_Msg, hfRows_map h_Msg, ok_eMsg, okR_eMsg, fx_eMsg, fxR_eMsg, -List.map_set]) (by first | rfl | simp [hfVs, hfV, hfL, hfAll, hfRows, mvV, mvL, mvO, mpE, mpV, mpVs, mpO, fzL, rnL, rn0, ok0, nzI, nzB, nzN, nzF, nzP, nzO, nzQ, nzC, shL, shV, shO, okV, okL, okO, List.take_of_length_le, h_Side, hfRows_map h_Side, ok_eSide, okR_eSide, fx_eSide, fxR_eSide, h_Diner, hfRows_map h_Diner, ok_eDiner, okR_eDiner, fx_eDiner, fxR_eDiner, h_Mail, hfRows_map h_Mail, ok_eMail, okR_eMail, fx_eMail, fxR_eMail, h_Msg, hfRows_map h_Msg, ok_eMsg, okR_eMsg, fx_eMsg, fxR_eMsg, -List.map_set]) (fun _ => by simp [hfVs, hfV, hfL, hfAll, hfRows, mvV, mvL, mvO, mpE, mpV, mpVs, mpO, fzL, rnL, rn0, ok0, nzI, nzB, nzN, nzF, nzP, nzO, nzQ, nzC, shL, shV, shO, okV, okL, okO, List.take_of_length_le, h_Side, hfRows_map h_Side, ok_eSide, okR_eSide, fx_eSide, fxR_eSide, h_Diner, hfRows_map h_Diner, ok_eDiner, okR_eDiner, fx_eDiner, fxR_eDiner, h_Mail, hfRows_map h_Mail, ok_eMail, okR_eMail, fx_eMail, fxR_eMail, h_Msg, hfRows_map h_Msg, ok_eMsg, okR_eMsg, fx_eMsg, fxR_eMsg, -List.map_set]) (w_dine_Fire N a0 r h) H
-- narthex/dine.Get$1
theorem w_dine_Get_1 (N : Nat) (a0 : TSide) (c0_0 : Int) (c0_1 : Int) (c0_2 : List TSide) (c1_0 : Int) (c2_0 : Int) (c2_1 : Int) (c2_2 : Int) (c3_0 : Int) (c3_1 : Int) (r : Bool) (h : dine_Get_1 N a0 c0_0 c0_1 c0_2 c1_0 c2_0 c2_1 c2_2 c3_0 c3_1 = some r) : Nx.Call Try.prog 31 [.agg (eSide a0), .c (.ptr 1 0 0 0), .c (.ptr 2 0 0 0)] [.live 0 3 [[I c0_0, I c0_1, .slv (c0_2.map eSide)]], .live 0 1 [[I c1_0]], .live 0 3 [[I c2_0, I c2_1, I c2_2]], .live 0 3 [[I c3_0, I c3_1, nilS]]] fun r' H' => r' = .c (B r) ∧ ∃ junk, H' = [.live 0 3 [[I c0_0, I c0_1, .slv (c0_2.map eSide)]], .live 0 1 [[I c1_0]], .live 0 3 [[I c2_0, I c2_1, I c2_2]], .live 0 3 [[I c3_0, I c3_1, nilS]]] ++ junk := by
  refine Nx.Call.of_body Try.func31 rfl en31 Try.ntmps31 rfl (fun Γ hok => ?_)
  unfold dine_Get_1 at h
  refine Wp.seq ?_
  refine Wp.text [1, 2, 3] rfl rfl ?_ -- region 0
  refine TextR.box (cs := [I a0.Peer, I a0.Epoch, I a0.State, B a0.Fork, B a0.Dirty, B a0.Token, B a0.Bottle, B a0.Ask]) 4 rfl rfl rfl rfl (.cons (.cons (.cons (.cons .nil)))) ?_
  refine TextR.assign rfl ?_
  refine TextR.done (.cons rfl (.cons rfl (.cons rfl .nil))) ?_
  refine Wp.seq ?_
  refine Wp.go false none [[], [], [], [], [], [(9, true)], [(9, true)], [(9, true)], [(9, true)], [(9, true)], [], []] [] [4] mixed rfl rfl (by kernel_rfl) ?_ -- region 1
  refine RunR.fieldAddr fo47_0 rfl rfl rfl rfl rfl ?_
  refine RunR.load1 tk3 rfl rfl rfl rfl ?_
  refine RunR.load1 tk3 rfl rfl rfl rfl ?_
  refine RunR.int rfl rfl rfl rfl rfl ?_
  refine RunR.move rfl rfl rfl ?_
  refine RunR.fieldAddr fo47_1 rfl rfl rfl rfl rfl ?_
  refine RunR.load1 tk3 rfl rfl rfl rfl ?_
  refine RunR.fieldAddr fo40_1 rfl rfl rfl rfl rfl ?_
  refine RunR.load1 tk3 rfl rfl rfl rfl ?_
  refine RunR.int rfl rfl rfl rfl rfl ?_
  refine RunR.pickAnd rfl rfl rfl rfl ?_
  refine RunR.assign rfl rfl rfl ?_
  refine RunR.doneQ (.cons rfl .nil) ?_
  refine Wp.ret ?_
  obtain rfl := Option.some.inj h
  exact Ret.one rfl (resV_tmp rfl) ⟨rfl, _, rfl⟩
theorem c_dine_Get_1 (N : Nat) (a0 : TSide) (c0_0 : Int) (c0_1 : Int) (c0_2 : List TSide) (c1_0 : Int) (c2_0 : Int) (c2_1 : Int) (c2_2 : Int) (c3_0 : Int) (c3_1 : Int) (r : Bool) (h : dine_Get_1 N a0 c0_0 c0_1 c0_2 c1_0 c2_0 c2_1 c2_2 c3_0 c3_1 = some r) : DCall Try.prog 31 [.agg (eSide a0), .c (.ptr 1 0 0 0), .c (.ptr 2 0 0 0)] [.live 0 3 [[I c0_0, I c0_1, .slv (c0_2.map eSide)]], .live 0 1 [[I c1_0]], .live 0 3 [[I c2_0, I c2_1, I c2_2]], .live 0 3 [[I c3_0, I c3_1, nilS]]] (.c (B r)) := Call.trim (by simp) (by first | rfl | simp [hfVs, hfV, hfL, hfAll, hfRows, mvV, mvL, mvO, mpE, mpV, mpVs, mpO, fzL, rnL, rn0, ok0, nzI, nzB, nzN, nzF, nzP, nzO, nzQ, nzC, shL, shV, shO, okV, okL, okO, List.take_of_length_le, h_Side, hfRows_map h_Side, ok_eSide, okR_eSide, fx_eSide, fxR_eSide, h_Diner, hfRows_map h_Diner, ok_eDiner, okR_eDiner, fx_eDiner, fxR_eDiner, h_Mail, hfRows_map h_Mail, ok_eMail, okR_eMail, fx_eMail, fxR_eMail, h_Msg, hfRows_map h_Msg, ok_eMsg, okR_eMsg, fx_eMsg, fxR_eMsg, -List.map_set]) (by first | rfl | simp [hfVs, hfV, hfL, hfAll, hfRows, mvV, mvL, mvO, mpE, mpV, mpVs, mpO, fzL, rnL, rn0, ok0, nzI, nzB, nzN, nzF, nzP, nzO, nzQ, nzC, shL, shV, shO, okV, okL, okO, List.take_of_length_le, h_Side, hfRows_map h_Side, ok_eSide, okR_eSide, fx_eSide, fxR_eSide, h_Diner, hfRows_map h_Diner, ok_eDiner, okR_eDiner, fx_eDiner, fxR_eDiner, h_Mail, hfRows_map h_Mail, ok_eMail, okR_eMail, fx_eMail, fxR_eMail, h_Msg, hfRows_map h_Msg, ok_eMsg, okR_eMsg, fx_eMsg, fxR_eMsg, -List.map_set]) (w_dine_Get_1 N a0 c0_0 c0_1 c0_2 c1_0 c2_0 c2_1 c2_2 c3_0 c3_1 r h)
-- slices.IndexFunc[[]narthex/api.Side,narthex/api.Side]
theorem w_slices_IndexFunc_Side_2 (N : Nat) (a0 : List TSide) (c0_0 : Int) (c0_1 : Int) (c0_2 : List TSide) (c1_0 : Int) (c2_0 : Int) (c2_1 : Int) (c2_2 : Int) (c3_0 : Int) (c3_1 : Int) (r : Int) (h : slices_IndexFunc_Side_2 N a0 c0_0 c0_1 c0_2 c1_0 c2_0 c2_1 c2_2 c3_0 c3_1 = some r) : Nx.Call Try.prog 30 [.c (.slv (a0.map eSide)), .c (.clo 31 [.ptr 1 0 0 0, .ptr 2 0 0 0])] [.live 0 3 [[I c0_0, I c0_1, .slv (c0_2.map eSide)]], .live 0 1 [[I c1_0]], .live 0 3 [[I c2_0, I c2_1, I c2_2]], .live 0 3 [[I c3_0, I c3_1, nilS]]] fun r' H' => r' = .c (I r) ∧ ∃ junk, H' = [.live 0 3 [[I c0_0, I c0_1, .slv (c0_2.map eSide)]], .live 0 1 [[I c1_0]], .live 0 3 [[I c2_0, I c2_1, I c2_2]], .live 0 3 [[I c3_0, I c3_1, nilS]]] ++ junk := by
  refine Nx.Call.of_body Try.func30 rfl en30 Try.ntmps30 rfl (fun Γ hok => ?_)
  unfold slices_IndexFunc_Side_2 at h
  refine Wp.seq ?_
  refine Wp.text [0, 1] rfl rfl ?_ -- region 0
  refine TextR.assign rfl ?_
  refine TextR.done (.cons rfl (.cons rfl .nil)) ?_
  refine Wp.seq ?_
  refine Wp.seq ?_
  refine Wp.text [0, 1, 7, 8] rfl rfl ?_ -- region 1
  refine TextR.move rfl ?_
  refine TextR.lenM us23 rfl rfl ?_
  refine TextR.move rfl ?_
  refine TextR.done (.cons rfl (.cons rfl (.cons rfl (.cons rfl .nil)))) ?_
  obtain ⟨z1, hz1, h⟩ := bind_some h
  refine Wp.fragR (fun S => ∃ z3, z1 = .inr z3 ∧ ∃ S', St.Weak ⟨Try.prog, 19, Γ⟩ S S' ∧ S' = ⟨[], [.live 0 3 [[I c0_0, I c0_1, .slv (c0_2.map eSide)]], .live 0 1 [[I c1_0]], .live 0 3 [[I c2_0, I c2_1, I c2_2]], .live 0 3 [[I c3_0, I c3_1, nilS]]]⟩) (fun S => ∃ v, z1 = .inl v ∧ Ret Try.prog Try.f30 (fun r' H' => r' = .c (I v) ∧ ∃ junk, H' = [.live 0 3 [[I c0_0, I c0_1, .slv (c0_2.map eSide)]], .live 0 1 [[I c1_0]], .live 0 3 [[I c2_0, I c2_1, I c2_2]], .live 0 3 [[I c3_0, I c3_1, nilS]]] ++ junk) .ret S) ?_ ?_ ?_
  · replace h := hz1
    refine Wp.block ?_
    refine Wp.weak (keepW (live := [0, 1, 7, 8]) (.cons rfl (.cons rfl (.cons rfl (.cons rfl .nil))))) ?_
    refine Wp.loop (fun m S => ∃ s8_1, slices_IndexFunc_Side_2_L1 N a0 c0_0 c0_1 c0_2 c1_0 c2_0 c2_1 c2_2 c3_0 c3_1 m s8_1 = some z1 ∧ S = ⟨[(0, .c (.slv (a0.map eSide))), (1, .c (.clo 31 [.ptr 1 0 0 0, .ptr 2 0 0 0])), (7, .c (I (a0.length : Int))), (8, .c (I s8_1))], [.live 0 3 [[I c0_0, I c0_1, .slv (c0_2.map eSide)]], .live 0 1 [[I c1_0]], .live 0 3 [[I c2_0, I c2_1, I c2_2]], .live 0 3 [[I c3_0, I c3_1, nilS]]]⟩) N ⟨_, h, rfl⟩ ?_
    rintro m1 _ ⟨s8_1, h, rfl⟩
    cases m1 with
    | zero => rw [slices_IndexFunc_Side_2_L1.eq_1] at h; cases h
    | succ m1 =>
    rw [slices_IndexFunc_Side_2_L1.eq_2] at h
    refine Wp.seq ?_
    refine Wp.text [0, 1, 7, 8, 9] rfl rfl ?_ -- region 2
    refine TextR.int rfl rfl rfl ?_
    refine TextR.done (.cons rfl (.cons rfl (.cons rfl (.cons rfl (.cons rfl .nil))))) ?_
    refine Wp.seq ?_
    refine Wp.condM h rfl (fun hc2 h => ?_) (fun hc2 h => ?_)
    · refine Wp.skip ?_
      refine Wp.seq ?_
      refine Wp.block ?_
      refine Wp.seq ?_
      refine Wp.text [0, 1, 5, 7, 8] rfl rfl ?_ -- region 3
      refine TextR.move rfl ?_
      refine TextR.assign rfl ?_
      refine TextR.done (.cons rfl (.cons rfl (.cons rfl (.cons rfl (.cons rfl .nil))))) ?_
      refine Wp.seq ?_
      obtain ⟨x4, hx4, h⟩ := bind_some h
      obtain ⟨y5, hy5, h⟩ := bind_some h
      refine Wp.text [0, 1, 5, 7, 8, 16] rfl rfl ?_ -- region 4
      refine TextR.move rfl ?_
      refine TextR.move rfl ?_
      refine TextR.move rfl ?_
      refine TextR.indexA se23 rfl rfl rfl hx4 rfl ?_
      refine TextR.loadNM tk47 rfl (at_get hx4) rfl ?_
      refine TextR.dcall rfl rfl (c_dine_Get_1 N x4 c0_0 c0_1 c0_2 c1_0 c2_0 c2_1 c2_2 c3_0 c3_1 y5 hy5) ?_
      refine TextR.done (.cons rfl (.cons rfl (.cons rfl (.cons rfl (.cons rfl (.cons rfl .nil)))))) ?_
      refine Wp.condM h rfl (fun hc3 h => ?_) (fun hc3 h => ?_)
      · refine Wp.seq ?_
        refine Wp.text [4] rfl rfl ?_ -- region 5
        refine TextR.move rfl ?_
        refine TextR.assign rfl ?_
        refine TextR.done (.cons rfl .nil) ?_
        refine Wp.ret ?_
        exact ⟨_, (Option.some.inj h).symm, Ret.one rfl (resV_tmp rfl) ⟨rfl, _, rfl⟩⟩
      · refine Wp.skip ?_
        refine Wp.text [0, 1, 7, 8] rfl rfl ?_ -- region 6
        refine TextR.int rfl rfl rfl ?_
        refine TextR.move rfl ?_
        refine TextR.done (.cons rfl (.cons rfl (.cons rfl (.cons rfl .nil)))) ?_
        exact ⟨m1, Nat.lt_succ_self _, _, (keepW (live := [0, 1, 7, 8]) (.cons rfl (.cons rfl (.cons rfl (.cons rfl .nil))))), _, h, rfl⟩
    · refine Wp.exit ?_
      exact ⟨_, (Option.some.inj h).symm, _, (keepW (live := []) .nil), rfl⟩
  · rintro _ ⟨z3, rfl, _, hw, rfl⟩
    dsimp only at h
    clear hz1
    refine Wp.weak hw ?_
    refine Wp.seq ?_
    refine Wp.text [4] rfl rfl ?_ -- region 7
    refine TextR.assign rfl ?_
    refine TextR.done (.cons rfl .nil) ?_
    refine Wp.ret ?_
    obtain rfl := Option.some.inj h
    exact Ret.one rfl (resV_tmp rfl) ⟨rfl, _, rfl⟩
  · rintro S' ⟨r2, rfl, hR⟩
    dsimp only at h
    obtain rfl := Option.some.inj h
    exact hR
theorem c_slices_IndexFunc_Side_2 (N : Nat) (a0 : List TSide) (c0_0 : Int) (c0_1 : Int) (c0_2 : List TSide) (c1_0 : Int) (c2_0 : Int) (c2_1 : Int) (c2_2 : Int) (c3_0 : Int) (c3_1 : Int) (r : Int) (h : slices_IndexFunc_Side_2 N a0 c0_0 c0_1 c0_2 c1_0 c2_0 c2_1 c2_2 c3_0 c3_1 = some r) : DCall Try.prog 30 [.c (.slv (a0.map eSide)), .c (.clo 31 [.ptr 1 0 0 0, .ptr 2 0 0 0])] [.live 0 3 [[I c0_0, I c0_1, .slv (c0_2.map eSide)]], .live 0 1 [[I c1_0]], .live 0 3 [[I c2_0, I c2_1, I c2_2]], .live 0 3 [[I c3_0, I c3_1, nilS]]] (.c (I r)) := Call.trim (by simp) (by first | rfl | simp [hfVs, hfV, hfL, hfAll, hfRows, mvV, mvL, mvO, mpE, mpV, mpVs, mpO, fzL, rnL, rn0, ok0, nzI, nzB, nzN, nzF, nzP, nzO, nzQ, nzC, shL, shV, shO, okV, okL, okO, List.take_of_length_le, h_Side, hfRows_map h_Side, ok_eSide, okR_eSide, fx_eSide, fxR_eSide, h_Diner, hfRows_map h_Diner, ok_eDiner, okR_eDiner, fx_eDiner, fxR_eDiner, h_Mail, hfRows_map h_Mail, ok_eMail, okR_eMail, fx_eMail, fxR_eMail, h_Msg, hfRows_map h_Msg, ok_eMsg, okR_eMsg, fx_eMsg, fxR_eMsg, -List.map_set]) (by first | rfl | simp [hfVs, hfV, hfL, hfAll, hfRows, mvV, mvL, mvO, mpE, mpV, mpVs, mpO, fzL, rnL, rn0, ok0, nzI, nzB, nzN, nzF, nzP, nzO, nzQ, nzC, shL, shV, shO, okV, okL, okO, List.take_of_length_le, h_Side, hfRows_map h_Side, ok_eSide, okR_eSide, fx_eSide, fxR_eSide, h_Diner, hfRows_map h_Diner, ok_eDiner, okR_eDiner, fx_eDiner, fxR_eDiner, h_Mail, hfRows_map h_Mail, ok_eMail, okR_eMail, fx_eMail, fxR_eMail, h_Msg, hfRows_map h_Msg, ok_eMsg, okR_eMsg, fx_eMsg, fxR_eMsg, -List.map_set]) (w_slices_IndexFunc_Side_2 N a0 c0_0 c0_1 c0_2 c1_0 c2_0 c2_1 c2_2 c3_0 c3_1 r h)
-- narthex/dine.Get
theorem w_dine_Get (N : Nat) (a0 : TDiner) (a1 : Int) (a2 : TMsg) (r : TDiner × Int) (h : dine_Get N a0 a1 a2 = some r) : Nx.Call Try.prog 19 [.agg (eDiner a0), .c (I a1), .agg (eMsg a2)] [] fun r' _ => r' = .tup [.agg (eDiner r.1), .c (I r.2)] := by
  refine Nx.Call.of_body Try.func19 rfl en19 Try.ntmps19 rfl (fun Γ hok => ?_)
  unfold dine_Get at h
  refine Wp.seq ?_
  refine Wp.text [3, 4, 5, 6] rfl rfl ?_ -- region 0
  refine TextR.box (cs := [I a0.ID, I a0.Phase, .slv (a0.Sides.map eSide)]) 0 rfl rfl rfl rfl .nil ?_
  refine TextR.box (cs := [I a1]) 1 rfl rfl rfl rfl (.cons .nil) ?_
  refine TextR.box (cs := [I a2.Kind, I a2.Epoch, I a2.Num]) 2 rfl rfl rfl rfl (.cons (.cons .nil)) ?_
  refine TextR.alloc 3 zc25 rfl rfl (.cons (.cons (.cons .nil))) ?_
  refine TextR.assign rfl ?_
  refine TextR.done (.cons rfl (.cons rfl (.cons rfl (.cons rfl .nil)))) ?_
  refine Wp.seq ?_
  refine Wp.seq ?_
  obtain ⟨y1, hy1, h⟩ := bind_some h
  refine Wp.text [3, 4, 5, 6, 8] rfl rfl ?_ -- region 1
  refine TextR.loadN (cs := [I a0.ID, I a0.Phase, .slv (a0.Sides.map eSide)]) tk25 rfl rfl ?_
  refine TextR.dcall rfl rfl (c_dine_Check N a0 y1 hy1 _) ?_
  refine TextR.assign rfl ?_
  refine TextR.done (.cons rfl (.cons rfl (.cons rfl (.cons rfl (.cons rfl .nil))))) ?_
  refine Wp.seq ?_
  refine Wp.text [3, 4, 5, 6, 8, 15] rfl rfl ?_ -- region 2
  refine TextR.move rfl ?_
  refine TextR.int rfl rfl rfl ?_
  refine TextR.done (.cons rfl (.cons rfl (.cons rfl (.cons rfl (.cons rfl (.cons rfl .nil)))))) ?_
  refine Wp.condM h rfl (fun hc1 h => ?_) (fun hc1 h => ?_)
  · refine Wp.seq ?_
    refine Wp.text [6, 7] rfl rfl ?_ -- region 3
    refine TextR.build cm25 rfl ?_
    refine TextR.move rfl ?_
    refine TextR.store1 tk25 rfl rfl rfl rfl rfl rfl (.succ (.succ (.succ .zero))) ?_
    refine TextR.assign rfl ?_
    refine TextR.done (.cons rfl (.cons rfl .nil)) ?_
    refine Wp.weak (keepW (live := [6, 7] ) (.cons rfl (.cons rfl .nil))) ?_
    refine Wp.weak (nzT (e' := [(6, .c (.ptr 3 0 0 0)), (7, .c (I y1))]) (H' := [.live 0 3 [[I a0.ID, I a0.Phase, .slv (a0.Sides.map eSide)]], .live 0 1 [[I a1]], .live 0 3 [[I a2.Kind, I a2.Epoch, I a2.Num]], .live 0 3 [[I 0, I 0, .slv ([].map eSide)]]]) (by first | rfl | simp [hfVs, hfV, hfL, hfAll, hfRows, mvV, mvL, mvO, mpE, mpV, mpVs, mpO, fzL, rnL, rn0, ok0, nzI, nzB, nzN, nzF, nzP, nzO, nzQ, nzC, shL, shV, shO, okV, okL, okO, List.take_of_length_le, h_Side, hfRows_map h_Side, ok_eSide, okR_eSide, fx_eSide, fxR_eSide, h_Diner, hfRows_map h_Diner, ok_eDiner, okR_eDiner, fx_eDiner, fxR_eDiner, h_Mail, hfRows_map h_Mail, ok_eMail, okR_eMail, fx_eMail, fxR_eMail, h_Msg, hfRows_map h_Msg, ok_eMsg, okR_eMsg, fx_eMsg, fxR_eMsg, -List.map_set]) (by first | rfl | simp [hfVs, hfV, hfL, hfAll, hfRows, mvV, mvL, mvO, mpE, mpV, mpVs, mpO, fzL, rnL, rn0, ok0, nzI, nzB, nzN, nzF, nzP, nzO, nzQ, nzC, shL, shV, shO, okV, okL, okO, List.take_of_length_le, h_Side, hfRows_map h_Side, ok_eSide, okR_eSide, fx_eSide, fxR_eSide, h_Diner, hfRows_map h_Diner, ok_eDiner, okR_eDiner, fx_eDiner, fxR_eDiner, h_Mail, hfRows_map h_Mail, ok_eMail, okR_eMail, fx_eMail, fxR_eMail, h_Msg, hfRows_map h_Msg, ok_eMsg, okR_eMsg, fx_eMsg, fxR_eMsg, -List.map_set])) ?_
    refine Wp.ret ?_
    obtain rfl := Option.some.inj h
    exact Ret.two rfl (resV_cellN tk25 rfl rfl) (resV_tmp rfl) rfl
  · refine Wp.skip ?_
    refine Wp.seq ?_
    obtain ⟨y2, hy2, h⟩ := bind_some h
    refine Wp.text [3, 5, 6, 9] rfl rfl ?_ -- region 4
    refine TextR.fieldAddr fo25_2 rfl rfl rfl ?_
    refine TextR.load1 tk23 rfl rfl ?_
    refine TextR.makeFunc rfl ?_
    refine TextR.dcall rfl rfl (c_slices_IndexFunc_Side_2 N a0.Sides a0.ID a0.Phase a0.Sides a1 a2.Kind a2.Epoch a2.Num 0 0 y2 hy2) ?_
    refine TextR.assign rfl ?_
    refine TextR.done (.cons rfl (.cons rfl (.cons rfl (.cons rfl .nil)))) ?_
    refine Wp.seq ?_
    refine Wp.seq ?_
    refine Wp.text [3, 5, 6, 9, 23] rfl rfl ?_ -- region 5
    refine TextR.move rfl ?_
    refine TextR.int rfl rfl rfl ?_
    refine TextR.done (.cons rfl (.cons rfl (.cons rfl (.cons rfl (.cons rfl .nil))))) ?_
    refine Wp.condM h rfl (fun hc2 h => ?_) (fun hc2 h => ?_)
    · refine Wp.seq ?_
      refine Wp.text [6, 7] rfl rfl ?_ -- region 6
      refine TextR.build cm25 rfl ?_
      refine TextR.store1 tk25 rfl rfl rfl rfl rfl rfl (.succ (.succ (.succ .zero))) ?_
      refine TextR.assign rfl ?_
      refine TextR.done (.cons rfl (.cons rfl .nil)) ?_
      refine Wp.weak (keepW (live := [6, 7] ) (.cons rfl (.cons rfl .nil))) ?_
      refine Wp.weak (nzT (e' := [(6, .c (.ptr 3 0 0 0)), (7, .c (I 131))]) (H' := [.live 0 3 [[I a0.ID, I a0.Phase, .slv (a0.Sides.map eSide)]], .live 0 1 [[I a1]], .live 0 3 [[I a2.Kind, I a2.Epoch, I a2.Num]], .live 0 3 [[I 0, I 0, .slv ([].map eSide)]]]) (by first | rfl | simp [hfVs, hfV, hfL, hfAll, hfRows, mvV, mvL, mvO, mpE, mpV, mpVs, mpO, fzL, rnL, rn0, ok0, nzI, nzB, nzN, nzF, nzP, nzO, nzQ, nzC, shL, shV, shO, okV, okL, okO, List.take_of_length_le, h_Side, hfRows_map h_Side, ok_eSide, okR_eSide, fx_eSide, fxR_eSide, h_Diner, hfRows_map h_Diner, ok_eDiner, okR_eDiner, fx_eDiner, fxR_eDiner, h_Mail, hfRows_map h_Mail, ok_eMail, okR_eMail, fx_eMail, fxR_eMail, h_Msg, hfRows_map h_Msg, ok_eMsg, okR_eMsg, fx_eMsg, fxR_eMsg, -List.map_set]) (by first | rfl | simp [hfVs, hfV, hfL, hfAll, hfRows, mvV, mvL, mvO, mpE, mpV, mpVs, mpO, fzL, rnL, rn0, ok0, nzI, nzB, nzN, nzF, nzP, nzO, nzQ, nzC, shL, shV, shO, okV, okL, okO, List.take_of_length_le, h_Side, hfRows_map h_Side, ok_eSide, okR_eSide, fx_eSide, fxR_eSide, h_Diner, hfRows_map h_Diner, ok_eDiner, okR_eDiner, fx_eDiner, fxR_eDiner, h_Mail, hfRows_map h_Mail, ok_eMail, okR_eMail, fx_eMail, fxR_eMail, h_Msg, hfRows_map h_Msg, ok_eMsg, okR_eMsg, fx_eMsg, fxR_eMsg, -List.map_set])) ?_
      refine Wp.ret ?_
      obtain rfl := Option.some.inj h
      exact Ret.two rfl (resV_cellN tk25 rfl rfl) (resV_tmp rfl) rfl
    · refine Wp.skip ?_
      refine Wp.seq ?_
      obtain ⟨y3, hy3, h⟩ := bind_some h
      refine Wp.text [3, 5, 6, 9] rfl rfl ?_ -- region 7
      refine TextR.fieldAddr fo25_2 rfl rfl rfl ?_
      refine TextR.load1 tk23 rfl rfl ?_
      refine TextR.call rfl rfl (by exact o_slices_Clone_Side N a0.Sides y3 hy3 4 rfl (.cons (.cons (.cons (.cons .nil))))) (fun x H' hk => ?_)
      obtain ⟨rfl, rfl⟩ := hk
      refine TextR.fieldAddr fo25_2 rfl rfl rfl ?_
      refine TextR.storeF (r' := [I a0.ID, I a0.Phase, .sl 4 1 0 y3.length]) tk23 rfl rfl rfl rfl rfl rfl rfl .zero ?_
      refine TextR.done (.cons rfl (.cons rfl (.cons rfl (.cons rfl .nil)))) ?_
      refine Wp.seq ?_
      obtain ⟨x4, hx4, h⟩ := bind_some h
      refine Wp.text [3, 5, 6, 10] rfl rfl ?_ -- region 8
      refine TextR.fieldAddr fo25_2 rfl rfl rfl ?_
      refine TextR.load1 tk23 rfl rfl ?_
      refine TextR.move rfl ?_
      refine TextR.indexOA se23 rfl rfl rfl hx4 ?_
      refine TextR.assign rfl ?_
      refine TextR.done (.cons rfl (.cons rfl (.cons rfl (.cons rfl .nil)))) ?_
      refine Wp.seq ?_
      refine Wp.text [3, 5, 6, 10] rfl rfl ?_ -- region 9
      refine TextR.assign rfl ?_
      refine TextR.done (.cons rfl (.cons rfl (.cons rfl (.cons rfl .nil)))) ?_
      refine Wp.seq ?_
      obtain ⟨z5, hz5, h⟩ := bind_some h
      refine Wp.fragR (fun S => ∃ z7, z5 = .inr z7 ∧ ∃ S', St.Weak ⟨Try.prog, 69, Γ⟩ S S' ∧ S' = ⟨[(3, .c (.ptr 0 0 0 0)), (6, .c (.ptr 2 0 0 0)), (11, .c (B z7.2))], [.live 0 3 [[I a0.ID, I a0.Phase, .sl 1 1 0 z7.1.length]], .live 1 8 (z7.1.map eSide), .live 0 3 [[I 0, I 0, nilS]]]⟩) (fun S => ∃ v, z5 = .inl v ∧ Ret Try.prog Try.f19 (fun r' _ => r' = .tup [.agg (eDiner v.1), .c (I v.2)]) .ret S) ?_ ?_ ?_
      · replace h := hz5
        refine Wp.block ?_
        refine Wp.seq ?_
        refine Wp.go false none [[], [], [], [], [(38, true)], [(38, true)], [(38, true)], [], []] [] [3, 5, 6, 10, 34] mixed rfl rfl (by kernel_rfl) ?_ -- region 11
        refine RunR.fieldAddr fo40_0 rfl rfl rfl rfl rfl ?_
        refine RunR.load1 tk38 rfl rfl rfl rfl ?_
        refine RunR.int rfl rfl rfl rfl rfl ?_
        refine RunR.move rfl rfl rfl ?_
        refine RunR.fieldAddr fo40_2 rfl rfl rfl rfl rfl ?_
        refine RunR.load1 tk3 rfl rfl rfl rfl ?_
        refine RunR.int rfl rfl rfl rfl rfl ?_
        refine RunR.pickAnd rfl rfl rfl rfl ?_
        refine RunR.assign rfl rfl rfl ?_
        refine RunR.doneQ (.cons rfl (.cons rfl (.cons rfl (.cons rfl (.cons rfl .nil))))) ?_
        refine Wp.condM h rfl (fun hc4 h => ?_) (fun hc4 h => ?_)
        · refine Wp.text [3, 6, 11] rfl rfl ?_ -- region 12
          refine TextR.move rfl ?_
          refine TextR.move rfl ?_
          refine TextR.nilCheck rfl rfl ?_
          refine TextR.fieldAddr fo47_3 rfl rfl rfl ?_
          refine TextR.load1O tk4 rfl rfl (at_get hx4) rfl ?_
          refine TextR.assign rfl ?_
          refine TextR.nilCheck rfl rfl ?_
          refine TextR.fieldAddr fo47_3 rfl rfl rfl ?_
          refine TextR.storeO { x4 with Fork := true } tk4 rfl rfl rfl rfl rfl (at_get hx4) rfl rfl (.succ (.succ (.succ (.succ .zero)))) ?_
          refine TextR.done (.cons rfl (.cons rfl (.cons rfl .nil))) ?_
          exact ⟨_, (Option.some.inj h).symm, _, (St.Weak.trans (eqW (S' := ⟨[(3, .c (.ptr 0 0 0 0)), (6, .c (.ptr 3 0 0 0)), (11, .c (B x4.Fork))], [.live 0 3 [[I a0.ID, I a0.Phase, .sl 4 1 0 (y3.set y2.toNat { x4 with Fork := true }).length]], .live 0 1 [[I a1]], .live 0 3 [[I a2.Kind, I a2.Epoch, I a2.Num]], .live 0 3 [[I 0, I 0, nilS]], .live 1 8 ((y3.set y2.toNat { x4 with Fork := true }).map eSide)]⟩) (by first | rfl | (simp only [List.length_set]; done) | (simp only [List.length_set]; rfl))) (St.Weak.trans (keepW (live := [3, 6, 11]) (.cons rfl (.cons rfl (.cons rfl .nil)))) (pickT (e' := [(3, .c (.ptr 0 0 0 0)), (6, .c (.ptr 2 0 0 0)), (11, .c (B x4.Fork))]) (H' := [.live 0 3 [[I a0.ID, I a0.Phase, .sl 1 1 0 (y3.set y2.toNat { x4 with Fork := true }).length]], .live 1 8 ((y3.set y2.toNat { x4 with Fork := true }).map eSide), .live 0 3 [[I 0, I 0, nilS]]]) [0, 4, 3] [0, 0, 0, 2, 1] 0 hok.len.symm rfl rfl (by decide) (by first | rfl | simp [hfVs, hfV, hfL, hfAll, hfRows, mvV, mvL, mvO, mpE, mpV, mpVs, mpO, fzL, rnL, rn0, ok0, nzI, nzB, nzN, nzF, nzP, nzO, nzQ, nzC, shL, shV, shO, okV, okL, okO, List.take_of_length_le, h_Side, hfRows_map h_Side, ok_eSide, okR_eSide, fx_eSide, fxR_eSide, h_Diner, hfRows_map h_Diner, ok_eDiner, okR_eDiner, fx_eDiner, fxR_eDiner, h_Mail, hfRows_map h_Mail, ok_eMail, okR_eMail, fx_eMail, fxR_eMail, h_Msg, hfRows_map h_Msg, ok_eMsg, okR_eMsg, fx_eMsg, fxR_eMsg, -List.map_set]) (by first | rfl | simp [hfVs, hfV, hfL, hfAll, hfRows, mvV, mvL, mvO, mpE, mpV, mpVs, mpO, fzL, rnL, rn0, ok0, nzI, nzB, nzN, nzF, nzP, nzO, nzQ, nzC, shL, shV, shO, okV, okL, okO, List.take_of_length_le, h_Side, hfRows_map h_Side, ok_eSide, okR_eSide, fx_eSide, fxR_eSide, h_Diner, hfRows_map h_Diner, ok_eDiner, okR_eDiner, fx_eDiner, fxR_eDiner, h_Mail, hfRows_map h_Mail, ok_eMail, okR_eMail, fx_eMail, fxR_eMail, h_Msg, hfRows_map h_Msg, ok_eMsg, okR_eMsg, fx_eMsg, fxR_eMsg, -List.map_set]) (by first | rfl | simp [hfVs, hfV, hfL, hfAll, hfRows, mvV, mvL, mvO, mpE, mpV, mpVs, mpO, fzL, rnL, rn0, ok0, nzI, nzB, nzN, nzF, nzP, nzO, nzQ, nzC, shL, shV, shO, okV, okL, okO, List.take_of_length_le, h_Side, hfRows_map h_Side, ok_eSide, okR_eSide, fx_eSide, fxR_eSide, h_Diner, hfRows_map h_Diner, ok_eDiner, okR_eDiner, fx_eDiner, fxR_eDiner, h_Mail, hfRows_map h_Mail, ok_eMail, okR_eMail, fx_eMail, fxR_eMail, h_Msg, hfRows_map h_Msg, ok_eMsg, okR_eMsg, fx_eMsg, fxR_eMsg, -List.map_set]) (by first | rfl | simp [hfVs, hfV, hfL, hfAll, hfRows, mvV, mvL, mvO, mpE, mpV, mpVs, mpO, fzL, rnL, rn0, ok0, nzI, nzB, nzN, nzF, nzP, nzO, nzQ, nzC, shL, shV, shO, okV, okL, okO, List.take_of_length_le, h_Side, hfRows_map h_Side, ok_eSide, okR_eSide, fx_eSide, fxR_eSide, h_Diner, hfRows_map h_Diner, ok_eDiner, okR_eDiner, fx_eDiner, fxR_eDiner, h_Mail, hfRows_map h_Mail, ok_eMail, okR_eMail, fx_eMail, fxR_eMail, h_Msg, hfRows_map h_Msg, ok_eMsg, okR_eMsg, fx_eMsg, fxR_eMsg, -List.map_set])))), rfl⟩
        · refine Wp.seq ?_
          refine Wp.go false none [[], [], [], [], [(54, true)], [(54, true)], [(54, true)], [], []] [] [3, 6, 10, 50] mixed rfl rfl (by kernel_rfl) ?_ -- region 13
          refine RunR.fieldAddr fo40_0 rfl rfl rfl rfl rfl ?_
          refine RunR.load1 tk38 rfl rfl rfl rfl ?_
          refine RunR.int rfl rfl rfl rfl rfl ?_
          refine RunR.move rfl rfl rfl ?_
          refine RunR.fieldAddr fo40_2 rfl rfl rfl rfl rfl ?_
          refine RunR.load1 tk3 rfl rfl rfl rfl ?_
          refine RunR.int rfl rfl rfl rfl rfl ?_
          refine RunR.pickAnd rfl rfl rfl rfl ?_
          refine RunR.assign rfl rfl rfl ?_
          refine RunR.doneQ (.cons rfl (.cons rfl (.cons rfl (.cons rfl .nil)))) ?_
          refine Wp.condM h rfl (fun hc5 h => ?_) (fun hc5 h => ?_)
          · refine Wp.text [3, 6, 11] rfl rfl ?_ -- region 14
            refine TextR.move rfl ?_
            refine TextR.move rfl ?_
            refine TextR.nilCheck rfl rfl ?_
            refine TextR.fieldAddr fo47_5 rfl rfl rfl ?_
            refine TextR.load1O tk4 rfl rfl (at_get hx4) rfl ?_
            refine TextR.assign rfl ?_
            refine TextR.nilCheck rfl rfl ?_
            refine TextR.fieldAddr fo47_5 rfl rfl rfl ?_
            refine TextR.storeO { x4 with Token := true } tk4 rfl rfl rfl rfl rfl (at_get hx4) rfl rfl (.succ (.succ (.succ (.succ .zero)))) ?_
            refine TextR.done (.cons rfl (.cons rfl (.cons rfl .nil))) ?_
            exact ⟨_, (Option.some.inj h).symm, _, (St.Weak.trans (eqW (S' := ⟨[(3, .c (.ptr 0 0 0 0)), (6, .c (.ptr 3 0 0 0)), (11, .c (B x4.Token))], [.live 0 3 [[I a0.ID, I a0.Phase, .sl 4 1 0 (y3.set y2.toNat { x4 with Token := true }).length]], .live 0 1 [[I a1]], .live 0 3 [[I a2.Kind, I a2.Epoch, I a2.Num]], .live 0 3 [[I 0, I 0, nilS]], .live 1 8 ((y3.set y2.toNat { x4 with Token := true }).map eSide)]⟩) (by first | rfl | (simp only [List.length_set]; done) | (simp only [List.length_set]; rfl))) (St.Weak.trans (keepW (live := [3, 6, 11]) (.cons rfl (.cons rfl (.cons rfl .nil)))) (pickT (e' := [(3, .c (.ptr 0 0 0 0)), (6, .c (.ptr 2 0 0 0)), (11, .c (B x4.Token))]) (H' := [.live 0 3 [[I a0.ID, I a0.Phase, .sl 1 1 0 (y3.set y2.toNat { x4 with Token := true }).length]], .live 1 8 ((y3.set y2.toNat { x4 with Token := true }).map eSide), .live 0 3 [[I 0, I 0, nilS]]]) [0, 4, 3] [0, 0, 0, 2, 1] 0 hok.len.symm rfl rfl (by decide) (by first | rfl | simp [hfVs, hfV, hfL, hfAll, hfRows, mvV, mvL, mvO, mpE, mpV, mpVs, mpO, fzL, rnL, rn0, ok0, nzI, nzB, nzN, nzF, nzP, nzO, nzQ, nzC, shL, shV, shO, okV, okL, okO, List.take_of_length_le, h_Side, hfRows_map h_Side, ok_eSide, okR_eSide, fx_eSide, fxR_eSide, h_Diner, hfRows_map h_Diner, ok_eDiner, okR_eDiner, fx_eDiner, fxR_eDiner, h_Mail, hfRows_map h_Mail, ok_eMail, okR_eMail, fx_eMail, fxR_eMail, h_Msg, hfRows_map h_Msg, ok_eMsg, okR_eMsg, fx_eMsg, fxR_eMsg, -List.map_set]) (by first | rfl | simp [hfVs, hfV, hfL, hfAll, hfRows, mvV, mvL, mvO, mpE, mpV, mpVs, mpO, fzL, rnL, rn0, ok0, nzI, nzB, nzN, nzF, nzP, nzO, nzQ, nzC, shL, shV, shO, okV, okL, okO, List.take_of_length_le, h_Side, hfRows_map h_Side, ok_eSide, okR_eSide, fx_eSide, fxR_eSide, h_Diner, hfRows_map h_Diner, ok_eDiner, okR_eDiner, fx_eDiner, fxR_eDiner, h_Mail, hfRows_map h_Mail, ok_eMail, okR_eMail, fx_eMail, fxR_eMail, h_Msg, hfRows_map h_Msg, ok_eMsg, okR_eMsg, fx_eMsg, fxR_eMsg, -List.map_set]) (by first | rfl | simp [hfVs, hfV, hfL, hfAll, hfRows, mvV, mvL, mvO, mpE, mpV, mpVs, mpO, fzL, rnL, rn0, ok0, nzI, nzB, nzN, nzF, nzP, nzO, nzQ, nzC, shL, shV, shO, okV, okL, okO, List.take_of_length_le, h_Side, hfRows_map h_Side, ok_eSide, okR_eSide, fx_eSide, fxR_eSide, h_Diner, hfRows_map h_Diner, ok_eDiner, okR_eDiner, fx_eDiner, fxR_eDiner, h_Mail, hfRows_map h_Mail, ok_eMail, okR_eMail, fx_eMail, fxR_eMail, h_Msg, hfRows_map h_Msg, ok_eMsg, okR_eMsg, fx_eMsg, fxR_eMsg, -List.map_set]) (by first | rfl | simp [hfVs, hfV, hfL, hfAll, hfRows, mvV, mvL, mvO, mpE, mpV, mpVs, mpO, fzL, rnL, rn0, ok0, nzI, nzB, nzN, nzF, nzP, nzO, nzQ, nzC, shL, shV, shO, okV, okL, okO, List.take_of_length_le, h_Side, hfRows_map h_Side, ok_eSide, okR_eSide, fx_eSide, fxR_eSide, h_Diner, hfRows_map h_Diner, ok_eDiner, okR_eDiner, fx_eDiner, fxR_eDiner, h_Mail, hfRows_map h_Mail, ok_eMail, okR_eMail, fx_eMail, fxR_eMail, h_Msg, hfRows_map h_Msg, ok_eMsg, okR_eMsg, fx_eMsg, fxR_eMsg, -List.map_set])))), rfl⟩
          · refine Wp.seq ?_
            refine Wp.text [6, 7] rfl rfl ?_ -- region 10
            refine TextR.build cm25 rfl ?_
            refine TextR.store1 tk25 rfl rfl rfl rfl rfl rfl (.succ (.succ (.succ .zero))) ?_
            refine TextR.assign rfl ?_
            refine TextR.done (.cons rfl (.cons rfl .nil)) ?_
            refine Wp.weak (keepW (live := [6, 7] ) (.cons rfl (.cons rfl .nil))) ?_
            refine Wp.weak (nzT (e' := [(6, .c (.ptr 3 0 0 0)), (7, .c (I 133))]) (H' := [.live 0 3 [[I a0.ID, I a0.Phase, .sl 4 1 0 y3.length]], .live 0 1 [[I a1]], .live 0 3 [[I a2.Kind, I a2.Epoch, I a2.Num]], .live 0 3 [[I 0, I 0, .slv ([].map eSide)]], .live 1 8 (y3.map eSide)]) (by first | rfl | simp [hfVs, hfV, hfL, hfAll, hfRows, mvV, mvL, mvO, mpE, mpV, mpVs, mpO, fzL, rnL, rn0, ok0, nzI, nzB, nzN, nzF, nzP, nzO, nzQ, nzC, shL, shV, shO, okV, okL, okO, List.take_of_length_le, h_Side, hfRows_map h_Side, ok_eSide, okR_eSide, fx_eSide, fxR_eSide, h_Diner, hfRows_map h_Diner, ok_eDiner, okR_eDiner, fx_eDiner, fxR_eDiner, h_Mail, hfRows_map h_Mail, ok_eMail, okR_eMail, fx_eMail, fxR_eMail, h_Msg, hfRows_map h_Msg, ok_eMsg, okR_eMsg, fx_eMsg, fxR_eMsg, -List.map_set]) (by first | rfl | simp [hfVs, hfV, hfL, hfAll, hfRows, mvV, mvL, mvO, mpE, mpV, mpVs, mpO, fzL, rnL, rn0, ok0, nzI, nzB, nzN, nzF, nzP, nzO, nzQ, nzC, shL, shV, shO, okV, okL, okO, List.take_of_length_le, h_Side, hfRows_map h_Side, ok_eSide, okR_eSide, fx_eSide, fxR_eSide, h_Diner, hfRows_map h_Diner, ok_eDiner, okR_eDiner, fx_eDiner, fxR_eDiner, h_Mail, hfRows_map h_Mail, ok_eMail, okR_eMail, fx_eMail, fxR_eMail, h_Msg, hfRows_map h_Msg, ok_eMsg, okR_eMsg, fx_eMsg, fxR_eMsg, -List.map_set])) ?_
            refine Wp.ret ?_
            exact ⟨_, (Option.some.inj h).symm, Ret.two rfl (resV_cellN tk25 rfl rfl) (resV_tmp rfl) rfl⟩
      · rintro _ ⟨z7, rfl, _, hw, rfl⟩
        dsimp only at h
        clear hz5
        refine Wp.weak hw ?_
        refine Wp.seq ?_
        refine Wp.seq ?_
        refine Wp.text [3, 6, 66] rfl rfl ?_ -- region 15
        refine TextR.move rfl ?_
        refine TextR.done (.cons rfl (.cons rfl (.cons rfl .nil))) ?_
        refine Wp.condM h rfl (fun hc4 h => ?_) (fun hc4 h => ?_)
        · refine Wp.seq ?_
          refine Wp.text [6, 7] rfl rfl ?_ -- region 16
          refine TextR.build cm25 rfl ?_
          refine TextR.store1 tk25 rfl rfl rfl rfl rfl rfl (.succ (.succ .zero)) ?_
          refine TextR.assign rfl ?_
          refine TextR.done (.cons rfl (.cons rfl .nil)) ?_
          refine Wp.weak (keepW (live := [6, 7] ) (.cons rfl (.cons rfl .nil))) ?_
          refine Wp.weak (nzT (e' := [(6, .c (.ptr 2 0 0 0)), (7, .c (I 132))]) (H' := [.live 0 3 [[I a0.ID, I a0.Phase, .sl 1 1 0 z7.1.length]], .live 1 8 (z7.1.map eSide), .live 0 3 [[I 0, I 0, .slv ([].map eSide)]]]) (by first | rfl | simp [hfVs, hfV, hfL, hfAll, hfRows, mvV, mvL, mvO, mpE, mpV, mpVs, mpO, fzL, rnL, rn0, ok0, nzI, nzB, nzN, nzF, nzP, nzO, nzQ, nzC, shL, shV, shO, okV, okL, okO, List.take_of_length_le, h_Side, hfRows_map h_Side, ok_eSide, okR_eSide, fx_eSide, fxR_eSide, h_Diner, hfRows_map h_Diner, ok_eDiner, okR_eDiner, fx_eDiner, fxR_eDiner, h_Mail, hfRows_map h_Mail, ok_eMail, okR_eMail, fx_eMail, fxR_eMail, h_Msg, hfRows_map h_Msg, ok_eMsg, okR_eMsg, fx_eMsg, fxR_eMsg, -List.map_set]) (by first | rfl | simp [hfVs, hfV, hfL, hfAll, hfRows, mvV, mvL, mvO, mpE, mpV, mpVs, mpO, fzL, rnL, rn0, ok0, nzI, nzB, nzN, nzF, nzP, nzO, nzQ, nzC, shL, shV, shO, okV, okL, okO, List.take_of_length_le, h_Side, hfRows_map h_Side, ok_eSide, okR_eSide, fx_eSide, fxR_eSide, h_Diner, hfRows_map h_Diner, ok_eDiner, okR_eDiner, fx_eDiner, fxR_eDiner, h_Mail, hfRows_map h_Mail, ok_eMail, okR_eMail, fx_eMail, fxR_eMail, h_Msg, hfRows_map h_Msg, ok_eMsg, okR_eMsg, fx_eMsg, fxR_eMsg, -List.map_set])) ?_
          refine Wp.ret ?_
          obtain rfl := Option.some.inj h
          exact Ret.two rfl (resV_cellN tk25 rfl rfl) (resV_tmp rfl) rfl
        · refine Wp.skip ?_
          refine Wp.seq ?_
          refine Wp.text [6, 7] rfl rfl ?_ -- region 17
          refine TextR.loadN (cs := [I a0.ID, I a0.Phase, .sl 1 1 0 z7.1.length]) tk25 rfl rfl ?_
          refine TextR.store1 tk25 rfl rfl rfl rfl rfl rfl (.succ (.succ .zero)) ?_
          refine TextR.assign rfl ?_
          refine TextR.done (.cons rfl (.cons rfl .nil)) ?_
          refine Wp.weak (keepW (live := [6, 7] ) (.cons rfl (.cons rfl .nil))) ?_
          refine Wp.weak (freezeW (h := 1) (ver := 1) (rows := z7.1.map eSide) (e' := [(6, .c (.ptr 2 0 0 0)), (7, .c (I 0))]) (H' := [.live 0 3 [[I a0.ID, I a0.Phase, .slv (z7.1.map eSide)]], .dead, .live 0 3 [[I a0.ID, I a0.Phase, .slv (z7.1.map eSide)]]]) rfl (by first | rfl | simp [hfVs, hfV, hfL, hfAll, hfRows, mvV, mvL, mvO, mpE, mpV, mpVs, mpO, fzL, rnL, rn0, ok0, nzI, nzB, nzN, nzF, nzP, nzO, nzQ, nzC, shL, shV, shO, okV, okL, okO, List.take_of_length_le, h_Side, hfRows_map h_Side, ok_eSide, okR_eSide, fx_eSide, fxR_eSide, h_Diner, hfRows_map h_Diner, ok_eDiner, okR_eDiner, fx_eDiner, fxR_eDiner, h_Mail, hfRows_map h_Mail, ok_eMail, okR_eMail, fx_eMail, fxR_eMail, h_Msg, hfRows_map h_Msg, ok_eMsg, okR_eMsg, fx_eMsg, fxR_eMsg, -List.map_set]) (by first | rfl | simp [hfVs, hfV, hfL, hfAll, hfRows, mvV, mvL, mvO, mpE, mpV, mpVs, mpO, fzL, rnL, rn0, ok0, nzI, nzB, nzN, nzF, nzP, nzO, nzQ, nzC, shL, shV, shO, okV, okL, okO, List.take_of_length_le, h_Side, hfRows_map h_Side, ok_eSide, okR_eSide, fx_eSide, fxR_eSide, h_Diner, hfRows_map h_Diner, ok_eDiner, okR_eDiner, fx_eDiner, fxR_eDiner, h_Mail, hfRows_map h_Mail, ok_eMail, okR_eMail, fx_eMail, fxR_eMail, h_Msg, hfRows_map h_Msg, ok_eMsg, okR_eMsg, fx_eMsg, fxR_eMsg, -List.map_set])) ?_
          refine Wp.ret ?_
          obtain rfl := Option.some.inj h
          exact Ret.two rfl (resV_cellN tk25 rfl rfl) (resV_tmp rfl) rfl
      · rintro S' ⟨r6, rfl, hR⟩
        dsimp only at h
        obtain rfl := Option.some.inj h
        exact hR
theorem c_dine_Get (N : Nat) (a0 : TDiner) (a1 : Int) (a2 : TMsg) (r : TDiner × Int) (h : dine_Get N a0 a1 a2 = some r) (H : List Ob) : DCall Try.prog 19 [.agg (eDiner a0), .c (I a1), .agg (eMsg a2)] H (.tup [.agg (eDiner r.1), .c (I r.2)]) := DCall.lift (by first | rfl | simp [hfVs, hfV, hfL, hfAll, hfRows, mvV, mvL, mvO, mpE, mpV, mpVs, mpO, fzL, rnL, rn0, ok0, nzI, nzB, nzN, nzF, nzP, nzO, nzQ, nzC, shL, shV, shO, okV, okL, okO, List.take_of_length_le, h_Side, hfRows_map h_Side, ok_eSide, okR_eSide, fx_eSide, fxR_eSide, h_Diner, hfRows_map h_Diner, ok_eDiner, okR_eDiner, fx_eDiner, fxR_eDiner, h_Mail, hfRows_map h_Mail, ok_eMail, okR_eMail, fx_eMail, fxR_eMail, h_Msg, hfRows_map h_Msg, ok_eMsg, okR_eMsg, fx_eMsg, fxR_eMsg, -List.map_set]) (by first | rfl | simp [hfVs, hfV, hfL, hfAll, hfRows, mvV, mvL, mvO, mpE, mpV, mpVs, mpO, fzL, rnL, rn0, ok0, nzI, nzB, nzN, nzF, nzP, nzO, nzQ, nzC, shL, shV, shO, okV, okL, okO, List.take_of_length_le, h_Side, hfRows_map h_Side, ok_eSide, okR_eSide, fx_eSide, fxR_eSide, h_Diner, hfRows_map h_Diner, ok_eDiner, okR_eDiner, fx_eDiner, fxR_eDiner, h_Mail, hfRows_map h_Mail, ok_eMail, okR_eMail, fx_eMail, fxR_eMail, h_Msg, hfRows_map h_Msg, ok_eMsg, okR_eMsg, fx_eMsg, fxR_eMsg, -List.map_set]) (fun _ => by simp [hfVs, hfV, hfL, hfAll, hfRows, mvV, mvL, mvO, mpE, mpV, mpVs, mpO, fzL, rnL, rn0, ok0, nzI, nzB, nzN, nzF, nzP, nzO, nzQ, nzC, shL, shV, shO, okV, okL, okO, List.take_of_length_le, h_Side, hfRows_map h_Side, ok_eSide, okR_eSide, fx_eSide, fxR_eSide, h_Diner, hfRows_map h_Diner, ok_eDiner, okR_eDiner, fx_eDiner, fxR_eDiner, h_Mail, hfRows_map h_Mail, ok_eMail, okR_eMail, fx_eMail, fxR_eMail, h_Msg, hfRows_map h_Msg, ok_eMsg, okR_eMsg, fx_eMsg, fxR_eMsg, -List.map_set]) (w_dine_Get N a0 a1 a2 r h) H
-- narthex/dine.Stop
theorem w_dine_Stop (N : Nat) (a0 : TDiner) (r : TDiner × Int) (h : dine_Stop N a0 = some r) : Nx.Call Try.prog 22 [.agg (eDiner a0)] [] fun r' _ => r' = .tup [.agg (eDiner r.1), .c (I r.2)] := by
  refine Nx.Call.of_body Try.func22 rfl en22 Try.ntmps22 rfl (fun Γ hok => ?_)
  unfold dine_Stop at h
  refine Wp.seq ?_
  refine Wp.text [1, 2] rfl rfl ?_ -- region 0
  refine TextR.box (cs := [I a0.ID, I a0.Phase, .slv (a0.Sides.map eSide)]) 0 rfl rfl rfl rfl .nil ?_
  refine TextR.alloc 1 zc25 rfl rfl (.cons .nil) ?_
  refine TextR.assign rfl ?_
  refine TextR.done (.cons rfl (.cons rfl .nil)) ?_
  refine Wp.seq ?_
  obtain ⟨y1, hy1, h⟩ := bind_some h
  refine Wp.text [2, 3] rfl rfl ?_ -- region 1
  refine TextR.loadN (cs := [I a0.ID, I a0.Phase, .slv (a0.Sides.map eSide)]) tk25 rfl rfl ?_
  refine TextR.dcall rfl rfl (c_dine_turned N a0 2 0 y1 hy1 _) ?_
  refine TextR.extract rfl rfl ?_
  refine TextR.extract rfl rfl ?_
  refine TextR.store1 tk25 rfl rfl rfl rfl rfl rfl (.succ .zero) ?_
  refine TextR.assign rfl ?_
  refine TextR.done (.cons rfl (.cons rfl .nil)) ?_
  refine Wp.ret ?_
  obtain rfl := Option.some.inj h
  exact Ret.two rfl (resV_cellN tk25 rfl rfl) (resV_tmp rfl) rfl
theorem c_dine_Stop (N : Nat) (a0 : TDiner) (r : TDiner × Int) (h : dine_Stop N a0 = some r) (H : List Ob) : DCall Try.prog 22 [.agg (eDiner a0)] H (.tup [.agg (eDiner r.1), .c (I r.2)]) := DCall.lift (by first | rfl | simp [hfVs, hfV, hfL, hfAll, hfRows, mvV, mvL, mvO, mpE, mpV, mpVs, mpO, fzL, rnL, rn0, ok0, nzI, nzB, nzN, nzF, nzP, nzO, nzQ, nzC, shL, shV, shO, okV, okL, okO, List.take_of_length_le, h_Side, hfRows_map h_Side, ok_eSide, okR_eSide, fx_eSide, fxR_eSide, h_Diner, hfRows_map h_Diner, ok_eDiner, okR_eDiner, fx_eDiner, fxR_eDiner, h_Mail, hfRows_map h_Mail, ok_eMail, okR_eMail, fx_eMail, fxR_eMail, h_Msg, hfRows_map h_Msg, ok_eMsg, okR_eMsg, fx_eMsg, fxR_eMsg, -List.map_set]) (by first | rfl | simp [hfVs, hfV, hfL, hfAll, hfRows, mvV, mvL, mvO, mpE, mpV, mpVs, mpO, fzL, rnL, rn0, ok0, nzI, nzB, nzN, nzF, nzP, nzO, nzQ, nzC, shL, shV, shO, okV, okL, okO, List.take_of_length_le, h_Side, hfRows_map h_Side, ok_eSide, okR_eSide, fx_eSide, fxR_eSide, h_Diner, hfRows_map h_Diner, ok_eDiner, okR_eDiner, fx_eDiner, fxR_eDiner, h_Mail, hfRows_map h_Mail, ok_eMail, okR_eMail, fx_eMail, fxR_eMail, h_Msg, hfRows_map h_Msg, ok_eMsg, okR_eMsg, fx_eMsg, fxR_eMsg, -List.map_set]) (fun _ => by simp [hfVs, hfV, hfL, hfAll, hfRows, mvV, mvL, mvO, mpE, mpV, mpVs, mpO, fzL, rnL, rn0, ok0, nzI, nzB, nzN, nzF, nzP, nzO, nzQ, nzC, shL, shV, shO, okV, okL, okO, List.take_of_length_le, h_Side, hfRows_map h_Side, ok_eSide, okR_eSide, fx_eSide, fxR_eSide, h_Diner, hfRows_map h_Diner, ok_eDiner, okR_eDiner, fx_eDiner, fxR_eDiner, h_Mail, hfRows_map h_Mail, ok_eMail, okR_eMail, fx_eMail, fxR_eMail, h_Msg, hfRows_map h_Msg, ok_eMsg, okR_eMsg, fx_eMsg, fxR_eMsg, -List.map_set]) (w_dine_Stop N a0 r h) H
-- slices.Equal[[]narthex/api.Side,narthex/api.Side]
theorem w_slices_Equal_Side (N : Nat) (a0 : List TSide) (a1 : List TSide) (r : Bool) (h : slices_Equal_Side N a0 a1 = some r) : Nx.Call Try.prog 26 [.c (.slv (a0.map eSide)), .c (.slv (a1.map eSide))] [] fun r' _ => r' = .c (B r) := by
  refine Nx.Call.of_body Try.func26 rfl en26 Try.ntmps26 rfl (fun Γ hok => ?_)
  unfold slices_Equal_Side at h
  refine Wp.seq ?_
  refine Wp.text [0, 1] rfl rfl ?_ -- region 0
  refine TextR.assign rfl ?_
  refine TextR.done (.cons rfl (.cons rfl .nil)) ?_
  refine Wp.seq ?_
  refine Wp.seq ?_
  refine Wp.text [0, 1, 10] rfl rfl ?_ -- region 1
  refine TextR.move rfl ?_
  refine TextR.lenM us23 rfl rfl ?_
  refine TextR.move rfl ?_
  refine TextR.lenM us23 rfl rfl ?_
  refine TextR.int rfl rfl rfl ?_
  refine TextR.done (.cons rfl (.cons rfl (.cons rfl .nil))) ?_
  refine Wp.condM h rfl (fun hc1 h => ?_) (fun hc1 h => ?_)
  · refine Wp.seq ?_
    refine Wp.text [4] rfl rfl ?_ -- region 2
    refine TextR.assign rfl ?_
    refine TextR.done (.cons rfl .nil) ?_
    refine Wp.ret ?_
    obtain rfl := Option.some.inj h
    exact Ret.one rfl (resV_tmp rfl) rfl
  · refine Wp.skip ?_
    refine Wp.seq ?_
    refine Wp.seq ?_
    refine Wp.text [0, 1, 12, 13] rfl rfl ?_ -- region 3
    refine TextR.move rfl ?_
    refine TextR.lenM us23 rfl rfl ?_
    refine TextR.move rfl ?_
    refine TextR.done (.cons rfl (.cons rfl (.cons rfl (.cons rfl .nil)))) ?_
    obtain ⟨z1, hz1, h⟩ := bind_some h
    refine Wp.fragR (fun S => ∃ z3, z1 = .inr z3 ∧ ∃ S', St.Weak ⟨Try.prog, 26, Γ⟩ S S' ∧ S' = ⟨[], []⟩) (fun S => ∃ v, z1 = .inl v ∧ Ret Try.prog Try.f26 (fun r' _ => r' = .c (B v)) .ret S) ?_ ?_ ?_
    · replace h := hz1
      refine Wp.block ?_
      refine Wp.weak (keepW (live := [0, 1, 12, 13]) (.cons rfl (.cons rfl (.cons rfl (.cons rfl .nil))))) ?_
      refine Wp.loop (fun m S => ∃ s13_1, slices_Equal_Side_L1 N a0 a1 m s13_1 = some z1 ∧ S = ⟨[(0, .c (.slv (a0.map eSide))), (1, .c (.slv (a1.map eSide))), (12, .c (I (a0.length : Int))), (13, .c (I s13_1))], []⟩) N ⟨_, h, rfl⟩ ?_
      rintro m1 _ ⟨s13_1, h, rfl⟩
      cases m1 with
      | zero => rw [slices_Equal_Side_L1.eq_1] at h; cases h
      | succ m1 =>
      rw [slices_Equal_Side_L1.eq_2] at h
      refine Wp.seq ?_
      refine Wp.text [0, 1, 12, 13, 14] rfl rfl ?_ -- region 4
      refine TextR.int rfl rfl rfl ?_
      refine TextR.done (.cons rfl (.cons rfl (.cons rfl (.cons rfl (.cons rfl .nil))))) ?_
      refine Wp.seq ?_
      refine Wp.condM h rfl (fun hc3 h => ?_) (fun hc3 h => ?_)
      · refine Wp.skip ?_
        refine Wp.seq ?_
        refine Wp.block ?_
        refine Wp.seq ?_
        refine Wp.text [0, 1, 5, 12, 13] rfl rfl ?_ -- region 5
        refine TextR.move rfl ?_
        refine TextR.assign rfl ?_
        refine TextR.done (.cons rfl (.cons rfl (.cons rfl (.cons rfl (.cons rfl .nil))))) ?_
        refine Wp.seq ?_
        obtain ⟨x4, hx4, h⟩ := bind_some h
        obtain ⟨x5, hx5, h⟩ := bind_some h
        refine Wp.go true (some []) [] [] [0, 1, 12, 13, 24] mixed rfl rfl (by kernel_rfl) ?_ -- region 6
        refine RunR.move rfl rfl rfl ?_
        refine RunR.move rfl rfl rfl ?_
        refine RunR.indexA se23 rfl rfl rfl rfl rfl hx4 rfl ?_
        refine RunR.loadNM tk47 rfl rfl rfl (at_get hx4) rfl ?_
        refine RunR.move rfl rfl rfl ?_
        refine RunR.move rfl rfl rfl ?_
        refine RunR.indexA se23 rfl rfl rfl rfl rfl hx5 rfl ?_
        refine RunR.loadNM tk47 rfl rfl rfl (at_get hx5) rfl ?_
        refine RunR.neAgg eqs47 rfl rfl rfl rfl (q_Side x4 x5) ?_
        refine RunR.doneQ (.cons rfl (.cons rfl (.cons rfl (.cons rfl (.cons rfl .nil))))) ?_
        refine Wp.condM h rfl (fun hc4 h => ?_) (fun hc4 h => ?_)
        · refine Wp.seq ?_
          refine Wp.text [4] rfl rfl ?_ -- region 7
          refine TextR.assign rfl ?_
          refine TextR.done (.cons rfl .nil) ?_
          refine Wp.ret ?_
          exact ⟨_, (Option.some.inj h).symm, Ret.one rfl (resV_tmp rfl) rfl⟩
        · refine Wp.skip ?_
          refine Wp.text [0, 1, 12, 13] rfl rfl ?_ -- region 8
          refine TextR.int rfl rfl rfl ?_
          refine TextR.move rfl ?_
          refine TextR.done (.cons rfl (.cons rfl (.cons rfl (.cons rfl .nil)))) ?_
          exact ⟨m1, Nat.lt_succ_self _, _, (keepW (live := [0, 1, 12, 13]) (.cons rfl (.cons rfl (.cons rfl (.cons rfl .nil))))), _, h, rfl⟩
      · refine Wp.exit ?_
        exact ⟨_, (Option.some.inj h).symm, _, (keepW (live := []) .nil), rfl⟩
    · rintro _ ⟨z3, rfl, _, hw, rfl⟩
      dsimp only at h
      clear hz1
      refine Wp.weak hw ?_
      refine Wp.seq ?_
      refine Wp.text [4] rfl rfl ?_ -- region 9
      refine TextR.assign rfl ?_
      refine TextR.done (.cons rfl .nil) ?_
      refine Wp.ret ?_
      obtain rfl := Option.some.inj h
      exact Ret.one rfl (resV_tmp rfl) rfl
    · rintro S' ⟨r2, rfl, hR⟩
      dsimp only at h
      obtain rfl := Option.some.inj h
      exact hR
theorem c_slices_Equal_Side (N : Nat) (a0 : List TSide) (a1 : List TSide) (r : Bool) (h : slices_Equal_Side N a0 a1 = some r) (H : List Ob) : DCall Try.prog 26 [.c (.slv (a0.map eSide)), .c (.slv (a1.map eSide))] H (.c (B r)) := DCall.lift (by first | rfl | simp [hfVs, hfV, hfL, hfAll, hfRows, mvV, mvL, mvO, mpE, mpV, mpVs, mpO, fzL, rnL, rn0, ok0, nzI, nzB, nzN, nzF, nzP, nzO, nzQ, nzC, shL, shV, shO, okV, okL, okO, List.take_of_length_le, h_Side, hfRows_map h_Side, ok_eSide, okR_eSide, fx_eSide, fxR_eSide, h_Diner, hfRows_map h_Diner, ok_eDiner, okR_eDiner, fx_eDiner, fxR_eDiner, h_Mail, hfRows_map h_Mail, ok_eMail, okR_eMail, fx_eMail, fxR_eMail, h_Msg, hfRows_map h_Msg, ok_eMsg, okR_eMsg, fx_eMsg, fxR_eMsg, -List.map_set]) (by first | rfl | simp [hfVs, hfV, hfL, hfAll, hfRows, mvV, mvL, mvO, mpE, mpV, mpVs, mpO, fzL, rnL, rn0, ok0, nzI, nzB, nzN, nzF, nzP, nzO, nzQ, nzC, shL, shV, shO, okV, okL, okO, List.take_of_length_le, h_Side, hfRows_map h_Side, ok_eSide, okR_eSide, fx_eSide, fxR_eSide, h_Diner, hfRows_map h_Diner, ok_eDiner, okR_eDiner, fx_eDiner, fxR_eDiner, h_Mail, hfRows_map h_Mail, ok_eMail, okR_eMail, fx_eMail, fxR_eMail, h_Msg, hfRows_map h_Msg, ok_eMsg, okR_eMsg, fx_eMsg, fxR_eMsg, -List.map_set]) (fun _ => by simp [hfVs, hfV, hfL, hfAll, hfRows, mvV, mvL, mvO, mpE, mpV, mpVs, mpO, fzL, rnL, rn0, ok0, nzI, nzB, nzN, nzF, nzP, nzO, nzQ, nzC, shL, shV, shO, okV, okL, okO, List.take_of_length_le, h_Side, hfRows_map h_Side, ok_eSide, okR_eSide, fx_eSide, fxR_eSide, h_Diner, hfRows_map h_Diner, ok_eDiner, okR_eDiner, fx_eDiner, fxR_eDiner, h_Mail, hfRows_map h_Mail, ok_eMail, okR_eMail, fx_eMail, fxR_eMail, h_Msg, hfRows_map h_Msg, ok_eMsg, okR_eMsg, fx_eMsg, fxR_eMsg, -List.map_set]) (w_slices_Equal_Side N a0 a1 r h) H
-- narthex/dine.Same
theorem w_dine_Same (N : Nat) (a0 : TDiner) (a1 : TDiner) (r : Bool) (h : dine_Same N a0 a1 = some r) : Nx.Call Try.prog 13 [.agg (eDiner a0), .agg (eDiner a1)] [] fun r' _ => r' = .c (B r) := by
  refine Nx.Call.of_body Try.func13 rfl en13 Try.ntmps13 rfl (fun Γ hok => ?_)
  unfold dine_Same at h
  refine Wp.seq ?_
  refine Wp.text [2, 3] rfl rfl ?_ -- region 0
  refine TextR.box (cs := [I a0.ID, I a0.Phase, .slv (a0.Sides.map eSide)]) 0 rfl rfl rfl rfl .nil ?_
  refine TextR.box (cs := [I a1.ID, I a1.Phase, .slv (a1.Sides.map eSide)]) 1 rfl rfl rfl rfl (.cons .nil) ?_
  refine TextR.assign rfl ?_
  refine TextR.done (.cons rfl (.cons rfl .nil)) ?_
  refine Wp.seq ?_
  obtain ⟨y1, hy1, h⟩ := bind_some h
  refine Wp.go false none [[], [], [], [], [], [], [(10, true)], [(10, true)], [(10, true)], [(10, true)], [(10, true)], [], [], [(17, true)], [(17, true)], [(17, true)], [(17, true)], [(17, true)], [], []] [] [4] mixed rfl rfl (by kernel_rfl) ?_ -- region 1
  refine RunR.fieldAddr fo25_0 rfl rfl rfl rfl rfl ?_
  refine RunR.load1 tk3 rfl rfl rfl rfl ?_
  refine RunR.fieldAddr fo25_0 rfl rfl rfl rfl rfl ?_
  refine RunR.load1 tk3 rfl rfl rfl rfl ?_
  refine RunR.int rfl rfl rfl rfl rfl ?_
  refine RunR.move rfl rfl rfl ?_
  refine RunR.fieldAddr fo25_1 rfl rfl rfl rfl rfl ?_
  refine RunR.load1 tk22 rfl rfl rfl rfl ?_
  refine RunR.fieldAddr fo25_1 rfl rfl rfl rfl rfl ?_
  refine RunR.load1 tk22 rfl rfl rfl rfl ?_
  refine RunR.int rfl rfl rfl rfl rfl ?_
  refine RunR.pickAnd rfl rfl rfl rfl ?_
  refine RunR.move rfl rfl rfl ?_
  refine RunR.fieldAddr fo25_2 rfl rfl rfl rfl rfl ?_
  refine RunR.load1 tk23 rfl rfl rfl rfl ?_
  refine RunR.fieldAddr fo25_2 rfl rfl rfl rfl rfl ?_
  refine RunR.load1 tk23 rfl rfl rfl rfl ?_
  refine RunR.callG rfl rfl rfl (fun hb H => c_slices_Equal_Side N a0.Sides a1.Sides y1 (ifT hy1 gT hb) H) ?_
  refine RunR.pickAnd rfl rfl rfl rfl ?_
  refine RunR.assign rfl rfl rfl ?_
  refine RunR.doneQ (.cons rfl .nil) ?_
  refine Wp.ret ?_
  obtain rfl := Option.some.inj h
  exact Ret.one rfl (resV_tmp rfl) rfl
theorem c_dine_Same (N : Nat) (a0 : TDiner) (a1 : TDiner) (r : Bool) (h : dine_Same N a0 a1 = some r) (H : List Ob) : DCall Try.prog 13 [.agg (eDiner a0), .agg (eDiner a1)] H (.c (B r)) := DCall.lift (by first | rfl | simp [hfVs, hfV, hfL, hfAll, hfRows, mvV, mvL, mvO, mpE, mpV, mpVs, mpO, fzL, rnL, rn0, ok0, nzI, nzB, nzN, nzF, nzP, nzO, nzQ, nzC, shL, shV, shO, okV, okL, okO, List.take_of_length_le, h_Side, hfRows_map h_Side, ok_eSide, okR_eSide, fx_eSide, fxR_eSide, h_Diner, hfRows_map h_Diner, ok_eDiner, okR_eDiner, fx_eDiner, fxR_eDiner, h_Mail, hfRows_map h_Mail, ok_eMail, okR_eMail, fx_eMail, fxR_eMail, h_Msg, hfRows_map h_Msg, ok_eMsg, okR_eMsg, fx_eMsg, fxR_eMsg, -List.map_set]) (by first | rfl | simp [hfVs, hfV, hfL, hfAll, hfRows, mvV, mvL, mvO, mpE, mpV, mpVs, mpO, fzL, rnL, rn0, ok0, nzI, nzB, nzN, nzF, nzP, nzO, nzQ, nzC, shL, shV, shO, okV, okL, okO, List.take_of_length_le, h_Side, hfRows_map h_Side, ok_eSide, okR_eSide, fx_eSide, fxR_eSide, h_Diner, hfRows_map h_Diner, ok_eDiner, okR_eDiner, fx_eDiner, fxR_eDiner, h_Mail, hfRows_map h_Mail, ok_eMail, okR_eMail, fx_eMail, fxR_eMail, h_Msg, hfRows_map h_Msg, ok_eMsg, okR_eMsg, fx_eMsg, fxR_eMsg, -List.map_set]) (fun _ => by simp [hfVs, hfV, hfL, hfAll, hfRows, mvV, mvL, mvO, mpE, mpV, mpVs, mpO, fzL, rnL, rn0, ok0, nzI, nzB, nzN, nzF, nzP, nzO, nzQ, nzC, shL, shV, shO, okV, okL, okO, List.take_of_length_le, h_Side, hfRows_map h_Side, ok_eSide, okR_eSide, fx_eSide, fxR_eSide, h_Diner, hfRows_map h_Diner, ok_eDiner, okR_eDiner, fx_eDiner, fxR_eDiner, h_Mail, hfRows_map h_Mail, ok_eMail, okR_eMail, fx_eMail, fxR_eMail, h_Msg, hfRows_map h_Msg, ok_eMsg, okR_eMsg, fx_eMsg, fxR_eMsg, -List.map_set]) (w_dine_Same N a0 a1 r h) H
-- narthex/narthexlaw13.awake
theorem w_narthexlaw13_awake (N : Nat) (r : Bool) (h : narthexlaw13_awake N = some r) : Nx.Call Try.prog 10 [] [] fun r' _ => r' = .c (B r) := by
  refine Nx.Call.of_body Try.func10 rfl en10 Try.ntmps10 rfl (fun Γ hok => ?_)
  unfold narthexlaw13_awake at h
  refine Wp.seq ?_
  refine Wp.text [] rfl rfl ?_ -- region 0
  refine TextR.assign rfl ?_
  refine TextR.done .nil ?_
  refine Wp.seq ?_
  obtain ⟨y1, hy1, h⟩ := bind_some h
  refine Wp.text [1, 2] rfl rfl ?_ -- region 1
  refine TextR.build cm47 rfl ?_
  refine TextR.buildSlice (rows := [(⟨0, 0, 0, false, false, true, false, false⟩ : TSide)].map eSide) 0 se23 rfl rfl rfl .nil ?_
  refine TextR.build cm25 rfl ?_
  refine TextR.weak (keepW (F := ⟨Try.prog, 126, Γ⟩) (live := [13, 14, 15]) (.cons rfl (.cons rfl (.cons rfl .nil)))) ?_
  refine TextR.weak (freezeW (F := ⟨Try.prog, 126, Γ⟩) (h := 0) (ver := 0) (rows := [(⟨0, 0, 0, false, false, true, false, false⟩ : TSide)].map eSide) (e' := [(13, .agg [I 0, I 0, I 0, B false, B false, B true, B false, B false]), (14, .c (.slv ([(⟨0, 0, 0, false, false, true, false, false⟩ : TSide)].map eSide))), (15, .agg [I 1, I 0, .slv ([(⟨0, 0, 0, false, false, true, false, false⟩ : TSide)].map eSide)])]) (H' := [.dead]) rfl (by first | rfl | simp [hfVs, hfV, hfL, hfAll, hfRows, mvV, mvL, mvO, mpE, mpV, mpVs, mpO, fzL, rnL, rn0, ok0, nzI, nzB, nzN, nzF, nzP, nzO, nzQ, nzC, shL, shV, shO, okV, okL, okO, List.take_of_length_le, h_Side, hfRows_map h_Side, ok_eSide, okR_eSide, fx_eSide, fxR_eSide, h_Diner, hfRows_map h_Diner, ok_eDiner, okR_eDiner, fx_eDiner, fxR_eDiner, h_Mail, hfRows_map h_Mail, ok_eMail, okR_eMail, fx_eMail, fxR_eMail, h_Msg, hfRows_map h_Msg, ok_eMsg, okR_eMsg, fx_eMsg, fxR_eMsg, -List.map_set]) (by first | rfl | simp [hfVs, hfV, hfL, hfAll, hfRows, mvV, mvL, mvO, mpE, mpV, mpVs, mpO, fzL, rnL, rn0, ok0, nzI, nzB, nzN, nzF, nzP, nzO, nzQ, nzC, shL, shV, shO, okV, okL, okO, List.take_of_length_le, h_Side, hfRows_map h_Side, ok_eSide, okR_eSide, fx_eSide, fxR_eSide, h_Diner, hfRows_map h_Diner, ok_eDiner, okR_eDiner, fx_eDiner, fxR_eDiner, h_Mail, hfRows_map h_Mail, ok_eMail, okR_eMail, fx_eMail, fxR_eMail, h_Msg, hfRows_map h_Msg, ok_eMsg, okR_eMsg, fx_eMsg, fxR_eMsg, -List.map_set])) ?_
  refine TextR.dcall rfl rfl (c_dine_Start N (⟨1, 0, [(⟨0, 0, 0, false, false, true, false, false⟩ : TSide)]⟩ : TDiner) y1 hy1 _) ?_
  refine TextR.move rfl ?_
  refine TextR.extract rfl rfl ?_
  refine TextR.extract rfl rfl ?_
  refine TextR.alloc 1 zc25 rfl rfl (.cons .nil) ?_
  refine TextR.store1 tk25 rfl rfl rfl rfl rfl rfl (.succ .zero) ?_
  refine TextR.assign rfl ?_
  refine TextR.done (.cons rfl (.cons rfl .nil)) ?_
  refine Wp.seq ?_
  obtain ⟨y2, hy2, h⟩ := bind_some h
  refine Wp.text [1, 2, 3, 4] rfl rfl ?_ -- region 2
  refine TextR.loadN (cs := [I y1.1.ID, I y1.1.Phase, .slv (y1.1.Sides.map eSide)]) tk25 rfl rfl ?_
  refine TextR.dcall rfl rfl (c_dine_Fire N y1.1 y2 hy2 _) ?_
  refine TextR.move rfl ?_
  refine TextR.extract rfl rfl ?_
  refine TextR.extract rfl rfl ?_
  refine TextR.extract rfl rfl ?_
  refine TextR.store1 tk25 rfl rfl rfl rfl rfl rfl (.succ .zero) ?_
  refine TextR.assign rfl ?_
  refine TextR.assign rfl ?_
  refine TextR.done (.cons rfl (.cons rfl (.cons rfl (.cons rfl .nil)))) ?_
  refine Wp.seq ?_
  obtain ⟨y3, hy3, h⟩ := bind_some h
  refine Wp.text [1, 2, 3, 4, 5] rfl rfl ?_ -- region 3
  refine TextR.loadN (cs := [I y2.1.ID, I y2.1.Phase, .slv (y2.1.Sides.map eSide)]) tk25 rfl rfl ?_
  refine TextR.build cm40 rfl ?_
  refine TextR.dcall rfl rfl (c_dine_Get N y2.1 0 (⟨1, 0, 0⟩ : TMsg) y3 hy3 _) ?_
  refine TextR.move rfl ?_
  refine TextR.extract rfl rfl ?_
  refine TextR.extract rfl rfl ?_
  refine TextR.store1 tk25 rfl rfl rfl rfl rfl rfl (.succ .zero) ?_
  refine TextR.assign rfl ?_
  refine TextR.done (.cons rfl (.cons rfl (.cons rfl (.cons rfl (.cons rfl .nil))))) ?_
  refine Wp.seq ?_
  obtain ⟨y4, hy4, h⟩ := bind_some h
  refine Wp.text [1, 2, 3, 4, 5, 6, 7] rfl rfl ?_ -- region 4
  refine TextR.loadN (cs := [I y3.1.ID, I y3.1.Phase, .slv (y3.1.Sides.map eSide)]) tk25 rfl rfl ?_
  refine TextR.dcall rfl rfl (c_dine_Fire N y3.1 y4 hy4 _) ?_
  refine TextR.move rfl ?_
  refine TextR.extract rfl rfl ?_
  refine TextR.extract rfl rfl ?_
  refine TextR.extract rfl rfl ?_
  refine TextR.store1 tk25 rfl rfl rfl rfl rfl rfl (.succ .zero) ?_
  refine TextR.assign rfl ?_
  refine TextR.assign rfl ?_
  refine TextR.done (.cons rfl (.cons rfl (.cons rfl (.cons rfl (.cons rfl (.cons rfl (.cons rfl .nil))))))) ?_
  refine Wp.seq ?_
  obtain ⟨y5, hy5, h⟩ := bind_some h
  refine Wp.text [1, 2, 3, 4, 5, 6, 7, 8, 9] rfl rfl ?_ -- region 5
  refine TextR.loadN (cs := [I y4.1.ID, I y4.1.Phase, .slv (y4.1.Sides.map eSide)]) tk25 rfl rfl ?_
  refine TextR.dcall rfl rfl (c_dine_Stop N y4.1 y5 hy5 _) ?_
  refine TextR.move rfl ?_
  refine TextR.extract rfl rfl ?_
  refine TextR.extract rfl rfl ?_
  refine TextR.alloc 2 zc25 rfl rfl (.cons (.cons .nil)) ?_
  refine TextR.store1 tk25 rfl rfl rfl rfl rfl rfl (.succ (.succ .zero)) ?_
  refine TextR.assign rfl ?_
  refine TextR.done (.cons rfl (.cons rfl (.cons rfl (.cons rfl (.cons rfl (.cons rfl (.cons rfl (.cons rfl (.cons rfl .nil))))))))) ?_
  refine Wp.seq ?_
  obtain ⟨y6, hy6, h⟩ := bind_some h
  refine Wp.text [1, 2, 3, 4, 5, 6, 7, 8, 9, 11] rfl rfl ?_ -- region 6
  refine TextR.loadN (cs := [I y5.1.ID, I y5.1.Phase, .slv (y5.1.Sides.map eSide)]) tk25 rfl rfl ?_
  refine TextR.dcall rfl rfl (c_dine_Stop N y5.1 y6 hy6 _) ?_
  refine TextR.move rfl ?_
  refine TextR.extract rfl rfl ?_
  refine TextR.extract rfl rfl ?_
  refine TextR.alloc 3 zc25 rfl rfl (.cons (.cons (.cons .nil))) ?_
  refine TextR.store1 tk25 rfl rfl rfl rfl rfl rfl (.succ (.succ (.succ .zero))) ?_
  refine TextR.assign rfl ?_
  refine TextR.done (.cons rfl (.cons rfl (.cons rfl (.cons rfl (.cons rfl (.cons rfl (.cons rfl (.cons rfl (.cons rfl (.cons rfl .nil)))))))))) ?_
  refine Wp.seq ?_
  obtain ⟨x7, hx7, h⟩ := bind_some h
  obtain ⟨x8, hx8, h⟩ := bind_some h
  obtain ⟨y9, hy9, h⟩ := bind_some h
  obtain ⟨y10, hy10, h⟩ := bind_some h
  obtain ⟨y11, hy11, h⟩ := bind_some h
  refine Wp.go false none [[], [], [], [(49, true)], [(49, true)], [], [], [(53, true)], [(53, true)], [(53, true)], [], [], [(58, true)], [(58, true)], [(58, true)], [(58, true)], [(58, true)], [(58, true)], [], [], [(66, true)], [(66, true)], [], [], [(70, true)], [(70, true)], [], [], [(74, true)], [(74, true)], [(74, true)], [], [], [(79, true)], [(79, true)], [(79, true)], [], [], [(84, true)], [(84, true)], [(84, true)], [(84, true)], [], [], [(90, true)], [(90, true)], [(90, true)], [(90, true)], [(90, true)], [], [], [(97, true)], [(97, true)], [], [], [(101, true)], [(101, true)], [(101, true)], [], [], [(106, true)], [(106, true)], [], [], [(110, true)], [(110, true)], [(110, true)], [], [], [(115, true)], [(115, true)], [(115, true)], [], [], [(120, true)], [(120, true)], [(120, true)], [(120, true)], [], []] [] [0] mixed rfl rfl (by kernel_rfl) ?_ -- region 7
  refine RunR.move rfl rfl rfl ?_
  refine RunR.int rfl rfl rfl rfl rfl ?_
  refine RunR.move rfl rfl rfl ?_
  refine RunR.move rfl rfl rfl ?_
  refine RunR.int rfl rfl rfl rfl rfl ?_
  refine RunR.pickAnd rfl rfl rfl rfl ?_
  refine RunR.move rfl rfl rfl ?_
  refine RunR.move rfl rfl rfl ?_
  refine RunR.lenM us27 rfl rfl rfl rfl ?_
  refine RunR.int rfl rfl rfl rfl rfl ?_
  refine RunR.pickAnd rfl rfl rfl rfl ?_
  refine RunR.move rfl rfl rfl ?_
  refine RunR.move rfl rfl rfl ?_
  refine RunR.indexAG se27 rfl rfl rfl rfl rfl (ifPos hx7 gT) (ifAt hx7 gT) rfl ?_
  refine RunR.loadNG tk49 rfl rfl rfl (ifAt hx7 gT) rfl ?_
  refine RunR.build cm40 rfl rfl rfl ?_
  refine RunR.build cm49 rfl rfl rfl ?_
  refine RunR.eqAgg eqs49 rfl rfl rfl rfl (q_Mail x7 (⟨1, 0, (⟨2, 0, 0⟩ : TMsg)⟩ : TMail)) ?_
  refine RunR.pickAnd rfl rfl rfl rfl ?_
  refine RunR.move rfl rfl rfl ?_
  refine RunR.move rfl rfl rfl ?_
  refine RunR.int rfl rfl rfl rfl rfl ?_
  refine RunR.pickAnd rfl rfl rfl rfl ?_
  refine RunR.move rfl rfl rfl ?_
  refine RunR.move rfl rfl rfl ?_
  refine RunR.int rfl rfl rfl rfl rfl ?_
  refine RunR.pickAnd rfl rfl rfl rfl ?_
  refine RunR.move rfl rfl rfl ?_
  refine RunR.move rfl rfl rfl ?_
  refine RunR.lenM us27 rfl rfl rfl rfl ?_
  refine RunR.int rfl rfl rfl rfl rfl ?_
  refine RunR.pickAnd rfl rfl rfl rfl ?_
  refine RunR.move rfl rfl rfl ?_
  refine RunR.fieldAddr fo25_1 rfl rfl rfl rfl rfl ?_
  refine RunR.load1 tk22 rfl rfl rfl rfl ?_
  refine RunR.int rfl rfl rfl rfl rfl ?_
  refine RunR.pickAnd rfl rfl rfl rfl ?_
  refine RunR.move rfl rfl rfl ?_
  refine RunR.fieldAddr fo25_2 rfl rfl rfl rfl rfl ?_
  refine RunR.load1 tk23 rfl rfl rfl rfl ?_
  refine RunR.lenM us23 rfl rfl rfl rfl ?_
  refine RunR.int rfl rfl rfl rfl rfl ?_
  refine RunR.pickAnd rfl rfl rfl rfl ?_
  refine RunR.move rfl rfl rfl ?_
  refine RunR.fieldAddr fo25_2 rfl rfl rfl rfl rfl ?_
  refine RunR.load1 tk23 rfl rfl rfl rfl ?_
  refine RunR.indexAG se23 rfl rfl rfl rfl rfl (ifPos hx8 gT) (ifAt hx8 gT) rfl ?_
  refine RunR.fieldAddr fo47_4 rfl rfl rfl rfl rfl ?_
  refine RunR.load1G tk4 rfl rfl rfl (ifAt hx8 gT) rfl ?_
  refine RunR.pickAnd rfl rfl rfl rfl ?_
  refine RunR.move rfl rfl rfl ?_
  refine RunR.move rfl rfl rfl ?_
  refine RunR.int rfl rfl rfl rfl rfl ?_
  refine RunR.pickAnd rfl rfl rfl rfl ?_
  refine RunR.move rfl rfl rfl ?_
  refine RunR.fieldAddr fo25_1 rfl rfl rfl rfl rfl ?_
  refine RunR.load1 tk22 rfl rfl rfl rfl ?_
  refine RunR.int rfl rfl rfl rfl rfl ?_
  refine RunR.pickAnd rfl rfl rfl rfl ?_
  refine RunR.move rfl rfl rfl ?_
  refine RunR.move rfl rfl rfl ?_
  refine RunR.int rfl rfl rfl rfl rfl ?_
  refine RunR.pickAnd rfl rfl rfl rfl ?_
  refine RunR.move rfl rfl rfl ?_
  refine RunR.loadN (cs := [I y4.1.ID, I y4.1.Phase, .slv (y4.1.Sides.map eSide)]) tk25 rfl rfl rfl rfl ?_
  refine RunR.callG rfl rfl rfl (fun hb H => c_dine_Check N y4.1 y9 (ifT hy9 gT hb) H) ?_
  refine RunR.int rfl rfl rfl rfl rfl ?_
  refine RunR.pickAnd rfl rfl rfl rfl ?_
  refine RunR.move rfl rfl rfl ?_
  refine RunR.loadN (cs := [I y4.1.ID, I y4.1.Phase, .slv (y4.1.Sides.map eSide)]) tk25 rfl rfl rfl rfl ?_
  refine RunR.loadN (cs := [I y4.1.ID, I y4.1.Phase, .slv (y4.1.Sides.map eSide)]) tk25 rfl rfl rfl rfl ?_
  refine RunR.callG rfl rfl rfl (fun hb H => c_dine_Same N y4.1 y4.1 y10 (ifT hy10 gT hb) H) ?_
  refine RunR.pickAnd rfl rfl rfl rfl ?_
  refine RunR.move rfl rfl rfl ?_
  refine RunR.loadN (cs := [I y4.1.ID, I y4.1.Phase, .slv (y4.1.Sides.map eSide)]) tk25 rfl rfl rfl rfl ?_
  refine RunR.loadN (cs := [I y5.1.ID, I y5.1.Phase, .slv (y5.1.Sides.map eSide)]) tk25 rfl rfl rfl rfl ?_
  refine RunR.callG rfl rfl rfl (fun hb H => c_dine_Same N y4.1 y5.1 y11 (ifT hy11 gT hb) H) ?_
  refine RunR.not rfl rfl rfl ?_
  refine RunR.pickAnd rfl rfl rfl rfl ?_
  refine RunR.assign rfl rfl rfl ?_
  refine RunR.doneQ (.cons rfl .nil) ?_
  refine Wp.ret ?_
  obtain rfl := Option.some.inj h
  exact Ret.one rfl (resV_tmp rfl) rfl
theorem c_narthexlaw13_awake (N : Nat) (r : Bool) (h : narthexlaw13_awake N = some r) (H : List Ob) : DCall Try.prog 10 [] H (.c (B r)) := DCall.lift (by first | rfl | simp [hfVs, hfV, hfL, hfAll, hfRows, mvV, mvL, mvO, mpE, mpV, mpVs, mpO, fzL, rnL, rn0, ok0, nzI, nzB, nzN, nzF, nzP, nzO, nzQ, nzC, shL, shV, shO, okV, okL, okO, List.take_of_length_le, h_Side, hfRows_map h_Side, ok_eSide, okR_eSide, fx_eSide, fxR_eSide, h_Diner, hfRows_map h_Diner, ok_eDiner, okR_eDiner, fx_eDiner, fxR_eDiner, h_Mail, hfRows_map h_Mail, ok_eMail, okR_eMail, fx_eMail, fxR_eMail, h_Msg, hfRows_map h_Msg, ok_eMsg, okR_eMsg, fx_eMsg, fxR_eMsg, -List.map_set]) (by first | rfl | simp [hfVs, hfV, hfL, hfAll, hfRows, mvV, mvL, mvO, mpE, mpV, mpVs, mpO, fzL, rnL, rn0, ok0, nzI, nzB, nzN, nzF, nzP, nzO, nzQ, nzC, shL, shV, shO, okV, okL, okO, List.take_of_length_le, h_Side, hfRows_map h_Side, ok_eSide, okR_eSide, fx_eSide, fxR_eSide, h_Diner, hfRows_map h_Diner, ok_eDiner, okR_eDiner, fx_eDiner, fxR_eDiner, h_Mail, hfRows_map h_Mail, ok_eMail, okR_eMail, fx_eMail, fxR_eMail, h_Msg, hfRows_map h_Msg, ok_eMsg, okR_eMsg, fx_eMsg, fxR_eMsg, -List.map_set]) (fun _ => by simp [hfVs, hfV, hfL, hfAll, hfRows, mvV, mvL, mvO, mpE, mpV, mpVs, mpO, fzL, rnL, rn0, ok0, nzI, nzB, nzN, nzF, nzP, nzO, nzQ, nzC, shL, shV, shO, okV, okL, okO, List.take_of_length_le, h_Side, hfRows_map h_Side, ok_eSide, okR_eSide, fx_eSide, fxR_eSide, h_Diner, hfRows_map h_Diner, ok_eDiner, okR_eDiner, fx_eDiner, fxR_eDiner, h_Mail, hfRows_map h_Mail, ok_eMail, okR_eMail, fx_eMail, fxR_eMail, h_Msg, hfRows_map h_Msg, ok_eMsg, okR_eMsg, fx_eMsg, fxR_eMsg, -List.map_set]) (w_narthexlaw13_awake N r h) H
-- narthex/narthexlaw13.Own
theorem w_narthexlaw13_Own (N : Nat) (a0 : TDiner) (r : TDiner) (h : narthexlaw13_Own N a0 = some r) : Nx.Call Try.prog 12 [.agg (eDiner a0)] [] fun r' _ => r' = .agg (eDiner r) := by
  refine Nx.Call.of_body Try.func12 rfl en12 Try.ntmps12 rfl (fun Γ hok => ?_)
  unfold narthexlaw13_Own at h
  refine Wp.seq ?_
  refine Wp.text [1, 2] rfl rfl ?_ -- region 0
  refine TextR.box (cs := [I a0.ID, I a0.Phase, .slv (a0.Sides.map eSide)]) 0 rfl rfl rfl rfl .nil ?_
  refine TextR.alloc 1 zc25 rfl rfl (.cons .nil) ?_
  refine TextR.done (.cons rfl (.cons rfl .nil)) ?_
  refine Wp.seq ?_
  obtain ⟨x1, hx1, h⟩ := bind_some h
  refine Wp.text [1, 2] rfl rfl ?_ -- region 1
  refine TextR.buildSlice  2 se23 rfl rfl rfl (.cons (.cons .nil)) ?_
  refine TextR.fieldAddr fo25_2 rfl rfl rfl ?_
  refine TextR.load1 tk23 rfl rfl ?_
  refine TextR.appendM eSide ([] : List TSide) a0.Sides x1 (app_eq hx1) se23 rfl rfl rfl rfl (fun _ => rfl) rfl (app_len hx1) (.succ (.succ .zero)) ?_
  refine TextR.fieldAddr fo25_2 rfl rfl rfl ?_
  refine TextR.storeF (r' := [I a0.ID, I a0.Phase, .sl 2 1 0 x1.length]) tk23 rfl rfl rfl rfl rfl rfl rfl .zero ?_
  refine TextR.done (.cons rfl (.cons rfl .nil)) ?_
  refine Wp.seq ?_
  refine Wp.text [2] rfl rfl ?_ -- region 2
  refine TextR.loadN (cs := [I a0.ID, I a0.Phase, .sl 2 1 0 x1.length]) tk25 rfl rfl ?_
  refine TextR.store1 tk25 rfl rfl rfl rfl rfl rfl (.succ .zero) ?_
  refine TextR.done (.cons rfl .nil) ?_
  refine Wp.weak (keepW (live := [2] ) (.cons rfl .nil)) ?_
  refine Wp.weak (freezeW (h := 2) (ver := 1) (rows := x1.map eSide) (e' := [(2, .c (.ptr 1 0 0 0))]) (H' := [.live 0 3 [[I a0.ID, I a0.Phase, .slv (x1.map eSide)]], .live 0 3 [[I a0.ID, I a0.Phase, .slv (x1.map eSide)]], .dead]) rfl (by first | rfl | simp [hfVs, hfV, hfL, hfAll, hfRows, mvV, mvL, mvO, mpE, mpV, mpVs, mpO, fzL, rnL, rn0, ok0, nzI, nzB, nzN, nzF, nzP, nzO, nzQ, nzC, shL, shV, shO, okV, okL, okO, List.take_of_length_le, h_Side, hfRows_map h_Side, ok_eSide, okR_eSide, fx_eSide, fxR_eSide, h_Diner, hfRows_map h_Diner, ok_eDiner, okR_eDiner, fx_eDiner, fxR_eDiner, h_Mail, hfRows_map h_Mail, ok_eMail, okR_eMail, fx_eMail, fxR_eMail, h_Msg, hfRows_map h_Msg, ok_eMsg, okR_eMsg, fx_eMsg, fxR_eMsg, -List.map_set]) (by first | rfl | simp [hfVs, hfV, hfL, hfAll, hfRows, mvV, mvL, mvO, mpE, mpV, mpVs, mpO, fzL, rnL, rn0, ok0, nzI, nzB, nzN, nzF, nzP, nzO, nzQ, nzC, shL, shV, shO, okV, okL, okO, List.take_of_length_le, h_Side, hfRows_map h_Side, ok_eSide, okR_eSide, fx_eSide, fxR_eSide, h_Diner, hfRows_map h_Diner, ok_eDiner, okR_eDiner, fx_eDiner, fxR_eDiner, h_Mail, hfRows_map h_Mail, ok_eMail, okR_eMail, fx_eMail, fxR_eMail, h_Msg, hfRows_map h_Msg, ok_eMsg, okR_eMsg, fx_eMsg, fxR_eMsg, -List.map_set])) ?_
  refine Wp.ret ?_
  obtain rfl := Option.some.inj h
  exact Ret.one rfl (resV_cellN tk25 rfl rfl) rfl
theorem c_narthexlaw13_Own (N : Nat) (a0 : TDiner) (r : TDiner) (h : narthexlaw13_Own N a0 = some r) (H : List Ob) : DCall Try.prog 12 [.agg (eDiner a0)] H (.agg (eDiner r)) := DCall.lift (by first | rfl | simp [hfVs, hfV, hfL, hfAll, hfRows, mvV, mvL, mvO, mpE, mpV, mpVs, mpO, fzL, rnL, rn0, ok0, nzI, nzB, nzN, nzF, nzP, nzO, nzQ, nzC, shL, shV, shO, okV, okL, okO, List.take_of_length_le, h_Side, hfRows_map h_Side, ok_eSide, okR_eSide, fx_eSide, fxR_eSide, h_Diner, hfRows_map h_Diner, ok_eDiner, okR_eDiner, fx_eDiner, fxR_eDiner, h_Mail, hfRows_map h_Mail, ok_eMail, okR_eMail, fx_eMail, fxR_eMail, h_Msg, hfRows_map h_Msg, ok_eMsg, okR_eMsg, fx_eMsg, fxR_eMsg, -List.map_set]) (by first | rfl | simp [hfVs, hfV, hfL, hfAll, hfRows, mvV, mvL, mvO, mpE, mpV, mpVs, mpO, fzL, rnL, rn0, ok0, nzI, nzB, nzN, nzF, nzP, nzO, nzQ, nzC, shL, shV, shO, okV, okL, okO, List.take_of_length_le, h_Side, hfRows_map h_Side, ok_eSide, okR_eSide, fx_eSide, fxR_eSide, h_Diner, hfRows_map h_Diner, ok_eDiner, okR_eDiner, fx_eDiner, fxR_eDiner, h_Mail, hfRows_map h_Mail, ok_eMail, okR_eMail, fx_eMail, fxR_eMail, h_Msg, hfRows_map h_Msg, ok_eMsg, okR_eMsg, fx_eMsg, fxR_eMsg, -List.map_set]) (fun _ => by simp [hfVs, hfV, hfL, hfAll, hfRows, mvV, mvL, mvO, mpE, mpV, mpVs, mpO, fzL, rnL, rn0, ok0, nzI, nzB, nzN, nzF, nzP, nzO, nzQ, nzC, shL, shV, shO, okV, okL, okO, List.take_of_length_le, h_Side, hfRows_map h_Side, ok_eSide, okR_eSide, fx_eSide, fxR_eSide, h_Diner, hfRows_map h_Diner, ok_eDiner, okR_eDiner, fx_eDiner, fxR_eDiner, h_Mail, hfRows_map h_Mail, ok_eMail, okR_eMail, fx_eMail, fxR_eMail, h_Msg, hfRows_map h_Msg, ok_eMsg, okR_eMsg, fx_eMsg, fxR_eMsg, -List.map_set]) (w_narthexlaw13_Own N a0 r h) H
-- narthex/narthexref12.SameOne
theorem w_narthexref12_SameOne (N : Nat) (a0 : TDiner) (a1 : TDiner) (r : Bool) (h : narthexref12_SameOne N a0 a1 = some r) : Nx.Call Try.prog 14 [.agg (eDiner a0), .agg (eDiner a1)] [] fun r' _ => r' = .c (B r) := by
  refine Nx.Call.of_body Try.func14 rfl en14 Try.ntmps14 rfl (fun Γ hok => ?_)
  unfold narthexref12_SameOne at h
  refine Wp.seq ?_
  refine Wp.text [2, 3] rfl rfl ?_ -- region 0
  refine TextR.box (cs := [I a0.ID, I a0.Phase, .slv (a0.Sides.map eSide)]) 0 rfl rfl rfl rfl .nil ?_
  refine TextR.box (cs := [I a1.ID, I a1.Phase, .slv (a1.Sides.map eSide)]) 1 rfl rfl rfl rfl (.cons .nil) ?_
  refine TextR.assign rfl ?_
  refine TextR.done (.cons rfl (.cons rfl .nil)) ?_
  refine Wp.seq ?_
  refine Wp.seq ?_
  refine Wp.go false none [[], [], [], [], [], [], [(11, false)], [(11, false)], [(11, false)], [(11, false)], [(11, false)], [], [], [(18, false)], [(18, false)], [(18, false)], [(18, false)], [(18, false)], [(18, false)], [(18, false)], []] [] [2, 3, 26] mixed rfl rfl (by kernel_rfl) ?_ -- region 1
  refine RunR.fieldAddr fo25_0 rfl rfl rfl rfl rfl ?_
  refine RunR.load1 tk3 rfl rfl rfl rfl ?_
  refine RunR.fieldAddr fo25_0 rfl rfl rfl rfl rfl ?_
  refine RunR.load1 tk3 rfl rfl rfl rfl ?_
  refine RunR.int rfl rfl rfl rfl rfl ?_
  refine RunR.move rfl rfl rfl ?_
  refine RunR.fieldAddr fo25_1 rfl rfl rfl rfl rfl ?_
  refine RunR.load1 tk22 rfl rfl rfl rfl ?_
  refine RunR.fieldAddr fo25_1 rfl rfl rfl rfl rfl ?_
  refine RunR.load1 tk22 rfl rfl rfl rfl ?_
  refine RunR.int rfl rfl rfl rfl rfl ?_
  refine RunR.pickOr rfl rfl rfl rfl ?_
  refine RunR.move rfl rfl rfl ?_
  refine RunR.fieldAddr fo25_2 rfl rfl rfl rfl rfl ?_
  refine RunR.load1 tk23 rfl rfl rfl rfl ?_
  refine RunR.lenM us23 rfl rfl rfl rfl ?_
  refine RunR.fieldAddr fo25_2 rfl rfl rfl rfl rfl ?_
  refine RunR.load1 tk23 rfl rfl rfl rfl ?_
  refine RunR.lenM us23 rfl rfl rfl rfl ?_
  refine RunR.int rfl rfl rfl rfl rfl ?_
  refine RunR.pickOr rfl rfl rfl rfl ?_
  refine RunR.doneQ (.cons rfl (.cons rfl (.cons rfl .nil))) ?_
  refine Wp.condM h rfl (fun hc1 h => ?_) (fun hc1 h => ?_)
  · refine Wp.seq ?_
    refine Wp.text [4] rfl rfl ?_ -- region 2
    refine TextR.assign rfl ?_
    refine TextR.done (.cons rfl .nil) ?_
    refine Wp.ret ?_
    obtain rfl := Option.some.inj h
    exact Ret.one rfl (resV_tmp rfl) rfl
  · refine Wp.skip ?_
    refine Wp.seq ?_
    refine Wp.seq ?_
    refine Wp.text [2, 3, 5] rfl rfl ?_ -- region 3
    refine TextR.assign rfl ?_
    refine TextR.done (.cons rfl (.cons rfl (.cons rfl .nil))) ?_
    obtain ⟨z1, hz1, h⟩ := bind_some h
    refine Wp.fragR (fun S => ∃ z3, z1 = .inr z3 ∧ ∃ S', St.Weak ⟨Try.prog, 45, Γ⟩ S S' ∧ S' = ⟨[], []⟩) (fun S => ∃ v, z1 = .inl v ∧ Ret Try.prog Try.f14 (fun r' _ => r' = .c (B v)) .ret S) ?_ ?_ ?_
    · replace h := hz1
      refine Wp.block ?_
      refine Wp.weak (keepW (live := [2, 3, 5]) (.cons rfl (.cons rfl (.cons rfl .nil)))) ?_
      refine Wp.loop (fun m S => ∃ s5_1, narthexref12_SameOne_L1 N a0 a1 m s5_1 = some z1 ∧ S = ⟨[(2, .c (.ptr 0 0 0 0)), (3, .c (.ptr 1 0 0 0)), (5, .c (I s5_1))], [.live 0 3 [[I a0.ID, I a0.Phase, .slv (a0.Sides.map eSide)]], .live 0 3 [[I a1.ID, I a1.Phase, .slv (a1.Sides.map eSide)]]]⟩) N ⟨_, h, rfl⟩ ?_
      rintro m1 _ ⟨s5_1, h, rfl⟩
      cases m1 with
      | zero => rw [narthexref12_SameOne_L1.eq_1] at h; cases h
      | succ m1 =>
      rw [narthexref12_SameOne_L1.eq_2] at h
      refine Wp.seq ?_
      refine Wp.seq ?_
      refine Wp.text [2, 3, 5, 31] rfl rfl ?_ -- region 4
      refine TextR.move rfl ?_
      refine TextR.fieldAddr fo25_2 rfl rfl rfl ?_
      refine TextR.load1 tk23 rfl rfl ?_
      refine TextR.lenM us23 rfl rfl ?_
      refine TextR.int rfl rfl rfl ?_
      refine TextR.done (.cons rfl (.cons rfl (.cons rfl (.cons rfl .nil)))) ?_
      refine Wp.condM h rfl (fun hc3 h => ?_) (fun hc3 h => ?_)
      · refine Wp.skip ?_
        refine Wp.seq ?_
        refine Wp.block ?_
        refine Wp.seq ?_
        obtain ⟨x4, hx4, h⟩ := bind_some h
        obtain ⟨x5, hx5, h⟩ := bind_some h
        refine Wp.go true (some []) [] [] [2, 3, 5, 44] mixed rfl rfl (by kernel_rfl) ?_ -- region 6
        refine RunR.fieldAddr fo25_2 rfl rfl rfl rfl rfl ?_
        refine RunR.load1 tk23 rfl rfl rfl rfl ?_
        refine RunR.move rfl rfl rfl ?_
        refine RunR.indexA se23 rfl rfl rfl rfl rfl hx4 rfl ?_
        refine RunR.loadNM tk47 rfl rfl rfl (at_get hx4) rfl ?_
        refine RunR.fieldAddr fo25_2 rfl rfl rfl rfl rfl ?_
        refine RunR.load1 tk23 rfl rfl rfl rfl ?_
        refine RunR.move rfl rfl rfl ?_
        refine RunR.indexA se23 rfl rfl rfl rfl rfl hx5 rfl ?_
        refine RunR.loadNM tk47 rfl rfl rfl (at_get hx5) rfl ?_
        refine RunR.neAgg eqs47 rfl rfl rfl rfl (q_Side x4 x5) ?_
        refine RunR.doneQ (.cons rfl (.cons rfl (.cons rfl (.cons rfl .nil)))) ?_
        refine Wp.condM h rfl (fun hc4 h => ?_) (fun hc4 h => ?_)
        · refine Wp.seq ?_
          refine Wp.text [4] rfl rfl ?_ -- region 7
          refine TextR.assign rfl ?_
          refine TextR.done (.cons rfl .nil) ?_
          refine Wp.ret ?_
          exact ⟨_, (Option.some.inj h).symm, Ret.one rfl (resV_tmp rfl) rfl⟩
        · refine Wp.skip ?_
          refine Wp.text [2, 3, 5] rfl rfl ?_ -- region 5
          refine TextR.move rfl ?_
          refine TextR.int rfl rfl rfl ?_
          refine TextR.assign rfl ?_
          refine TextR.done (.cons rfl (.cons rfl (.cons rfl .nil))) ?_
          exact ⟨m1, Nat.lt_succ_self _, _, (keepW (live := [2, 3, 5]) (.cons rfl (.cons rfl (.cons rfl .nil)))), _, h, rfl⟩
      · refine Wp.exit ?_
        exact ⟨_, (Option.some.inj h).symm, _, (St.Weak.trans (keepW (live := []) .nil) (pickT (e' := []) (H' := []) [] [0, 0] 0 hok.len.symm rfl rfl (by decide) (by first | rfl | simp [hfVs, hfV, hfL, hfAll, hfRows, mvV, mvL, mvO, mpE, mpV, mpVs, mpO, fzL, rnL, rn0, ok0, nzI, nzB, nzN, nzF, nzP, nzO, nzQ, nzC, shL, shV, shO, okV, okL, okO, List.take_of_length_le, h_Side, hfRows_map h_Side, ok_eSide, okR_eSide, fx_eSide, fxR_eSide, h_Diner, hfRows_map h_Diner, ok_eDiner, okR_eDiner, fx_eDiner, fxR_eDiner, h_Mail, hfRows_map h_Mail, ok_eMail, okR_eMail, fx_eMail, fxR_eMail, h_Msg, hfRows_map h_Msg, ok_eMsg, okR_eMsg, fx_eMsg, fxR_eMsg, -List.map_set]) (by first | rfl | simp [hfVs, hfV, hfL, hfAll, hfRows, mvV, mvL, mvO, mpE, mpV, mpVs, mpO, fzL, rnL, rn0, ok0, nzI, nzB, nzN, nzF, nzP, nzO, nzQ, nzC, shL, shV, shO, okV, okL, okO, List.take_of_length_le, h_Side, hfRows_map h_Side, ok_eSide, okR_eSide, fx_eSide, fxR_eSide, h_Diner, hfRows_map h_Diner, ok_eDiner, okR_eDiner, fx_eDiner, fxR_eDiner, h_Mail, hfRows_map h_Mail, ok_eMail, okR_eMail, fx_eMail, fxR_eMail, h_Msg, hfRows_map h_Msg, ok_eMsg, okR_eMsg, fx_eMsg, fxR_eMsg, -List.map_set]) (by first | rfl | simp [hfVs, hfV, hfL, hfAll, hfRows, mvV, mvL, mvO, mpE, mpV, mpVs, mpO, fzL, rnL, rn0, ok0, nzI, nzB, nzN, nzF, nzP, nzO, nzQ, nzC, shL, shV, shO, okV, okL, okO, List.take_of_length_le, h_Side, hfRows_map h_Side, ok_eSide, okR_eSide, fx_eSide, fxR_eSide, h_Diner, hfRows_map h_Diner, ok_eDiner, okR_eDiner, fx_eDiner, fxR_eDiner, h_Mail, hfRows_map h_Mail, ok_eMail, okR_eMail, fx_eMail, fxR_eMail, h_Msg, hfRows_map h_Msg, ok_eMsg, okR_eMsg, fx_eMsg, fxR_eMsg, -List.map_set]) (by first | rfl | simp [hfVs, hfV, hfL, hfAll, hfRows, mvV, mvL, mvO, mpE, mpV, mpVs, mpO, fzL, rnL, rn0, ok0, nzI, nzB, nzN, nzF, nzP, nzO, nzQ, nzC, shL, shV, shO, okV, okL, okO, List.take_of_length_le, h_Side, hfRows_map h_Side, ok_eSide, okR_eSide, fx_eSide, fxR_eSide, h_Diner, hfRows_map h_Diner, ok_eDiner, okR_eDiner, fx_eDiner, fxR_eDiner, h_Mail, hfRows_map h_Mail, ok_eMail, okR_eMail, fx_eMail, fxR_eMail, h_Msg, hfRows_map h_Msg, ok_eMsg, okR_eMsg, fx_eMsg, fxR_eMsg, -List.map_set]))), rfl⟩
    · rintro _ ⟨z3, rfl, _, hw, rfl⟩
      dsimp only at h
      clear hz1
      refine Wp.weak hw ?_
      refine Wp.seq ?_
      refine Wp.text [4] rfl rfl ?_ -- region 8
      refine TextR.assign rfl ?_
      refine TextR.done (.cons rfl .nil) ?_
      refine Wp.ret ?_
      obtain rfl := Option.some.inj h
      exact Ret.one rfl (resV_tmp rfl) rfl
    · rintro S' ⟨r2, rfl, hR⟩
      dsimp only at h
      obtain rfl := Option.some.inj h
      exact hR
theorem c_narthexref12_SameOne (N : Nat) (a0 : TDiner) (a1 : TDiner) (r : Bool) (h : narthexref12_SameOne N a0 a1 = some r) (H : List Ob) : DCall Try.prog 14 [.agg (eDiner a0), .agg (eDiner a1)] H (.c (B r)) := DCall.lift (by first | rfl | simp [hfVs, hfV, hfL, hfAll, hfRows, mvV, mvL, mvO, mpE, mpV, mpVs, mpO, fzL, rnL, rn0, ok0, nzI, nzB, nzN, nzF, nzP, nzO, nzQ, nzC, shL, shV, shO, okV, okL, okO, List.take_of_length_le, h_Side, hfRows_map h_Side, ok_eSide, okR_eSide, fx_eSide, fxR_eSide, h_Diner, hfRows_map h_Diner, ok_eDiner, okR_eDiner, fx_eDiner, fxR_eDiner, h_Mail, hfRows_map h_Mail, ok_eMail, okR_eMail, fx_eMail, fxR_eMail, h_Msg, hfRows_map h_Msg, ok_eMsg, okR_eMsg, fx_eMsg, fxR_eMsg, -List.map_set]) (by first | rfl | simp [hfVs, hfV, hfL, hfAll, hfRows, mvV, mvL, mvO, mpE, mpV, mpVs, mpO, fzL, rnL, rn0, ok0, nzI, nzB, nzN, nzF, nzP, nzO, nzQ, nzC, shL, shV, shO, okV, okL, okO, List.take_of_length_le, h_Side, hfRows_map h_Side, ok_eSide, okR_eSide, fx_eSide, fxR_eSide, h_Diner, hfRows_map h_Diner, ok_eDiner, okR_eDiner, fx_eDiner, fxR_eDiner, h_Mail, hfRows_map h_Mail, ok_eMail, okR_eMail, fx_eMail, fxR_eMail, h_Msg, hfRows_map h_Msg, ok_eMsg, okR_eMsg, fx_eMsg, fxR_eMsg, -List.map_set]) (fun _ => by simp [hfVs, hfV, hfL, hfAll, hfRows, mvV, mvL, mvO, mpE, mpV, mpVs, mpO, fzL, rnL, rn0, ok0, nzI, nzB, nzN, nzF, nzP, nzO, nzQ, nzC, shL, shV, shO, okV, okL, okO, List.take_of_length_le, h_Side, hfRows_map h_Side, ok_eSide, okR_eSide, fx_eSide, fxR_eSide, h_Diner, hfRows_map h_Diner, ok_eDiner, okR_eDiner, fx_eDiner, fxR_eDiner, h_Mail, hfRows_map h_Mail, ok_eMail, okR_eMail, fx_eMail, fxR_eMail, h_Msg, hfRows_map h_Msg, ok_eMsg, okR_eMsg, fx_eMsg, fxR_eMsg, -List.map_set]) (w_narthexref12_SameOne N a0 a1 r h) H
-- narthex/narthexref13.Check
theorem w_narthexref13_Check (N : Nat) (a0 : TDiner) (r : Bool) (h : narthexref13_Check N a0 = some r) : Nx.Call Try.prog 15 [.agg (eDiner a0)] [] fun r' _ => r' = .c (B r) := by
  refine Nx.Call.of_body Try.func15 rfl en15 Try.ntmps15 rfl (fun Γ hok => ?_)
  unfold narthexref13_Check at h
  refine Wp.seq ?_
  refine Wp.text [1] rfl rfl ?_ -- region 0
  refine TextR.box (cs := [I a0.ID, I a0.Phase, .slv (a0.Sides.map eSide)]) 0 rfl rfl rfl rfl .nil ?_
  refine TextR.assign rfl ?_
  refine TextR.done (.cons rfl .nil) ?_
  refine Wp.seq ?_
  refine Wp.seq ?_
  refine Wp.go false none [[], [], [], [], [(8, false)], [(8, false)], [(8, false)], [(8, false)], [(12, true), (8, false)], [(12, true), (8, false)], [(12, true), (8, false)], [(8, false)], [(8, false)], [(17, true), (8, false)], [(17, true), (8, false)], [(17, true), (8, false)], [(8, false)], [], [], [(23, false)], [(23, false)], [(23, false)], [(23, false)], []] [] [1, 28] mixed rfl rfl (by kernel_rfl) ?_ -- region 1
  refine RunR.fieldAddr fo25_0 rfl rfl rfl rfl rfl ?_
  refine RunR.load1 tk3 rfl rfl rfl rfl ?_
  refine RunR.int rfl rfl rfl rfl rfl ?_
  refine RunR.move rfl rfl rfl ?_
  refine RunR.fieldAddr fo25_1 rfl rfl rfl rfl rfl ?_
  refine RunR.load1 tk22 rfl rfl rfl rfl ?_
  refine RunR.int rfl rfl rfl rfl rfl ?_
  refine RunR.move rfl rfl rfl ?_
  refine RunR.fieldAddr fo25_1 rfl rfl rfl rfl rfl ?_
  refine RunR.load1 tk22 rfl rfl rfl rfl ?_
  refine RunR.int rfl rfl rfl rfl rfl ?_
  refine RunR.pickAnd rfl rfl rfl rfl ?_
  refine RunR.move rfl rfl rfl ?_
  refine RunR.fieldAddr fo25_1 rfl rfl rfl rfl rfl ?_
  refine RunR.load1 tk22 rfl rfl rfl rfl ?_
  refine RunR.int rfl rfl rfl rfl rfl ?_
  refine RunR.pickAnd rfl rfl rfl rfl ?_
  refine RunR.pickOr rfl rfl rfl rfl ?_
  refine RunR.move rfl rfl rfl ?_
  refine RunR.fieldAddr fo25_2 rfl rfl rfl rfl rfl ?_
  refine RunR.load1 tk23 rfl rfl rfl rfl ?_
  refine RunR.lenM us23 rfl rfl rfl rfl ?_
  refine RunR.int rfl rfl rfl rfl rfl ?_
  refine RunR.pickOr rfl rfl rfl rfl ?_
  refine RunR.doneQ (.cons rfl (.cons rfl .nil)) ?_
  refine Wp.condM h rfl (fun hc1 h => ?_) (fun hc1 h => ?_)
  · refine Wp.seq ?_
    refine Wp.text [2] rfl rfl ?_ -- region 2
    refine TextR.assign rfl ?_
    refine TextR.done (.cons rfl .nil) ?_
    refine Wp.ret ?_
    obtain rfl := Option.some.inj h
    exact Ret.one rfl (resV_tmp rfl) rfl
  · refine Wp.skip ?_
    refine Wp.seq ?_
    refine Wp.seq ?_
    refine Wp.text [1, 3] rfl rfl ?_ -- region 3
    refine TextR.assign rfl ?_
    refine TextR.done (.cons rfl (.cons rfl .nil)) ?_
    obtain ⟨z1, hz1, h⟩ := bind_some h
    refine Wp.fragR (fun S => ∃ z3, z1 = .inr z3 ∧ ∃ S', St.Weak ⟨Try.prog, 96, Γ⟩ S S' ∧ S' = ⟨[], []⟩) (fun S => ∃ v, z1 = .inl v ∧ Ret Try.prog Try.f15 (fun r' _ => r' = .c (B v)) .ret S) ?_ ?_ ?_
    · replace h := hz1
      refine Wp.block ?_
      refine Wp.weak (keepW (live := [1, 3]) (.cons rfl (.cons rfl .nil))) ?_
      refine Wp.loop (fun m S => ∃ s3_1, narthexref13_Check_L1 N a0 m s3_1 = some z1 ∧ S = ⟨[(1, .c (.ptr 0 0 0 0)), (3, .c (I s3_1))], [.live 0 3 [[I a0.ID, I a0.Phase, .slv (a0.Sides.map eSide)]]]⟩) N ⟨_, h, rfl⟩ ?_
      rintro m1 _ ⟨s3_1, h, rfl⟩
      cases m1 with
      | zero => rw [narthexref13_Check_L1.eq_1] at h; cases h
      | succ m1 =>
      rw [narthexref13_Check_L1.eq_2] at h
      refine Wp.seq ?_
      refine Wp.seq ?_
      refine Wp.text [1, 3, 33] rfl rfl ?_ -- region 4
      refine TextR.move rfl ?_
      refine TextR.fieldAddr fo25_2 rfl rfl rfl ?_
      refine TextR.load1 tk23 rfl rfl ?_
      refine TextR.lenM us23 rfl rfl ?_
      refine TextR.int rfl rfl rfl ?_
      refine TextR.done (.cons rfl (.cons rfl (.cons rfl .nil))) ?_
      refine Wp.condM h rfl (fun hc3 h => ?_) (fun hc3 h => ?_)
      · refine Wp.skip ?_
        refine Wp.seq ?_
        refine Wp.block ?_
        refine Wp.seq ?_
        obtain ⟨x4, hx4, h⟩ := bind_some h
        refine Wp.text [1, 3, 4] rfl rfl ?_ -- region 6
        refine TextR.fieldAddr fo25_2 rfl rfl rfl ?_
        refine TextR.load1 tk23 rfl rfl ?_
        refine TextR.move rfl ?_
        refine TextR.indexA se23 rfl rfl rfl hx4 rfl ?_
        refine TextR.loadNM tk47 rfl (at_get hx4) rfl ?_
        refine TextR.alloc 1 zc47 rfl rfl (.cons .nil) ?_
        refine TextR.store1 tk47 rfl rfl rfl rfl rfl rfl (.succ .zero) ?_
        refine TextR.done (.cons rfl (.cons rfl (.cons rfl .nil))) ?_
        refine Wp.seq ?_
        obtain ⟨x5, hx5, h⟩ := bind_some h
        refine Wp.go true (some []) [[], [], [], [], [(44, false)], [(44, false)], [(44, false)], [(44, false)], [(44, false)], [], [], [(51, false)], [(51, false)], [(51, false)], [(54, true), (51, false)], [(54, true), (51, false)], [(54, true), (51, false)], [(54, true), (51, false)], [(54, true), (51, false)], [(54, true), (51, false)], [(54, true), (51, false)], [(54, true), (51, false)], [(54, true), (51, false)], [(54, true), (51, false)], [(51, false)], [], [], [(67, false)], [(67, false)], [(67, false)], [], [], [(72, false)], [(72, false)], [(72, false)], [], [], [(77, false)], [(77, false)], [(77, false)], [], [], [(82, false)], [(82, false)], [(82, false)], [], [], [(87, false)], [(87, false)], [(87, false)], [(90, true), (87, false)], [(90, true), (87, false)], [(90, true), (87, false)], [(87, false)], []] [] [1, 3, 95] mixed rfl rfl (by kernel_rfl) ?_ -- region 7
        refine RunR.fieldAddr fo47_0 rfl rfl rfl rfl rfl ?_
        refine RunR.load1 tk3 rfl rfl rfl rfl ?_
        refine RunR.int rfl rfl rfl rfl rfl ?_
        refine RunR.move rfl rfl rfl ?_
        refine RunR.fieldAddr fo47_0 rfl rfl rfl rfl rfl ?_
        refine RunR.load1 tk3 rfl rfl rfl rfl ?_
        refine RunR.fieldAddr fo25_0 rfl rfl rfl rfl rfl ?_
        refine RunR.load1 tk3 rfl rfl rfl rfl ?_
        refine RunR.int rfl rfl rfl rfl rfl ?_
        refine RunR.pickOr rfl rfl rfl rfl ?_
        refine RunR.move rfl rfl rfl ?_
        refine RunR.move rfl rfl rfl ?_
        refine RunR.int rfl rfl rfl rfl rfl ?_
        refine RunR.move rfl rfl rfl ?_
        refine RunR.fieldAddr fo25_2 rfl rfl rfl rfl rfl ?_
        refine RunR.load1 tk23 rfl rfl rfl rfl ?_
        refine RunR.move rfl rfl rfl ?_
        refine RunR.int rfl rfl rfl rfl rfl ?_
        refine RunR.indexAG se23 rfl rfl rfl rfl rfl (ifPos hx5 gT) (ifAt hx5 gT) rfl ?_
        refine RunR.fieldAddr fo47_0 rfl rfl rfl rfl rfl ?_
        refine RunR.load1G tk3 rfl rfl rfl (ifAt hx5 gT) rfl ?_
        refine RunR.fieldAddr fo47_0 rfl rfl rfl rfl rfl ?_
        refine RunR.load1 tk3 rfl rfl rfl rfl ?_
        refine RunR.int rfl rfl rfl rfl rfl ?_
        refine RunR.pickAnd rfl rfl rfl rfl ?_
        refine RunR.pickOr rfl rfl rfl rfl ?_
        refine RunR.move rfl rfl rfl ?_
        refine RunR.fieldAddr fo47_1 rfl rfl rfl rfl rfl ?_
        refine RunR.load1 tk3 rfl rfl rfl rfl ?_
        refine RunR.int rfl rfl rfl rfl rfl ?_
        refine RunR.pickOr rfl rfl rfl rfl ?_
        refine RunR.move rfl rfl rfl ?_
        refine RunR.fieldAddr fo47_1 rfl rfl rfl rfl rfl ?_
        refine RunR.load1 tk3 rfl rfl rfl rfl ?_
        refine RunR.int rfl rfl rfl rfl rfl ?_
        refine RunR.pickOr rfl rfl rfl rfl ?_
        refine RunR.move rfl rfl rfl ?_
        refine RunR.fieldAddr fo47_2 rfl rfl rfl rfl rfl ?_
        refine RunR.load1 tk45 rfl rfl rfl rfl ?_
        refine RunR.int rfl rfl rfl rfl rfl ?_
        refine RunR.pickOr rfl rfl rfl rfl ?_
        refine RunR.move rfl rfl rfl ?_
        refine RunR.fieldAddr fo47_2 rfl rfl rfl rfl rfl ?_
        refine RunR.load1 tk45 rfl rfl rfl rfl ?_
        refine RunR.int rfl rfl rfl rfl rfl ?_
        refine RunR.pickOr rfl rfl rfl rfl ?_
        refine RunR.move rfl rfl rfl ?_
        refine RunR.fieldAddr fo47_4 rfl rfl rfl rfl rfl ?_
        refine RunR.load1 tk4 rfl rfl rfl rfl ?_
        refine RunR.move rfl rfl rfl ?_
        refine RunR.fieldAddr fo47_3 rfl rfl rfl rfl rfl ?_
        refine RunR.load1 tk4 rfl rfl rfl rfl ?_
        refine RunR.not rfl rfl rfl ?_
        refine RunR.pickAnd rfl rfl rfl rfl ?_
        refine RunR.pickOr rfl rfl rfl rfl ?_
        refine RunR.doneQ (.cons rfl (.cons rfl (.cons rfl .nil))) ?_
        refine Wp.condM h rfl (fun hc4 h => ?_) (fun hc4 h => ?_)
        · refine Wp.seq ?_
          refine Wp.text [2] rfl rfl ?_ -- region 8
          refine TextR.assign rfl ?_
          refine TextR.done (.cons rfl .nil) ?_
          refine Wp.ret ?_
          exact ⟨_, (Option.some.inj h).symm, Ret.one rfl (resV_tmp rfl) rfl⟩
        · refine Wp.skip ?_
          refine Wp.text [1, 3] rfl rfl ?_ -- region 5
          refine TextR.move rfl ?_
          refine TextR.int rfl rfl rfl ?_
          refine TextR.assign rfl ?_
          refine TextR.done (.cons rfl (.cons rfl .nil)) ?_
          exact ⟨m1, Nat.lt_succ_self _, _, (St.Weak.trans (keepW (live := [1, 3]) (.cons rfl (.cons rfl .nil))) (pickT (e' := [(1, .c (.ptr 0 0 0 0)), (3, .c (I (w64 (s3_1 + 1))))]) (H' := [.live 0 3 [[I a0.ID, I a0.Phase, .slv (a0.Sides.map eSide)]]]) [0] [0, 0] 0 hok.len.symm rfl rfl (by decide) (by first | rfl | simp [hfVs, hfV, hfL, hfAll, hfRows, mvV, mvL, mvO, mpE, mpV, mpVs, mpO, fzL, rnL, rn0, ok0, nzI, nzB, nzN, nzF, nzP, nzO, nzQ, nzC, shL, shV, shO, okV, okL, okO, List.take_of_length_le, h_Side, hfRows_map h_Side, ok_eSide, okR_eSide, fx_eSide, fxR_eSide, h_Diner, hfRows_map h_Diner, ok_eDiner, okR_eDiner, fx_eDiner, fxR_eDiner, h_Mail, hfRows_map h_Mail, ok_eMail, okR_eMail, fx_eMail, fxR_eMail, h_Msg, hfRows_map h_Msg, ok_eMsg, okR_eMsg, fx_eMsg, fxR_eMsg, -List.map_set]) (by first | rfl | simp [hfVs, hfV, hfL, hfAll, hfRows, mvV, mvL, mvO, mpE, mpV, mpVs, mpO, fzL, rnL, rn0, ok0, nzI, nzB, nzN, nzF, nzP, nzO, nzQ, nzC, shL, shV, shO, okV, okL, okO, List.take_of_length_le, h_Side, hfRows_map h_Side, ok_eSide, okR_eSide, fx_eSide, fxR_eSide, h_Diner, hfRows_map h_Diner, ok_eDiner, okR_eDiner, fx_eDiner, fxR_eDiner, h_Mail, hfRows_map h_Mail, ok_eMail, okR_eMail, fx_eMail, fxR_eMail, h_Msg, hfRows_map h_Msg, ok_eMsg, okR_eMsg, fx_eMsg, fxR_eMsg, -List.map_set]) (by first | rfl | simp [hfVs, hfV, hfL, hfAll, hfRows, mvV, mvL, mvO, mpE, mpV, mpVs, mpO, fzL, rnL, rn0, ok0, nzI, nzB, nzN, nzF, nzP, nzO, nzQ, nzC, shL, shV, shO, okV, okL, okO, List.take_of_length_le, h_Side, hfRows_map h_Side, ok_eSide, okR_eSide, fx_eSide, fxR_eSide, h_Diner, hfRows_map h_Diner, ok_eDiner, okR_eDiner, fx_eDiner, fxR_eDiner, h_Mail, hfRows_map h_Mail, ok_eMail, okR_eMail, fx_eMail, fxR_eMail, h_Msg, hfRows_map h_Msg, ok_eMsg, okR_eMsg, fx_eMsg, fxR_eMsg, -List.map_set]) (by first | rfl | simp [hfVs, hfV, hfL, hfAll, hfRows, mvV, mvL, mvO, mpE, mpV, mpVs, mpO, fzL, rnL, rn0, ok0, nzI, nzB, nzN, nzF, nzP, nzO, nzQ, nzC, shL, shV, shO, okV, okL, okO, List.take_of_length_le, h_Side, hfRows_map h_Side, ok_eSide, okR_eSide, fx_eSide, fxR_eSide, h_Diner, hfRows_map h_Diner, ok_eDiner, okR_eDiner, fx_eDiner, fxR_eDiner, h_Mail, hfRows_map h_Mail, ok_eMail, okR_eMail, fx_eMail, fxR_eMail, h_Msg, hfRows_map h_Msg, ok_eMsg, okR_eMsg, fx_eMsg, fxR_eMsg, -List.map_set]))), _, h, rfl⟩
      · refine Wp.exit ?_
        exact ⟨_, (Option.some.inj h).symm, _, (St.Weak.trans (keepW (live := []) .nil) (pickT (e' := []) (H' := []) [] [0] 0 hok.len.symm rfl rfl (by decide) (by first | rfl | simp [hfVs, hfV, hfL, hfAll, hfRows, mvV, mvL, mvO, mpE, mpV, mpVs, mpO, fzL, rnL, rn0, ok0, nzI, nzB, nzN, nzF, nzP, nzO, nzQ, nzC, shL, shV, shO, okV, okL, okO, List.take_of_length_le, h_Side, hfRows_map h_Side, ok_eSide, okR_eSide, fx_eSide, fxR_eSide, h_Diner, hfRows_map h_Diner, ok_eDiner, okR_eDiner, fx_eDiner, fxR_eDiner, h_Mail, hfRows_map h_Mail, ok_eMail, okR_eMail, fx_eMail, fxR_eMail, h_Msg, hfRows_map h_Msg, ok_eMsg, okR_eMsg, fx_eMsg, fxR_eMsg, -List.map_set]) (by first | rfl | simp [hfVs, hfV, hfL, hfAll, hfRows, mvV, mvL, mvO, mpE, mpV, mpVs, mpO, fzL, rnL, rn0, ok0, nzI, nzB, nzN, nzF, nzP, nzO, nzQ, nzC, shL, shV, shO, okV, okL, okO, List.take_of_length_le, h_Side, hfRows_map h_Side, ok_eSide, okR_eSide, fx_eSide, fxR_eSide, h_Diner, hfRows_map h_Diner, ok_eDiner, okR_eDiner, fx_eDiner, fxR_eDiner, h_Mail, hfRows_map h_Mail, ok_eMail, okR_eMail, fx_eMail, fxR_eMail, h_Msg, hfRows_map h_Msg, ok_eMsg, okR_eMsg, fx_eMsg, fxR_eMsg, -List.map_set]) (by first | rfl | simp [hfVs, hfV, hfL, hfAll, hfRows, mvV, mvL, mvO, mpE, mpV, mpVs, mpO, fzL, rnL, rn0, ok0, nzI, nzB, nzN, nzF, nzP, nzO, nzQ, nzC, shL, shV, shO, okV, okL, okO, List.take_of_length_le, h_Side, hfRows_map h_Side, ok_eSide, okR_eSide, fx_eSide, fxR_eSide, h_Diner, hfRows_map h_Diner, ok_eDiner, okR_eDiner, fx_eDiner, fxR_eDiner, h_Mail, hfRows_map h_Mail, ok_eMail, okR_eMail, fx_eMail, fxR_eMail, h_Msg, hfRows_map h_Msg, ok_eMsg, okR_eMsg, fx_eMsg, fxR_eMsg, -List.map_set]) (by first | rfl | simp [hfVs, hfV, hfL, hfAll, hfRows, mvV, mvL, mvO, mpE, mpV, mpVs, mpO, fzL, rnL, rn0, ok0, nzI, nzB, nzN, nzF, nzP, nzO, nzQ, nzC, shL, shV, shO, okV, okL, okO, List.take_of_length_le, h_Side, hfRows_map h_Side, ok_eSide, okR_eSide, fx_eSide, fxR_eSide, h_Diner, hfRows_map h_Diner, ok_eDiner, okR_eDiner, fx_eDiner, fxR_eDiner, h_Mail, hfRows_map h_Mail, ok_eMail, okR_eMail, fx_eMail, fxR_eMail, h_Msg, hfRows_map h_Msg, ok_eMsg, okR_eMsg, fx_eMsg, fxR_eMsg, -List.map_set]))), rfl⟩
    · rintro _ ⟨z3, rfl, _, hw, rfl⟩
      dsimp only at h
      clear hz1
      refine Wp.weak hw ?_
      refine Wp.seq ?_
      refine Wp.text [2] rfl rfl ?_ -- region 9
      refine TextR.assign rfl ?_
      refine TextR.done (.cons rfl .nil) ?_
      refine Wp.ret ?_
      obtain rfl := Option.some.inj h
      exact Ret.one rfl (resV_tmp rfl) rfl
    · rintro S' ⟨r2, rfl, hR⟩
      dsimp only at h
      obtain rfl := Option.some.inj h
      exact hR
theorem c_narthexref13_Check (N : Nat) (a0 : TDiner) (r : Bool) (h : narthexref13_Check N a0 = some r) (H : List Ob) : DCall Try.prog 15 [.agg (eDiner a0)] H (.c (B r)) := DCall.lift (by first | rfl | simp [hfVs, hfV, hfL, hfAll, hfRows, mvV, mvL, mvO, mpE, mpV, mpVs, mpO, fzL, rnL, rn0, ok0, nzI, nzB, nzN, nzF, nzP, nzO, nzQ, nzC, shL, shV, shO, okV, okL, okO, List.take_of_length_le, h_Side, hfRows_map h_Side, ok_eSide, okR_eSide, fx_eSide, fxR_eSide, h_Diner, hfRows_map h_Diner, ok_eDiner, okR_eDiner, fx_eDiner, fxR_eDiner, h_Mail, hfRows_map h_Mail, ok_eMail, okR_eMail, fx_eMail, fxR_eMail, h_Msg, hfRows_map h_Msg, ok_eMsg, okR_eMsg, fx_eMsg, fxR_eMsg, -List.map_set]) (by first | rfl | simp [hfVs, hfV, hfL, hfAll, hfRows, mvV, mvL, mvO, mpE, mpV, mpVs, mpO, fzL, rnL, rn0, ok0, nzI, nzB, nzN, nzF, nzP, nzO, nzQ, nzC, shL, shV, shO, okV, okL, okO, List.take_of_length_le, h_Side, hfRows_map h_Side, ok_eSide, okR_eSide, fx_eSide, fxR_eSide, h_Diner, hfRows_map h_Diner, ok_eDiner, okR_eDiner, fx_eDiner, fxR_eDiner, h_Mail, hfRows_map h_Mail, ok_eMail, okR_eMail, fx_eMail, fxR_eMail, h_Msg, hfRows_map h_Msg, ok_eMsg, okR_eMsg, fx_eMsg, fxR_eMsg, -List.map_set]) (fun _ => by simp [hfVs, hfV, hfL, hfAll, hfRows, mvV, mvL, mvO, mpE, mpV, mpVs, mpO, fzL, rnL, rn0, ok0, nzI, nzB, nzN, nzF, nzP, nzO, nzQ, nzC, shL, shV, shO, okV, okL, okO, List.take_of_length_le, h_Side, hfRows_map h_Side, ok_eSide, okR_eSide, fx_eSide, fxR_eSide, h_Diner, hfRows_map h_Diner, ok_eDiner, okR_eDiner, fx_eDiner, fxR_eDiner, h_Mail, hfRows_map h_Mail, ok_eMail, okR_eMail, fx_eMail, fxR_eMail, h_Msg, hfRows_map h_Msg, ok_eMsg, okR_eMsg, fx_eMsg, fxR_eMsg, -List.map_set]) (w_narthexref13_Check N a0 r h) H
-- narthex/narthexref13.Set
theorem w_narthexref13_Set (N : Nat) (a0 : TDiner) (a1 : Int) (a2 : TSide) (r : TDiner) (h : narthexref13_Set N a0 a1 a2 = some r) : Nx.Call Try.prog 32 [.agg (eDiner a0), .c (I a1), .agg (eSide a2)] [] fun r' _ => r' = .agg (eDiner r) := by
  refine Nx.Call.of_body Try.func32 rfl en32 Try.ntmps32 rfl (fun Γ hok => ?_)
  unfold narthexref13_Set at h
  refine Wp.seq ?_
  refine Wp.text [1, 3, 5, 6] rfl rfl ?_ -- region 0
  refine TextR.box (cs := [I a0.ID, I a0.Phase, .slv (a0.Sides.map eSide)]) 0 rfl rfl rfl rfl .nil ?_
  refine TextR.box (cs := [I a2.Peer, I a2.Epoch, I a2.State, B a2.Fork, B a2.Dirty, B a2.Token, B a2.Bottle, B a2.Ask]) 1 rfl rfl rfl rfl (.cons .nil) ?_
  refine TextR.alloc 2 zc25 rfl rfl (.cons (.cons .nil)) ?_
  refine TextR.done (.cons rfl (.cons rfl (.cons rfl (.cons rfl .nil)))) ?_
  refine Wp.seq ?_
  obtain ⟨x1, hx1, h⟩ := bind_some h
  refine Wp.text [1, 3, 5, 6] rfl rfl ?_ -- region 1
  refine TextR.buildSlice  3 se23 rfl rfl rfl (.cons (.cons (.cons .nil))) ?_
  refine TextR.fieldAddr fo25_2 rfl rfl rfl ?_
  refine TextR.load1 tk23 rfl rfl ?_
  refine TextR.appendM eSide ([] : List TSide) a0.Sides x1 (app_eq hx1) se23 rfl rfl rfl rfl (fun _ => rfl) rfl (app_len hx1) (.succ (.succ (.succ .zero))) ?_
  refine TextR.fieldAddr fo25_2 rfl rfl rfl ?_
  refine TextR.storeF (r' := [I a0.ID, I a0.Phase, .sl 3 1 0 x1.length]) tk23 rfl rfl rfl rfl rfl rfl rfl .zero ?_
  refine TextR.done (.cons rfl (.cons rfl (.cons rfl (.cons rfl .nil)))) ?_
  refine Wp.seq ?_
  obtain ⟨x2, hx2, h⟩ := bind_some h
  refine Wp.text [3, 6] rfl rfl ?_ -- region 2
  refine TextR.fieldAddr fo25_2 rfl rfl rfl ?_
  refine TextR.load1 tk23 rfl rfl ?_
  refine TextR.move rfl ?_
  refine TextR.loadN (cs := [I a2.Peer, I a2.Epoch, I a2.State, B a2.Fork, B a2.Dirty, B a2.Token, B a2.Bottle, B a2.Ask]) tk47 rfl rfl ?_
  refine TextR.indexOA se23 rfl rfl rfl hx2 ?_
  refine TextR.storeO a2 tk47 rfl rfl rfl rfl rfl (at_get hx2) rfl rfl (.succ (.succ (.succ .zero))) ?_
  refine TextR.done (.cons rfl (.cons rfl .nil)) ?_
  refine Wp.weak (eqW (S' := ⟨[(3, .c (.ptr 0 0 0 0)), (6, .c (.ptr 2 0 0 0))], [.live 0 3 [[I a0.ID, I a0.Phase, .sl 3 1 0 (x1.set a1.toNat a2).length]], .live 0 8 [[I a2.Peer, I a2.Epoch, I a2.State, B a2.Fork, B a2.Dirty, B a2.Token, B a2.Bottle, B a2.Ask]], .live 0 3 [[I 0, I 0, nilS]], .live 1 8 ((x1.set a1.toNat a2).map eSide)]⟩) (by first | rfl | (simp only [List.length_set]; done) | (simp only [List.length_set]; rfl))) ?_
  refine Wp.seq ?_
  refine Wp.text [6] rfl rfl ?_ -- region 3
  refine TextR.loadN (cs := [I a0.ID, I a0.Phase, .sl 3 1 0 (x1.set a1.toNat a2).length]) tk25 rfl rfl ?_
  refine TextR.store1 tk25 rfl rfl rfl rfl rfl rfl (.succ (.succ .zero)) ?_
  refine TextR.done (.cons rfl .nil) ?_
  refine Wp.weak (keepW (live := [6] ) (.cons rfl .nil)) ?_
  refine Wp.weak (freezeW (h := 3) (ver := 1) (rows := (x1.set a1.toNat a2).map eSide) (e' := [(6, .c (.ptr 2 0 0 0))]) (H' := [.live 0 3 [[I a0.ID, I a0.Phase, .slv ((x1.set a1.toNat a2).map eSide)]], .live 0 8 [[I a2.Peer, I a2.Epoch, I a2.State, B a2.Fork, B a2.Dirty, B a2.Token, B a2.Bottle, B a2.Ask]], .live 0 3 [[I a0.ID, I a0.Phase, .slv ((x1.set a1.toNat a2).map eSide)]], .dead]) rfl (by first | rfl | simp [hfVs, hfV, hfL, hfAll, hfRows, mvV, mvL, mvO, mpE, mpV, mpVs, mpO, fzL, rnL, rn0, ok0, nzI, nzB, nzN, nzF, nzP, nzO, nzQ, nzC, shL, shV, shO, okV, okL, okO, List.take_of_length_le, h_Side, hfRows_map h_Side, ok_eSide, okR_eSide, fx_eSide, fxR_eSide, h_Diner, hfRows_map h_Diner, ok_eDiner, okR_eDiner, fx_eDiner, fxR_eDiner, h_Mail, hfRows_map h_Mail, ok_eMail, okR_eMail, fx_eMail, fxR_eMail, h_Msg, hfRows_map h_Msg, ok_eMsg, okR_eMsg, fx_eMsg, fxR_eMsg, -List.map_set]) (by first | rfl | simp [hfVs, hfV, hfL, hfAll, hfRows, mvV, mvL, mvO, mpE, mpV, mpVs, mpO, fzL, rnL, rn0, ok0, nzI, nzB, nzN, nzF, nzP, nzO, nzQ, nzC, shL, shV, shO, okV, okL, okO, List.take_of_length_le, h_Side, hfRows_map h_Side, ok_eSide, okR_eSide, fx_eSide, fxR_eSide, h_Diner, hfRows_map h_Diner, ok_eDiner, okR_eDiner, fx_eDiner, fxR_eDiner, h_Mail, hfRows_map h_Mail, ok_eMail, okR_eMail, fx_eMail, fxR_eMail, h_Msg, hfRows_map h_Msg, ok_eMsg, okR_eMsg, fx_eMsg, fxR_eMsg, -List.map_set])) ?_
  refine Wp.ret ?_
  obtain rfl := Option.some.inj h
  exact Ret.one rfl (resV_cellN tk25 rfl rfl) rfl
theorem c_narthexref13_Set (N : Nat) (a0 : TDiner) (a1 : Int) (a2 : TSide) (r : TDiner) (h : narthexref13_Set N a0 a1 a2 = some r) (H : List Ob) : DCall Try.prog 32 [.agg (eDiner a0), .c (I a1), .agg (eSide a2)] H (.agg (eDiner r)) := DCall.lift (by first | rfl | simp [hfVs, hfV, hfL, hfAll, hfRows, mvV, mvL, mvO, mpE, mpV, mpVs, mpO, fzL, rnL, rn0, ok0, nzI, nzB, nzN, nzF, nzP, nzO, nzQ, nzC, shL, shV, shO, okV, okL, okO, List.take_of_length_le, h_Side, hfRows_map h_Side, ok_eSide, okR_eSide, fx_eSide, fxR_eSide, h_Diner, hfRows_map h_Diner, ok_eDiner, okR_eDiner, fx_eDiner, fxR_eDiner, h_Mail, hfRows_map h_Mail, ok_eMail, okR_eMail, fx_eMail, fxR_eMail, h_Msg, hfRows_map h_Msg, ok_eMsg, okR_eMsg, fx_eMsg, fxR_eMsg, -List.map_set]) (by first | rfl | simp [hfVs, hfV, hfL, hfAll, hfRows, mvV, mvL, mvO, mpE, mpV, mpVs, mpO, fzL, rnL, rn0, ok0, nzI, nzB, nzN, nzF, nzP, nzO, nzQ, nzC, shL, shV, shO, okV, okL, okO, List.take_of_length_le, h_Side, hfRows_map h_Side, ok_eSide, okR_eSide, fx_eSide, fxR_eSide, h_Diner, hfRows_map h_Diner, ok_eDiner, okR_eDiner, fx_eDiner, fxR_eDiner, h_Mail, hfRows_map h_Mail, ok_eMail, okR_eMail, fx_eMail, fxR_eMail, h_Msg, hfRows_map h_Msg, ok_eMsg, okR_eMsg, fx_eMsg, fxR_eMsg, -List.map_set]) (fun _ => by simp [hfVs, hfV, hfL, hfAll, hfRows, mvV, mvL, mvO, mpE, mpV, mpVs, mpO, fzL, rnL, rn0, ok0, nzI, nzB, nzN, nzF, nzP, nzO, nzQ, nzC, shL, shV, shO, okV, okL, okO, List.take_of_length_le, h_Side, hfRows_map h_Side, ok_eSide, okR_eSide, fx_eSide, fxR_eSide, h_Diner, hfRows_map h_Diner, ok_eDiner, okR_eDiner, fx_eDiner, fxR_eDiner, h_Mail, hfRows_map h_Mail, ok_eMail, okR_eMail, fx_eMail, fxR_eMail, h_Msg, hfRows_map h_Msg, ok_eMsg, okR_eMsg, fx_eMsg, fxR_eMsg, -List.map_set]) (w_narthexref13_Set N a0 a1 a2 r h) H
-- narthex/narthexref13.mail
theorem w_narthexref13_mail (N : Nat) (a0 : TDiner) (a1 : TSide) (a2 : Int) (r : TMail) (h : narthexref13_mail N a0 a1 a2 = some r) : Nx.Call Try.prog 34 [.agg (eDiner a0), .agg (eSide a1), .c (I a2)] [] fun r' _ => r' = .agg (eMail r) := by
  refine Nx.Call.of_body Try.func34 rfl en34 Try.ntmps34 rfl (fun Γ hok => ?_)
  unfold narthexref13_mail at h
  refine Wp.seq ?_
  refine Wp.text [2, 3, 4, 6] rfl rfl ?_ -- region 0
  refine TextR.box (cs := [I a0.ID, I a0.Phase, .slv (a0.Sides.map eSide)]) 0 rfl rfl rfl rfl .nil ?_
  refine TextR.box (cs := [I a1.Peer, I a1.Epoch, I a1.State, B a1.Fork, B a1.Dirty, B a1.Token, B a1.Bottle, B a1.Ask]) 1 rfl rfl rfl rfl (.cons .nil) ?_
  refine TextR.alloc 2 zc49 rfl rfl (.cons (.cons .nil)) ?_
  refine TextR.done (.cons rfl (.cons rfl (.cons rfl (.cons rfl .nil)))) ?_
  refine Wp.seq ?_
  refine Wp.text [6] rfl rfl ?_ -- region 1
  refine TextR.fieldAddr fo25_0 rfl rfl rfl ?_
  refine TextR.load1 tk3 rfl rfl ?_
  refine TextR.fieldAddr fo47_0 rfl rfl rfl ?_
  refine TextR.load1 tk3 rfl rfl ?_
  refine TextR.move rfl ?_
  refine TextR.fieldAddr fo47_1 rfl rfl rfl ?_
  refine TextR.load1 tk3 rfl rfl ?_
  refine TextR.build cm40 rfl ?_
  refine TextR.build cm49 rfl ?_
  refine TextR.store1 tk49 rfl rfl rfl rfl rfl rfl (.succ (.succ .zero)) ?_
  refine TextR.done (.cons rfl .nil) ?_
  refine Wp.ret ?_
  obtain rfl := Option.some.inj h
  exact Ret.one rfl (resV_cellN tk49 rfl rfl) rfl
theorem c_narthexref13_mail (N : Nat) (a0 : TDiner) (a1 : TSide) (a2 : Int) (r : TMail) (h : narthexref13_mail N a0 a1 a2 = some r) (H : List Ob) : DCall Try.prog 34 [.agg (eDiner a0), .agg (eSide a1), .c (I a2)] H (.agg (eMail r)) := DCall.lift (by first | rfl | simp [hfVs, hfV, hfL, hfAll, hfRows, mvV, mvL, mvO, mpE, mpV, mpVs, mpO, fzL, rnL, rn0, ok0, nzI, nzB, nzN, nzF, nzP, nzO, nzQ, nzC, shL, shV, shO, okV, okL, okO, List.take_of_length_le, h_Side, hfRows_map h_Side, ok_eSide, okR_eSide, fx_eSide, fxR_eSide, h_Diner, hfRows_map h_Diner, ok_eDiner, okR_eDiner, fx_eDiner, fxR_eDiner, h_Mail, hfRows_map h_Mail, ok_eMail, okR_eMail, fx_eMail, fxR_eMail, h_Msg, hfRows_map h_Msg, ok_eMsg, okR_eMsg, fx_eMsg, fxR_eMsg, -List.map_set]) (by first | rfl | simp [hfVs, hfV, hfL, hfAll, hfRows, mvV, mvL, mvO, mpE, mpV, mpVs, mpO, fzL, rnL, rn0, ok0, nzI, nzB, nzN, nzF, nzP, nzO, nzQ, nzC, shL, shV, shO, okV, okL, okO, List.take_of_length_le, h_Side, hfRows_map h_Side, ok_eSide, okR_eSide, fx_eSide, fxR_eSide, h_Diner, hfRows_map h_Diner, ok_eDiner, okR_eDiner, fx_eDiner, fxR_eDiner, h_Mail, hfRows_map h_Mail, ok_eMail, okR_eMail, fx_eMail, fxR_eMail, h_Msg, hfRows_map h_Msg, ok_eMsg, okR_eMsg, fx_eMsg, fxR_eMsg, -List.map_set]) (fun _ => by simp [hfVs, hfV, hfL, hfAll, hfRows, mvV, mvL, mvO, mpE, mpV, mpVs, mpO, fzL, rnL, rn0, ok0, nzI, nzB, nzN, nzF, nzP, nzO, nzQ, nzC, shL, shV, shO, okV, okL, okO, List.take_of_length_le, h_Side, hfRows_map h_Side, ok_eSide, okR_eSide, fx_eSide, fxR_eSide, h_Diner, hfRows_map h_Diner, ok_eDiner, okR_eDiner, fx_eDiner, fxR_eDiner, h_Mail, hfRows_map h_Mail, ok_eMail, okR_eMail, fx_eMail, fxR_eMail, h_Msg, hfRows_map h_Msg, ok_eMsg, okR_eMsg, fx_eMsg, fxR_eMsg, -List.map_set]) (w_narthexref13_mail N a0 a1 a2 r h) H
-- narthex/narthexref13.one
theorem w_narthexref13_one (N : Nat) (a0 : TDiner) (r : TDiner × (List TMail) × Bool) (h : narthexref13_one N a0 = some r) : Nx.Call Try.prog 29 [.agg (eDiner a0)] [] fun r' _ => r' = .tup [.agg (eDiner r.1), .c (.slv (r.2.1.map eMail)), .c (B r.2.2)] := by
  refine Nx.Call.of_body Try.func29 rfl en29 Try.ntmps29 rfl (fun Γ hok => ?_)
  unfold narthexref13_one at h
  refine Wp.seq ?_
  refine Wp.text [1, 2] rfl rfl ?_ -- region 0
  refine TextR.box (cs := [I a0.ID, I a0.Phase, .slv (a0.Sides.map eSide)]) 0 rfl rfl rfl rfl .nil ?_
  refine TextR.alloc 1 zc25 rfl rfl (.cons .nil) ?_
  refine TextR.assign rfl ?_
  refine TextR.assign rfl ?_
  refine TextR.done (.cons rfl (.cons rfl .nil)) ?_
  refine Wp.seq ?_
  refine Wp.seq ?_
  refine Wp.text [1, 2, 5] rfl rfl ?_ -- region 1
  refine TextR.assign rfl ?_
  refine TextR.done (.cons rfl (.cons rfl (.cons rfl .nil))) ?_
  obtain ⟨z1, hz1, h⟩ := bind_some h
  refine Wp.fragR (fun S => ∃ z3, z1 = .inr z3 ∧ ∃ S', St.Weak ⟨Try.prog, 110, Γ⟩ S S' ∧ S' = ⟨[(1, .c (.ptr 0 0 0 0)), (2, .c (.ptr 1 0 0 0))], [.live 0 3 [[I a0.ID, I a0.Phase, .slv (a0.Sides.map eSide)]], .live 0 3 [[I 0, I 0, nilS]]]⟩) (fun S => ∃ v, z1 = .inl v ∧ Ret Try.prog Try.f29 (fun r' _ => r' = .tup [.agg (eDiner v.1), .c (.slv (v.2.1.map eMail)), .c (B v.2.2)]) .ret S) ?_ ?_ ?_
  · replace h := hz1
    refine Wp.block ?_
    refine Wp.weak (keepW (live := [1, 2, 5]) (.cons rfl (.cons rfl (.cons rfl .nil)))) ?_
    refine Wp.loop (fun m S => ∃ s5_1, narthexref13_one_L1 N a0 m s5_1 = some z1 ∧ S = ⟨[(1, .c (.ptr 0 0 0 0)), (2, .c (.ptr 1 0 0 0)), (5, .c (I s5_1))], [.live 0 3 [[I a0.ID, I a0.Phase, .slv (a0.Sides.map eSide)]], .live 0 3 [[I 0, I 0, nilS]]]⟩) N ⟨_, h, rfl⟩ ?_
    rintro m1 _ ⟨s5_1, h, rfl⟩
    cases m1 with
    | zero => rw [narthexref13_one_L1.eq_1] at h; cases h
    | succ m1 =>
    rw [narthexref13_one_L1.eq_2] at h
    refine Wp.seq ?_
    refine Wp.seq ?_
    refine Wp.text [1, 2, 5, 16] rfl rfl ?_ -- region 2
    refine TextR.move rfl ?_
    refine TextR.fieldAddr fo25_2 rfl rfl rfl ?_
    refine TextR.load1 tk23 rfl rfl ?_
    refine TextR.lenM us23 rfl rfl ?_
    refine TextR.int rfl rfl rfl ?_
    refine TextR.done (.cons rfl (.cons rfl (.cons rfl (.cons rfl .nil)))) ?_
    refine Wp.condM h rfl (fun hc2 h => ?_) (fun hc2 h => ?_)
    · refine Wp.skip ?_
      refine Wp.seq ?_
      refine Wp.block ?_
      refine Wp.seq ?_
      obtain ⟨x4, hx4, h⟩ := bind_some h
      refine Wp.text [1, 2, 5, 6] rfl rfl ?_ -- region 4
      refine TextR.fieldAddr fo25_2 rfl rfl rfl ?_
      refine TextR.load1 tk23 rfl rfl ?_
      refine TextR.move rfl ?_
      refine TextR.indexA se23 rfl rfl rfl hx4 rfl ?_
      refine TextR.loadNM tk47 rfl (at_get hx4) rfl ?_
      refine TextR.alloc 2 zc47 rfl rfl (.cons (.cons .nil)) ?_
      refine TextR.store1 tk47 rfl rfl rfl rfl rfl rfl (.succ (.succ .zero)) ?_
      refine TextR.done (.cons rfl (.cons rfl (.cons rfl (.cons rfl .nil)))) ?_
      refine Wp.seq ?_
      refine Wp.seq ?_
      refine Wp.go false none [[], [], [], [(26, true)], [(26, true)], [], [], [(30, true)], [(30, true)], [], [], [(34, true)], [(34, true)], [(34, true)], []] [] [1, 2, 5, 6, 38] mixed rfl rfl (by kernel_rfl) ?_ -- region 5
      refine RunR.fieldAddr fo47_3 rfl rfl rfl rfl rfl ?_
      refine RunR.load1 tk4 rfl rfl rfl rfl ?_
      refine RunR.move rfl rfl rfl ?_
      refine RunR.fieldAddr fo47_4 rfl rfl rfl rfl rfl ?_
      refine RunR.load1 tk4 rfl rfl rfl rfl ?_
      refine RunR.pickAnd rfl rfl rfl rfl ?_
      refine RunR.move rfl rfl rfl ?_
      refine RunR.fieldAddr fo47_5 rfl rfl rfl rfl rfl ?_
      refine RunR.load1 tk4 rfl rfl rfl rfl ?_
      refine RunR.pickAnd rfl rfl rfl rfl ?_
      refine RunR.move rfl rfl rfl ?_
      refine RunR.fieldAddr fo25_1 rfl rfl rfl rfl rfl ?_
      refine RunR.load1 tk22 rfl rfl rfl rfl ?_
      refine RunR.int rfl rfl rfl rfl rfl ?_
      refine RunR.pickAnd rfl rfl rfl rfl ?_
      refine RunR.doneQ (.cons rfl (.cons rfl (.cons rfl (.cons rfl (.cons rfl .nil))))) ?_
      refine Wp.condM h rfl (fun hc3 h => ?_) (fun hc3 h => ?_)
      · refine Wp.seq ?_
        refine Wp.text [1, 2, 5, 6, 7] rfl rfl ?_ -- region 6
        refine TextR.loadN (cs := [I x4.Peer, I x4.Epoch, I x4.State, B x4.Fork, B x4.Dirty, B x4.Token, B x4.Bottle, B x4.Ask]) tk47 rfl rfl ?_
        refine TextR.alloc 3 zc47 rfl rfl (.cons (.cons (.cons .nil))) ?_
        refine TextR.store1 tk47 rfl rfl rfl rfl rfl rfl (.succ (.succ (.succ .zero))) ?_
        refine TextR.done (.cons rfl (.cons rfl (.cons rfl (.cons rfl (.cons rfl .nil))))) ?_
        refine Wp.seq ?_
        refine Wp.text [1, 2, 5, 6, 7] rfl rfl ?_ -- region 7
        refine TextR.fieldAddr fo47_3 rfl rfl rfl ?_
        refine TextR.storeF (r' := [I x4.Peer, I x4.Epoch, I x4.State, B false, B x4.Dirty, B x4.Token, B x4.Bottle, B x4.Ask]) tk4 rfl rfl rfl rfl rfl rfl rfl (.succ (.succ (.succ .zero))) ?_
        refine TextR.fieldAddr fo47_4 rfl rfl rfl ?_
        refine TextR.storeF (r' := [I x4.Peer, I x4.Epoch, I x4.State, B false, B false, B x4.Token, B x4.Bottle, B x4.Ask]) tk4 rfl rfl rfl rfl rfl rfl rfl (.succ (.succ (.succ .zero))) ?_
        refine TextR.done (.cons rfl (.cons rfl (.cons rfl (.cons rfl (.cons rfl .nil))))) ?_
        refine Wp.seq ?_
        obtain ⟨y5, hy5, h⟩ := bind_some h
        obtain ⟨y6, hy6, h⟩ := bind_some h
        apply Wp.forkS 7 [1, 4] [[], [], [], [], [], [], [], [], [], [], []] [false, false, false, false, false, false, false, false, false, false, false] [[], [], [], [], [], [], [], [], [], [], []] [false, false, false, false, false, false, false, false, false, false, false] [2, 3, 4] mixed rfl (by kernel_rfl) (by kernel_rfl) (by kernel_rfl) (by kernel_rfl) (by kernel_rfl) -- region 8 FORK
        · refine RunR.loadN (cs := [I a0.ID, I a0.Phase, .slv (a0.Sides.map eSide)]) tk25 rfl rfl rfl rfl ?_
          refine RunR.move rfl rfl rfl ?_
          refine RunR.loadN (cs := [I x4.Peer, I x4.Epoch, I x4.State, B false, B false, B x4.Token, B x4.Bottle, B x4.Ask]) tk47 rfl rfl rfl rfl ?_
          refine RunR.call rfl rfl rfl (fun H => c_narthexref13_Set N a0 s5_1 { x4 with Fork := false, Dirty := false } y5 hy5 H) ?_
          refine RunR.loadN (cs := [I a0.ID, I a0.Phase, .slv (a0.Sides.map eSide)]) tk25 rfl rfl rfl rfl ?_
          refine RunR.loadN (cs := [I x4.Peer, I x4.Epoch, I x4.State, B x4.Fork, B x4.Dirty, B x4.Token, B x4.Bottle, B x4.Ask]) tk47 rfl rfl rfl rfl ?_
          refine RunR.call rfl rfl rfl (fun H => c_narthexref13_mail N a0 x4 1 y6 hy6 H) ?_
          refine RunR.nil ⟨?_, ?_⟩
          · refine RunR.buildSlice (rows := [y6].map eMail) 4 se27 rfl rfl rfl rfl rfl (.cons (.cons (.cons (.cons .nil)))) ?_
            refine RunR.store1 tk25 rfl rfl rfl rfl rfl rfl rfl rfl (.succ .zero) ?_
            refine RunR.assign rfl rfl rfl ?_
            refine RunR.assign rfl rfl rfl ?_
            refine RunR.nil ⟨_, (.cons rfl (.cons rfl (.cons rfl .nil))), rfl⟩
          · refine RunR.store1 tk25 rfl rfl rfl rfl rfl rfl rfl rfl (.succ .zero) ?_
            refine RunR.buildSlice (rows := [y6].map eMail) 4 se27 rfl rfl rfl rfl rfl (.cons (.cons (.cons (.cons .nil)))) ?_
            refine RunR.assign rfl rfl rfl ?_
            refine RunR.assign rfl rfl rfl ?_
            refine RunR.nil ⟨_, (.cons rfl (.cons rfl (.cons rfl .nil))), .refl⟩
        refine Wp.weak (keepW (live := [2, 3, 4] ) (.cons rfl (.cons rfl (.cons rfl .nil)))) ?_
        refine Wp.weak (freezeW (h := 4) (ver := 0) (rows := [y6].map eMail) (e' := [(2, .c (.ptr 1 0 0 0)), (3, .c (.slv ([y6].map eMail))), (4, .c (B true))]) (H' := [.live 0 3 [[I a0.ID, I a0.Phase, .slv (a0.Sides.map eSide)]], .live 0 3 [[I y5.ID, I y5.Phase, .slv (y5.Sides.map eSide)]], .live 0 8 [[I x4.Peer, I x4.Epoch, I x4.State, B x4.Fork, B x4.Dirty, B x4.Token, B x4.Bottle, B x4.Ask]], .live 0 8 [[I x4.Peer, I x4.Epoch, I x4.State, B false, B false, B x4.Token, B x4.Bottle, B x4.Ask]], .dead]) rfl (by first | rfl | simp [hfVs, hfV, hfL, hfAll, hfRows, mvV, mvL, mvO, mpE, mpV, mpVs, mpO, fzL, rnL, rn0, ok0, nzI, nzB, nzN, nzF, nzP, nzO, nzQ, nzC, shL, shV, shO, okV, okL, okO, List.take_of_length_le, h_Side, hfRows_map h_Side, ok_eSide, okR_eSide, fx_eSide, fxR_eSide, h_Diner, hfRows_map h_Diner, ok_eDiner, okR_eDiner, fx_eDiner, fxR_eDiner, h_Mail, hfRows_map h_Mail, ok_eMail, okR_eMail, fx_eMail, fxR_eMail, h_Msg, hfRows_map h_Msg, ok_eMsg, okR_eMsg, fx_eMsg, fxR_eMsg, -List.map_set]) (by first | rfl | simp [hfVs, hfV, hfL, hfAll, hfRows, mvV, mvL, mvO, mpE, mpV, mpVs, mpO, fzL, rnL, rn0, ok0, nzI, nzB, nzN, nzF, nzP, nzO, nzQ, nzC, shL, shV, shO, okV, okL, okO, List.take_of_length_le, h_Side, hfRows_map h_Side, ok_eSide, okR_eSide, fx_eSide, fxR_eSide, h_Diner, hfRows_map h_Diner, ok_eDiner, okR_eDiner, fx_eDiner, fxR_eDiner, h_Mail, hfRows_map h_Mail, ok_eMail, okR_eMail, fx_eMail, fxR_eMail, h_Msg, hfRows_map h_Msg, ok_eMsg, okR_eMsg, fx_eMsg, fxR_eMsg, -List.map_set])) ?_
        refine Wp.ret ?_
        exact ⟨_, (Option.some.inj h).symm, Ret.three rfl (resV_cellN tk25 rfl rfl) (resV_tmp rfl) (resV_tmp rfl) rfl⟩
      · refine Wp.skip ?_
        refine Wp.seq ?_
        refine Wp.go false none [[], [], [], [], [(53, true)], [(53, true)], [], [], [(57, true)], [(57, true)], [(57, true)], []] [] [1, 2, 5, 6, 61] mixed rfl rfl (by kernel_rfl) ?_ -- region 9
        refine RunR.fieldAddr fo47_3 rfl rfl rfl rfl rfl ?_
        refine RunR.load1 tk4 rfl rfl rfl rfl ?_
        refine RunR.not rfl rfl rfl ?_
        refine RunR.move rfl rfl rfl ?_
        refine RunR.fieldAddr fo47_5 rfl rfl rfl rfl rfl ?_
        refine RunR.load1 tk4 rfl rfl rfl rfl ?_
        refine RunR.pickAnd rfl rfl rfl rfl ?_
        refine RunR.move rfl rfl rfl ?_
        refine RunR.fieldAddr fo25_1 rfl rfl rfl rfl rfl ?_
        refine RunR.load1 tk22 rfl rfl rfl rfl ?_
        refine RunR.int rfl rfl rfl rfl rfl ?_
        refine RunR.pickAnd rfl rfl rfl rfl ?_
        refine RunR.doneQ (.cons rfl (.cons rfl (.cons rfl (.cons rfl (.cons rfl .nil))))) ?_
        refine Wp.condM h rfl (fun hc4 h => ?_) (fun hc4 h => ?_)
        · refine Wp.seq ?_
          refine Wp.text [1, 2, 5, 6, 8] rfl rfl ?_ -- region 10
          refine TextR.loadN (cs := [I x4.Peer, I x4.Epoch, I x4.State, B x4.Fork, B x4.Dirty, B x4.Token, B x4.Bottle, B x4.Ask]) tk47 rfl rfl ?_
          refine TextR.alloc 3 zc47 rfl rfl (.cons (.cons (.cons .nil))) ?_
          refine TextR.store1 tk47 rfl rfl rfl rfl rfl rfl (.succ (.succ (.succ .zero))) ?_
          refine TextR.done (.cons rfl (.cons rfl (.cons rfl (.cons rfl (.cons rfl .nil))))) ?_
          refine Wp.seq ?_
          refine Wp.text [1, 2, 5, 6, 8] rfl rfl ?_ -- region 11
          refine TextR.fieldAddr fo47_5 rfl rfl rfl ?_
          refine TextR.storeF (r' := [I x4.Peer, I x4.Epoch, I x4.State, B x4.Fork, B x4.Dirty, B false, B x4.Bottle, B x4.Ask]) tk4 rfl rfl rfl rfl rfl rfl rfl (.succ (.succ (.succ .zero))) ?_
          refine TextR.done (.cons rfl (.cons rfl (.cons rfl (.cons rfl (.cons rfl .nil))))) ?_
          refine Wp.seq ?_
          obtain ⟨y7, hy7, h⟩ := bind_some h
          obtain ⟨y8, hy8, h⟩ := bind_some h
          apply Wp.forkS 7 [1, 4] [[], [], [], [], [], [], [], [], [], [], []] [false, false, false, false, false, false, false, false, false, false, false] [[], [], [], [], [], [], [], [], [], [], []] [false, false, false, false, false, false, false, false, false, false, false] [2, 3, 4] mixed rfl (by kernel_rfl) (by kernel_rfl) (by kernel_rfl) (by kernel_rfl) (by kernel_rfl) -- region 12 FORK
          · refine RunR.loadN (cs := [I a0.ID, I a0.Phase, .slv (a0.Sides.map eSide)]) tk25 rfl rfl rfl rfl ?_
            refine RunR.move rfl rfl rfl ?_
            refine RunR.loadN (cs := [I x4.Peer, I x4.Epoch, I x4.State, B x4.Fork, B x4.Dirty, B false, B x4.Bottle, B x4.Ask]) tk47 rfl rfl rfl rfl ?_
            refine RunR.call rfl rfl rfl (fun H => c_narthexref13_Set N a0 s5_1 { x4 with Token := false } y7 hy7 H) ?_
            refine RunR.loadN (cs := [I a0.ID, I a0.Phase, .slv (a0.Sides.map eSide)]) tk25 rfl rfl rfl rfl ?_
            refine RunR.loadN (cs := [I x4.Peer, I x4.Epoch, I x4.State, B x4.Fork, B x4.Dirty, B x4.Token, B x4.Bottle, B x4.Ask]) tk47 rfl rfl rfl rfl ?_
            refine RunR.call rfl rfl rfl (fun H => c_narthexref13_mail N a0 x4 2 y8 hy8 H) ?_
            refine RunR.nil ⟨?_, ?_⟩
            · refine RunR.buildSlice (rows := [y8].map eMail) 4 se27 rfl rfl rfl rfl rfl (.cons (.cons (.cons (.cons .nil)))) ?_
              refine RunR.store1 tk25 rfl rfl rfl rfl rfl rfl rfl rfl (.succ .zero) ?_
              refine RunR.assign rfl rfl rfl ?_
              refine RunR.assign rfl rfl rfl ?_
              refine RunR.nil ⟨_, (.cons rfl (.cons rfl (.cons rfl .nil))), rfl⟩
            · refine RunR.store1 tk25 rfl rfl rfl rfl rfl rfl rfl rfl (.succ .zero) ?_
              refine RunR.buildSlice (rows := [y8].map eMail) 4 se27 rfl rfl rfl rfl rfl (.cons (.cons (.cons (.cons .nil)))) ?_
              refine RunR.assign rfl rfl rfl ?_
              refine RunR.assign rfl rfl rfl ?_
              refine RunR.nil ⟨_, (.cons rfl (.cons rfl (.cons rfl .nil))), .refl⟩
          refine Wp.weak (keepW (live := [2, 3, 4] ) (.cons rfl (.cons rfl (.cons rfl .nil)))) ?_
          refine Wp.weak (freezeW (h := 4) (ver := 0) (rows := [y8].map eMail) (e' := [(2, .c (.ptr 1 0 0 0)), (3, .c (.slv ([y8].map eMail))), (4, .c (B true))]) (H' := [.live 0 3 [[I a0.ID, I a0.Phase, .slv (a0.Sides.map eSide)]], .live 0 3 [[I y7.ID, I y7.Phase, .slv (y7.Sides.map eSide)]], .live 0 8 [[I x4.Peer, I x4.Epoch, I x4.State, B x4.Fork, B x4.Dirty, B x4.Token, B x4.Bottle, B x4.Ask]], .live 0 8 [[I x4.Peer, I x4.Epoch, I x4.State, B x4.Fork, B x4.Dirty, B false, B x4.Bottle, B x4.Ask]], .dead]) rfl (by first | rfl | simp [hfVs, hfV, hfL, hfAll, hfRows, mvV, mvL, mvO, mpE, mpV, mpVs, mpO, fzL, rnL, rn0, ok0, nzI, nzB, nzN, nzF, nzP, nzO, nzQ, nzC, shL, shV, shO, okV, okL, okO, List.take_of_length_le, h_Side, hfRows_map h_Side, ok_eSide, okR_eSide, fx_eSide, fxR_eSide, h_Diner, hfRows_map h_Diner, ok_eDiner, okR_eDiner, fx_eDiner, fxR_eDiner, h_Mail, hfRows_map h_Mail, ok_eMail, okR_eMail, fx_eMail, fxR_eMail, h_Msg, hfRows_map h_Msg, ok_eMsg, okR_eMsg, fx_eMsg, fxR_eMsg, -List.map_set]) (by first | rfl | simp [hfVs, hfV, hfL, hfAll, hfRows, mvV, mvL, mvO, mpE, mpV, mpVs, mpO, fzL, rnL, rn0, ok0, nzI, nzB, nzN, nzF, nzP, nzO, nzQ, nzC, shL, shV, shO, okV, okL, okO, List.take_of_length_le, h_Side, hfRows_map h_Side, ok_eSide, okR_eSide, fx_eSide, fxR_eSide, h_Diner, hfRows_map h_Diner, ok_eDiner, okR_eDiner, fx_eDiner, fxR_eDiner, h_Mail, hfRows_map h_Mail, ok_eMail, okR_eMail, fx_eMail, fxR_eMail, h_Msg, hfRows_map h_Msg, ok_eMsg, okR_eMsg, fx_eMsg, fxR_eMsg, -List.map_set])) ?_
          refine Wp.ret ?_
          exact ⟨_, (Option.some.inj h).symm, Ret.three rfl (resV_cellN tk25 rfl rfl) (resV_tmp rfl) (resV_tmp rfl) rfl⟩
        · refine Wp.skip ?_
          refine Wp.text [1, 2, 5] rfl rfl ?_ -- region 3
          refine TextR.move rfl ?_
          refine TextR.int rfl rfl rfl ?_
          refine TextR.assign rfl ?_
          refine TextR.done (.cons rfl (.cons rfl (.cons rfl .nil))) ?_
          exact ⟨m1, Nat.lt_succ_self _, _, (St.Weak.trans (keepW (live := [1, 2, 5]) (.cons rfl (.cons rfl (.cons rfl .nil)))) (pickT (e' := [(1, .c (.ptr 0 0 0 0)), (2, .c (.ptr 1 0 0 0)), (5, .c (I (w64 (s5_1 + 1))))]) (H' := [.live 0 3 [[I a0.ID, I a0.Phase, .slv (a0.Sides.map eSide)]], .live 0 3 [[I 0, I 0, nilS]]]) [0, 1] [0, 1, 0] 0 hok.len.symm rfl rfl (by decide) (by first | rfl | simp [hfVs, hfV, hfL, hfAll, hfRows, mvV, mvL, mvO, mpE, mpV, mpVs, mpO, fzL, rnL, rn0, ok0, nzI, nzB, nzN, nzF, nzP, nzO, nzQ, nzC, shL, shV, shO, okV, okL, okO, List.take_of_length_le, h_Side, hfRows_map h_Side, ok_eSide, okR_eSide, fx_eSide, fxR_eSide, h_Diner, hfRows_map h_Diner, ok_eDiner, okR_eDiner, fx_eDiner, fxR_eDiner, h_Mail, hfRows_map h_Mail, ok_eMail, okR_eMail, fx_eMail, fxR_eMail, h_Msg, hfRows_map h_Msg, ok_eMsg, okR_eMsg, fx_eMsg, fxR_eMsg, -List.map_set]) (by first | rfl | simp [hfVs, hfV, hfL, hfAll, hfRows, mvV, mvL, mvO, mpE, mpV, mpVs, mpO, fzL, rnL, rn0, ok0, nzI, nzB, nzN, nzF, nzP, nzO, nzQ, nzC, shL, shV, shO, okV, okL, okO, List.take_of_length_le, h_Side, hfRows_map h_Side, ok_eSide, okR_eSide, fx_eSide, fxR_eSide, h_Diner, hfRows_map h_Diner, ok_eDiner, okR_eDiner, fx_eDiner, fxR_eDiner, h_Mail, hfRows_map h_Mail, ok_eMail, okR_eMail, fx_eMail, fxR_eMail, h_Msg, hfRows_map h_Msg, ok_eMsg, okR_eMsg, fx_eMsg, fxR_eMsg, -List.map_set]) (by first | rfl | simp [hfVs, hfV, hfL, hfAll, hfRows, mvV, mvL, mvO, mpE, mpV, mpVs, mpO, fzL, rnL, rn0, ok0, nzI, nzB, nzN, nzF, nzP, nzO, nzQ, nzC, shL, shV, shO, okV, okL, okO, List.take_of_length_le, h_Side, hfRows_map h_Side, ok_eSide, okR_eSide, fx_eSide, fxR_eSide, h_Diner, hfRows_map h_Diner, ok_eDiner, okR_eDiner, fx_eDiner, fxR_eDiner, h_Mail, hfRows_map h_Mail, ok_eMail, okR_eMail, fx_eMail, fxR_eMail, h_Msg, hfRows_map h_Msg, ok_eMsg, okR_eMsg, fx_eMsg, fxR_eMsg, -List.map_set]) (by first | rfl | simp [hfVs, hfV, hfL, hfAll, hfRows, mvV, mvL, mvO, mpE, mpV, mpVs, mpO, fzL, rnL, rn0, ok0, nzI, nzB, nzN, nzF, nzP, nzO, nzQ, nzC, shL, shV, shO, okV, okL, okO, List.take_of_length_le, h_Side, hfRows_map h_Side, ok_eSide, okR_eSide, fx_eSide, fxR_eSide, h_Diner, hfRows_map h_Diner, ok_eDiner, okR_eDiner, fx_eDiner, fxR_eDiner, h_Mail, hfRows_map h_Mail, ok_eMail, okR_eMail, fx_eMail, fxR_eMail, h_Msg, hfRows_map h_Msg, ok_eMsg, okR_eMsg, fx_eMsg, fxR_eMsg, -List.map_set]))), _, h, rfl⟩
    · refine Wp.exit ?_
      exact ⟨_, (Option.some.inj h).symm, _, (keepW (live := [1, 2]) (.cons rfl (.cons rfl .nil))), rfl⟩
  · rintro _ ⟨z3, rfl, _, hw, rfl⟩
    dsimp only at h
    clear hz1
    refine Wp.weak hw ?_
    refine Wp.seq ?_
    refine Wp.seq ?_
    refine Wp.text [1, 2, 74] rfl rfl ?_ -- region 13
    refine TextR.fieldAddr fo25_1 rfl rfl rfl ?_
    refine TextR.load1 tk22 rfl rfl ?_
    refine TextR.int rfl rfl rfl ?_
    refine TextR.done (.cons rfl (.cons rfl (.cons rfl .nil))) ?_
    refine Wp.condM h rfl (fun hc2 h => ?_) (fun hc2 h => ?_)
    · refine Wp.seq ?_
      refine Wp.text [2, 3, 4] rfl rfl ?_ -- region 14
      refine TextR.loadN (cs := [I a0.ID, I a0.Phase, .slv (a0.Sides.map eSide)]) tk25 rfl rfl ?_
      refine TextR.store1 tk25 rfl rfl rfl rfl rfl rfl (.succ .zero) ?_
      refine TextR.assign rfl ?_
      refine TextR.assign rfl ?_
      refine TextR.done (.cons rfl (.cons rfl (.cons rfl .nil))) ?_
      refine Wp.weak (keepW (live := [2, 3, 4] ) (.cons rfl (.cons rfl (.cons rfl .nil)))) ?_
      refine Wp.weak (nzT (e' := [(2, .c (.ptr 1 0 0 0)), (3, .c (.slv ([].map eMail))), (4, .c (B false))]) (H' := [.live 0 3 [[I a0.ID, I a0.Phase, .slv (a0.Sides.map eSide)]], .live 0 3 [[I a0.ID, I a0.Phase, .slv (a0.Sides.map eSide)]]]) (by first | rfl | simp [hfVs, hfV, hfL, hfAll, hfRows, mvV, mvL, mvO, mpE, mpV, mpVs, mpO, fzL, rnL, rn0, ok0, nzI, nzB, nzN, nzF, nzP, nzO, nzQ, nzC, shL, shV, shO, okV, okL, okO, List.take_of_length_le, h_Side, hfRows_map h_Side, ok_eSide, okR_eSide, fx_eSide, fxR_eSide, h_Diner, hfRows_map h_Diner, ok_eDiner, okR_eDiner, fx_eDiner, fxR_eDiner, h_Mail, hfRows_map h_Mail, ok_eMail, okR_eMail, fx_eMail, fxR_eMail, h_Msg, hfRows_map h_Msg, ok_eMsg, okR_eMsg, fx_eMsg, fxR_eMsg, -List.map_set]) (by first | rfl | simp [hfVs, hfV, hfL, hfAll, hfRows, mvV, mvL, mvO, mpE, mpV, mpVs, mpO, fzL, rnL, rn0, ok0, nzI, nzB, nzN, nzF, nzP, nzO, nzQ, nzC, shL, shV, shO, okV, okL, okO, List.take_of_length_le, h_Side, hfRows_map h_Side, ok_eSide, okR_eSide, fx_eSide, fxR_eSide, h_Diner, hfRows_map h_Diner, ok_eDiner, okR_eDiner, fx_eDiner, fxR_eDiner, h_Mail, hfRows_map h_Mail, ok_eMail, okR_eMail, fx_eMail, fxR_eMail, h_Msg, hfRows_map h_Msg, ok_eMsg, okR_eMsg, fx_eMsg, fxR_eMsg, -List.map_set])) ?_
      refine Wp.ret ?_
      obtain rfl := Option.some.inj h
      exact Ret.three rfl (resV_cellN tk25 rfl rfl) (resV_tmp rfl) (resV_tmp rfl) rfl
    · refine Wp.skip ?_
      refine Wp.seq ?_
      refine Wp.seq ?_
      refine Wp.text [1, 2, 9] rfl rfl ?_ -- region 15
      refine TextR.assign rfl ?_
      refine TextR.done (.cons rfl (.cons rfl (.cons rfl .nil))) ?_
      obtain ⟨z9, hz9, h⟩ := bind_some h
      refine Wp.fragR (fun S => ∃ z11, z9 = .inr z11 ∧ ∃ S', St.Weak ⟨Try.prog, 110, Γ⟩ S S' ∧ S' = ⟨[(1, .c (.ptr 0 0 0 0)), (2, .c (.ptr 1 0 0 0))], [.live 0 3 [[I a0.ID, I a0.Phase, .slv (a0.Sides.map eSide)]], .live 0 3 [[I 0, I 0, nilS]]]⟩) (fun S => ∃ v, z9 = .inl v ∧ Ret Try.prog Try.f29 (fun r' _ => r' = .tup [.agg (eDiner v.1), .c (.slv (v.2.1.map eMail)), .c (B v.2.2)]) .ret S) ?_ ?_ ?_
      · replace h := hz9
        refine Wp.block ?_
        refine Wp.weak (keepW (live := [1, 2, 9]) (.cons rfl (.cons rfl (.cons rfl .nil)))) ?_
        refine Wp.loop (fun m S => ∃ s9_2, narthexref13_one_L2 N a0 m s9_2 = some z9 ∧ S = ⟨[(1, .c (.ptr 0 0 0 0)), (2, .c (.ptr 1 0 0 0)), (9, .c (I s9_2))], [.live 0 3 [[I a0.ID, I a0.Phase, .slv (a0.Sides.map eSide)]], .live 0 3 [[I 0, I 0, nilS]]]⟩) N ⟨_, h, rfl⟩ ?_
        rintro m2 _ ⟨s9_2, h, rfl⟩
        cases m2 with
        | zero => rw [narthexref13_one_L2.eq_1] at h; cases h
        | succ m2 =>
        rw [narthexref13_one_L2.eq_2] at h
        refine Wp.seq ?_
        refine Wp.seq ?_
        refine Wp.text [1, 2, 9, 80] rfl rfl ?_ -- region 16
        refine TextR.move rfl ?_
        refine TextR.fieldAddr fo25_2 rfl rfl rfl ?_
        refine TextR.load1 tk23 rfl rfl ?_
        refine TextR.lenM us23 rfl rfl ?_
        refine TextR.int rfl rfl rfl ?_
        refine TextR.done (.cons rfl (.cons rfl (.cons rfl (.cons rfl .nil)))) ?_
        refine Wp.condM h rfl (fun hc4 h => ?_) (fun hc4 h => ?_)
        · refine Wp.skip ?_
          refine Wp.seq ?_
          refine Wp.block ?_
          refine Wp.seq ?_
          obtain ⟨x12, hx12, h⟩ := bind_some h
          refine Wp.text [1, 2, 9, 89] rfl rfl ?_ -- region 18
          refine TextR.fieldAddr fo25_2 rfl rfl rfl ?_
          refine TextR.load1 tk23 rfl rfl ?_
          refine TextR.move rfl ?_
          refine TextR.indexA se23 rfl rfl rfl hx12 rfl ?_
          refine TextR.fieldAddr fo47_3 rfl rfl rfl ?_
          refine TextR.load1M tk4 rfl (at_get hx12) rfl ?_
          refine TextR.not rfl ?_
          refine TextR.done (.cons rfl (.cons rfl (.cons rfl (.cons rfl .nil)))) ?_
          refine Wp.condM h rfl (fun hc5 h => ?_) (fun hc5 h => ?_)
          · refine Wp.seq ?_
            refine Wp.text [2, 3, 4] rfl rfl ?_ -- region 19
            refine TextR.loadN (cs := [I a0.ID, I a0.Phase, .slv (a0.Sides.map eSide)]) tk25 rfl rfl ?_
            refine TextR.store1 tk25 rfl rfl rfl rfl rfl rfl (.succ .zero) ?_
            refine TextR.assign rfl ?_
            refine TextR.assign rfl ?_
            refine TextR.done (.cons rfl (.cons rfl (.cons rfl .nil))) ?_
            refine Wp.weak (keepW (live := [2, 3, 4] ) (.cons rfl (.cons rfl (.cons rfl .nil)))) ?_
            refine Wp.weak (nzT (e' := [(2, .c (.ptr 1 0 0 0)), (3, .c (.slv ([].map eMail))), (4, .c (B false))]) (H' := [.live 0 3 [[I a0.ID, I a0.Phase, .slv (a0.Sides.map eSide)]], .live 0 3 [[I a0.ID, I a0.Phase, .slv (a0.Sides.map eSide)]]]) (by first | rfl | simp [hfVs, hfV, hfL, hfAll, hfRows, mvV, mvL, mvO, mpE, mpV, mpVs, mpO, fzL, rnL, rn0, ok0, nzI, nzB, nzN, nzF, nzP, nzO, nzQ, nzC, shL, shV, shO, okV, okL, okO, List.take_of_length_le, h_Side, hfRows_map h_Side, ok_eSide, okR_eSide, fx_eSide, fxR_eSide, h_Diner, hfRows_map h_Diner, ok_eDiner, okR_eDiner, fx_eDiner, fxR_eDiner, h_Mail, hfRows_map h_Mail, ok_eMail, okR_eMail, fx_eMail, fxR_eMail, h_Msg, hfRows_map h_Msg, ok_eMsg, okR_eMsg, fx_eMsg, fxR_eMsg, -List.map_set]) (by first | rfl | simp [hfVs, hfV, hfL, hfAll, hfRows, mvV, mvL, mvO, mpE, mpV, mpVs, mpO, fzL, rnL, rn0, ok0, nzI, nzB, nzN, nzF, nzP, nzO, nzQ, nzC, shL, shV, shO, okV, okL, okO, List.take_of_length_le, h_Side, hfRows_map h_Side, ok_eSide, okR_eSide, fx_eSide, fxR_eSide, h_Diner, hfRows_map h_Diner, ok_eDiner, okR_eDiner, fx_eDiner, fxR_eDiner, h_Mail, hfRows_map h_Mail, ok_eMail, okR_eMail, fx_eMail, fxR_eMail, h_Msg, hfRows_map h_Msg, ok_eMsg, okR_eMsg, fx_eMsg, fxR_eMsg, -List.map_set])) ?_
            refine Wp.ret ?_
            exact ⟨_, (Option.some.inj h).symm, Ret.three rfl (resV_cellN tk25 rfl rfl) (resV_tmp rfl) (resV_tmp rfl) rfl⟩
          · refine Wp.skip ?_
            refine Wp.text [1, 2, 9] rfl rfl ?_ -- region 17
            refine TextR.move rfl ?_
            refine TextR.int rfl rfl rfl ?_
            refine TextR.assign rfl ?_
            refine TextR.done (.cons rfl (.cons rfl (.cons rfl .nil))) ?_
            exact ⟨m2, Nat.lt_succ_self _, _, (keepW (live := [1, 2, 9]) (.cons rfl (.cons rfl (.cons rfl .nil)))), _, h, rfl⟩
        · refine Wp.exit ?_
          exact ⟨_, (Option.some.inj h).symm, _, (keepW (live := [1, 2]) (.cons rfl (.cons rfl .nil))), rfl⟩
      · rintro _ ⟨z11, rfl, _, hw, rfl⟩
        dsimp only at h
        clear hz9
        refine Wp.weak hw ?_
        refine Wp.seq ?_
        refine Wp.text [1, 2] rfl rfl ?_ -- region 20
        refine TextR.fieldAddr fo25_1 rfl rfl rfl ?_
        refine TextR.storeF (r' := [I a0.ID, I 2, .slv (a0.Sides.map eSide)]) tk22 rfl rfl rfl rfl rfl rfl rfl .zero ?_
        refine TextR.done (.cons rfl (.cons rfl .nil)) ?_
        refine Wp.seq ?_
        refine Wp.seq ?_
        refine Wp.text [1, 2, 10] rfl rfl ?_ -- region 21
        refine TextR.assign rfl ?_
        refine TextR.done (.cons rfl (.cons rfl (.cons rfl .nil))) ?_
        obtain ⟨z13, hz13, h⟩ := bind_some h
        refine Wp.fragN (fun S => ∃ S', St.Weak ⟨Try.prog, 110, Γ⟩ S S' ∧ S' = ⟨[(1, .c (.ptr 0 0 0 0)), (2, .c (.ptr 1 0 0 0))], [.live 0 3 [[I z13.1, I z13.2.1, .slv (z13.2.2.map eSide)]], .live 0 3 [[I 0, I 0, nilS]]]⟩) ?_ ?_
        · replace h := hz13
          refine Wp.block ?_
          refine Wp.weak (keepW (live := [1, 2, 10]) (.cons rfl (.cons rfl (.cons rfl .nil)))) ?_
          refine Wp.loop (fun m S => ∃ c0_0_3, ∃ c0_1_3, ∃ c0_2_3, ∃ s10_3, narthexref13_one_L3 N m c0_0_3 c0_1_3 c0_2_3 s10_3 = some z13 ∧ S = ⟨[(1, .c (.ptr 0 0 0 0)), (2, .c (.ptr 1 0 0 0)), (10, .c (I s10_3))], [.live 0 3 [[I c0_0_3, I c0_1_3, .slv (c0_2_3.map eSide)]], .live 0 3 [[I 0, I 0, nilS]]]⟩) N ⟨_, _, _, _, h, rfl⟩ ?_
          rintro m3 _ ⟨c0_0_3, c0_1_3, c0_2_3, s10_3, h, rfl⟩
          cases m3 with
          | zero => rw [narthexref13_one_L3.eq_1] at h; cases h
          | succ m3 =>
          rw [narthexref13_one_L3.eq_2] at h
          refine Wp.seq ?_
          refine Wp.seq ?_
          refine Wp.text [1, 2, 10, 96] rfl rfl ?_ -- region 22
          refine TextR.move rfl ?_
          refine TextR.fieldAddr fo25_2 rfl rfl rfl ?_
          refine TextR.load1 tk23 rfl rfl ?_
          refine TextR.lenM us23 rfl rfl ?_
          refine TextR.int rfl rfl rfl ?_
          refine TextR.done (.cons rfl (.cons rfl (.cons rfl (.cons rfl .nil)))) ?_
          refine Wp.condM h rfl (fun hc5 h => ?_) (fun hc5 h => ?_)
          · refine Wp.skip ?_
            refine Wp.seq ?_
            refine Wp.block ?_
            refine Wp.seq ?_
            obtain ⟨x14, hx14, h⟩ := bind_some h
            refine Wp.text [1, 2, 10, 11] rfl rfl ?_ -- region 24
            refine TextR.fieldAddr fo25_2 rfl rfl rfl ?_
            refine TextR.load1 tk23 rfl rfl ?_
            refine TextR.move rfl ?_
            refine TextR.indexA se23 rfl rfl rfl hx14 rfl ?_
            refine TextR.loadNM tk47 rfl (at_get hx14) rfl ?_
            refine TextR.alloc 2 zc47 rfl rfl (.cons (.cons .nil)) ?_
            refine TextR.store1 tk47 rfl rfl rfl rfl rfl rfl (.succ (.succ .zero)) ?_
            refine TextR.done (.cons rfl (.cons rfl (.cons rfl (.cons rfl .nil)))) ?_
            refine Wp.seq ?_
            refine Wp.text [1, 2, 10, 11] rfl rfl ?_ -- region 25
            refine TextR.fieldAddr fo47_4 rfl rfl rfl ?_
            refine TextR.storeF (r' := [I x14.Peer, I x14.Epoch, I x14.State, B x14.Fork, B true, B x14.Token, B x14.Bottle, B x14.Ask]) tk4 rfl rfl rfl rfl rfl rfl rfl (.succ (.succ .zero)) ?_
            refine TextR.done (.cons rfl (.cons rfl (.cons rfl (.cons rfl .nil)))) ?_
            obtain ⟨y15, hy15, h⟩ := bind_some h
            refine Wp.text [1, 2, 10] rfl rfl ?_ -- region 26
            refine TextR.loadN (cs := [I c0_0_3, I c0_1_3, .slv (c0_2_3.map eSide)]) tk25 rfl rfl ?_
            refine TextR.move rfl ?_
            refine TextR.loadN (cs := [I x14.Peer, I x14.Epoch, I x14.State, B x14.Fork, B true, B x14.Token, B x14.Bottle, B x14.Ask]) tk47 rfl rfl ?_
            refine TextR.dcall rfl rfl (c_narthexref13_Set N (⟨c0_0_3, c0_1_3, c0_2_3⟩ : TDiner) s10_3 { x14 with Dirty := true } y15 hy15 _) ?_
            refine TextR.store1 tk25 rfl rfl rfl rfl rfl rfl .zero ?_
            refine TextR.done (.cons rfl (.cons rfl (.cons rfl .nil))) ?_
            refine Wp.text [1, 2, 10] rfl rfl ?_ -- region 23
            refine TextR.move rfl ?_
            refine TextR.int rfl rfl rfl ?_
            refine TextR.assign rfl ?_
            refine TextR.done (.cons rfl (.cons rfl (.cons rfl .nil))) ?_
            exact ⟨m3, Nat.lt_succ_self _, _, (St.Weak.trans (keepW (live := [1, 2, 10]) (.cons rfl (.cons rfl (.cons rfl .nil)))) (pickT (e' := [(1, .c (.ptr 0 0 0 0)), (2, .c (.ptr 1 0 0 0)), (10, .c (I (w64 (s10_3 + 1))))]) (H' := [.live 0 3 [[I y15.ID, I y15.Phase, .slv (y15.Sides.map eSide)]], .live 0 3 [[I 0, I 0, nilS]]]) [0, 1] [0, 1, 0] 0 hok.len.symm rfl rfl (by decide) (by first | rfl | simp [hfVs, hfV, hfL, hfAll, hfRows, mvV, mvL, mvO, mpE, mpV, mpVs, mpO, fzL, rnL, rn0, ok0, nzI, nzB, nzN, nzF, nzP, nzO, nzQ, nzC, shL, shV, shO, okV, okL, okO, List.take_of_length_le, h_Side, hfRows_map h_Side, ok_eSide, okR_eSide, fx_eSide, fxR_eSide, h_Diner, hfRows_map h_Diner, ok_eDiner, okR_eDiner, fx_eDiner, fxR_eDiner, h_Mail, hfRows_map h_Mail, ok_eMail, okR_eMail, fx_eMail, fxR_eMail, h_Msg, hfRows_map h_Msg, ok_eMsg, okR_eMsg, fx_eMsg, fxR_eMsg, -List.map_set]) (by first | rfl | simp [hfVs, hfV, hfL, hfAll, hfRows, mvV, mvL, mvO, mpE, mpV, mpVs, mpO, fzL, rnL, rn0, ok0, nzI, nzB, nzN, nzF, nzP, nzO, nzQ, nzC, shL, shV, shO, okV, okL, okO, List.take_of_length_le, h_Side, hfRows_map h_Side, ok_eSide, okR_eSide, fx_eSide, fxR_eSide, h_Diner, hfRows_map h_Diner, ok_eDiner, okR_eDiner, fx_eDiner, fxR_eDiner, h_Mail, hfRows_map h_Mail, ok_eMail, okR_eMail, fx_eMail, fxR_eMail, h_Msg, hfRows_map h_Msg, ok_eMsg, okR_eMsg, fx_eMsg, fxR_eMsg, -List.map_set]) (by first | rfl | simp [hfVs, hfV, hfL, hfAll, hfRows, mvV, mvL, mvO, mpE, mpV, mpVs, mpO, fzL, rnL, rn0, ok0, nzI, nzB, nzN, nzF, nzP, nzO, nzQ, nzC, shL, shV, shO, okV, okL, okO, List.take_of_length_le, h_Side, hfRows_map h_Side, ok_eSide, okR_eSide, fx_eSide, fxR_eSide, h_Diner, hfRows_map h_Diner, ok_eDiner, okR_eDiner, fx_eDiner, fxR_eDiner, h_Mail, hfRows_map h_Mail, ok_eMail, okR_eMail, fx_eMail, fxR_eMail, h_Msg, hfRows_map h_Msg, ok_eMsg, okR_eMsg, fx_eMsg, fxR_eMsg, -List.map_set]) (by first | rfl | simp [hfVs, hfV, hfL, hfAll, hfRows, mvV, mvL, mvO, mpE, mpV, mpVs, mpO, fzL, rnL, rn0, ok0, nzI, nzB, nzN, nzF, nzP, nzO, nzQ, nzC, shL, shV, shO, okV, okL, okO, List.take_of_length_le, h_Side, hfRows_map h_Side, ok_eSide, okR_eSide, fx_eSide, fxR_eSide, h_Diner, hfRows_map h_Diner, ok_eDiner, okR_eDiner, fx_eDiner, fxR_eDiner, h_Mail, hfRows_map h_Mail, ok_eMail, okR_eMail, fx_eMail, fxR_eMail, h_Msg, hfRows_map h_Msg, ok_eMsg, okR_eMsg, fx_eMsg, fxR_eMsg, -List.map_set]))), _, _, _, _, h, rfl⟩
          · refine Wp.exit ?_
            obtain rfl := Option.some.inj h
            exact ⟨_, (keepW (live := [1, 2]) (.cons rfl (.cons rfl .nil))), rfl⟩
        rintro _ ⟨S', hw, rfl⟩
        clear hz13
        refine Wp.weak hw ?_
        refine Wp.seq ?_
        refine Wp.text [2, 3, 4] rfl rfl ?_ -- region 27
        refine TextR.loadN (cs := [I z13.1, I z13.2.1, .slv (z13.2.2.map eSide)]) tk25 rfl rfl ?_
        refine TextR.store1 tk25 rfl rfl rfl rfl rfl rfl (.succ .zero) ?_
        refine TextR.assign rfl ?_
        refine TextR.assign rfl ?_
        refine TextR.done (.cons rfl (.cons rfl (.cons rfl .nil))) ?_
        refine Wp.weak (keepW (live := [2, 3, 4] ) (.cons rfl (.cons rfl (.cons rfl .nil)))) ?_
        refine Wp.weak (nzT (e' := [(2, .c (.ptr 1 0 0 0)), (3, .c (.slv ([].map eMail))), (4, .c (B true))]) (H' := [.live 0 3 [[I z13.1, I z13.2.1, .slv (z13.2.2.map eSide)]], .live 0 3 [[I z13.1, I z13.2.1, .slv (z13.2.2.map eSide)]]]) (by first | rfl | simp [hfVs, hfV, hfL, hfAll, hfRows, mvV, mvL, mvO, mpE, mpV, mpVs, mpO, fzL, rnL, rn0, ok0, nzI, nzB, nzN, nzF, nzP, nzO, nzQ, nzC, shL, shV, shO, okV, okL, okO, List.take_of_length_le, h_Side, hfRows_map h_Side, ok_eSide, okR_eSide, fx_eSide, fxR_eSide, h_Diner, hfRows_map h_Diner, ok_eDiner, okR_eDiner, fx_eDiner, fxR_eDiner, h_Mail, hfRows_map h_Mail, ok_eMail, okR_eMail, fx_eMail, fxR_eMail, h_Msg, hfRows_map h_Msg, ok_eMsg, okR_eMsg, fx_eMsg, fxR_eMsg, -List.map_set]) (by first | rfl | simp [hfVs, hfV, hfL, hfAll, hfRows, mvV, mvL, mvO, mpE, mpV, mpVs, mpO, fzL, rnL, rn0, ok0, nzI, nzB, nzN, nzF, nzP, nzO, nzQ, nzC, shL, shV, shO, okV, okL, okO, List.take_of_length_le, h_Side, hfRows_map h_Side, ok_eSide, okR_eSide, fx_eSide, fxR_eSide, h_Diner, hfRows_map h_Diner, ok_eDiner, okR_eDiner, fx_eDiner, fxR_eDiner, h_Mail, hfRows_map h_Mail, ok_eMail, okR_eMail, fx_eMail, fxR_eMail, h_Msg, hfRows_map h_Msg, ok_eMsg, okR_eMsg, fx_eMsg, fxR_eMsg, -List.map_set])) ?_
        refine Wp.ret ?_
        obtain rfl := Option.some.inj h
        exact Ret.three rfl (resV_cellN tk25 rfl rfl) (resV_tmp rfl) (resV_tmp rfl) rfl
      · rintro S' ⟨r10, rfl, hR⟩
        dsimp only at h
        obtain rfl := Option.some.inj h
        exact hR
  · rintro S' ⟨r2, rfl, hR⟩
    dsimp only at h
    obtain rfl := Option.some.inj h
    exact hR
theorem c_narthexref13_one (N : Nat) (a0 : TDiner) (r : TDiner × (List TMail) × Bool) (h : narthexref13_one N a0 = some r) (H : List Ob) : DCall Try.prog 29 [.agg (eDiner a0)] H (.tup [.agg (eDiner r.1), .c (.slv (r.2.1.map eMail)), .c (B r.2.2)]) := DCall.lift (by first | rfl | simp [hfVs, hfV, hfL, hfAll, hfRows, mvV, mvL, mvO, mpE, mpV, mpVs, mpO, fzL, rnL, rn0, ok0, nzI, nzB, nzN, nzF, nzP, nzO, nzQ, nzC, shL, shV, shO, okV, okL, okO, List.take_of_length_le, h_Side, hfRows_map h_Side, ok_eSide, okR_eSide, fx_eSide, fxR_eSide, h_Diner, hfRows_map h_Diner, ok_eDiner, okR_eDiner, fx_eDiner, fxR_eDiner, h_Mail, hfRows_map h_Mail, ok_eMail, okR_eMail, fx_eMail, fxR_eMail, h_Msg, hfRows_map h_Msg, ok_eMsg, okR_eMsg, fx_eMsg, fxR_eMsg, -List.map_set]) (by first | rfl | simp [hfVs, hfV, hfL, hfAll, hfRows, mvV, mvL, mvO, mpE, mpV, mpVs, mpO, fzL, rnL, rn0, ok0, nzI, nzB, nzN, nzF, nzP, nzO, nzQ, nzC, shL, shV, shO, okV, okL, okO, List.take_of_length_le, h_Side, hfRows_map h_Side, ok_eSide, okR_eSide, fx_eSide, fxR_eSide, h_Diner, hfRows_map h_Diner, ok_eDiner, okR_eDiner, fx_eDiner, fxR_eDiner, h_Mail, hfRows_map h_Mail, ok_eMail, okR_eMail, fx_eMail, fxR_eMail, h_Msg, hfRows_map h_Msg, ok_eMsg, okR_eMsg, fx_eMsg, fxR_eMsg, -List.map_set]) (fun _ => by simp [hfVs, hfV, hfL, hfAll, hfRows, mvV, mvL, mvO, mpE, mpV, mpVs, mpO, fzL, rnL, rn0, ok0, nzI, nzB, nzN, nzF, nzP, nzO, nzQ, nzC, shL, shV, shO, okV, okL, okO, List.take_of_length_le, h_Side, hfRows_map h_Side, ok_eSide, okR_eSide, fx_eSide, fxR_eSide, h_Diner, hfRows_map h_Diner, ok_eDiner, okR_eDiner, fx_eDiner, fxR_eDiner, h_Mail, hfRows_map h_Mail, ok_eMail, okR_eMail, fx_eMail, fxR_eMail, h_Msg, hfRows_map h_Msg, ok_eMsg, okR_eMsg, fx_eMsg, fxR_eMsg, -List.map_set]) (w_narthexref13_one N a0 r h) H
-- narthex/narthexref13.Fire
theorem w_narthexref13_Fire (N : Nat) (a0 : TDiner) (r : TDiner × (List TMail)) (h : narthexref13_Fire N a0 = some r) : Nx.Call Try.prog 17 [.agg (eDiner a0)] [] fun r' _ => r' = .tup [.agg (eDiner r.1), .c (.slv (r.2.map eMail))] := by
  refine Nx.Call.of_body Try.func17 rfl en17 Try.ntmps17 rfl (fun Γ hok => ?_)
  unfold narthexref13_Fire at h
  refine Wp.seq ?_
  refine Wp.text [1, 2] rfl rfl ?_ -- region 0
  refine TextR.box (cs := [I a0.ID, I a0.Phase, .slv (a0.Sides.map eSide)]) 0 rfl rfl rfl rfl .nil ?_
  refine TextR.alloc 1 zc25 rfl rfl (.cons .nil) ?_
  refine TextR.assign rfl ?_
  refine TextR.done (.cons rfl (.cons rfl .nil)) ?_
  refine Wp.seq ?_
  refine Wp.text [1, 2, 4] rfl rfl ?_ -- region 1
  refine TextR.buildSlice  2 se27 rfl rfl rfl (.cons (.cons .nil)) ?_
  refine TextR.assign rfl ?_
  refine TextR.done (.cons rfl (.cons rfl (.cons rfl .nil))) ?_
  refine Wp.seq ?_
  obtain ⟨y1, hy1, h⟩ := bind_some h
  refine Wp.text [1, 2, 4, 5, 6, 7] rfl rfl ?_ -- region 2
  refine TextR.loadN (cs := [I a0.ID, I a0.Phase, .slv (a0.Sides.map eSide)]) tk25 rfl rfl ?_
  refine TextR.dcall rfl rfl (c_narthexref13_one N a0 y1 hy1 _) ?_
  refine TextR.move rfl ?_
  refine TextR.extract rfl rfl ?_
  refine TextR.extract rfl rfl ?_
  refine TextR.extract rfl rfl ?_
  refine TextR.alloc 3 zc25 rfl rfl (.cons (.cons (.cons .nil))) ?_
  refine TextR.store1 tk25 rfl rfl rfl rfl rfl rfl (.succ (.succ (.succ .zero))) ?_
  refine TextR.assign rfl ?_
  refine TextR.assign rfl ?_
  refine TextR.done (.cons rfl (.cons rfl (.cons rfl (.cons rfl (.cons rfl (.cons rfl .nil)))))) ?_
  refine Wp.seq ?_
  obtain ⟨z2, hz2, h⟩ := bind_some h
  refine Wp.fragN (fun S => ∃ wz2_2, ∃ S', St.Weak ⟨Try.prog, 28, Γ⟩ S S' ∧ S' = ⟨[(1, .c (.ptr 0 0 0 0)), (2, .c (.ptr 1 0 0 0)), (4, .c (.sl 2 wz2_2 0 z2.1.length))], [.live 0 3 [[I z2.2.1, I z2.2.2.1, .slv (z2.2.2.2.map eSide)]], .live 0 3 [[I 0, I 0, nilS]], .live wz2_2 5 (z2.1.map eMail)]⟩) ?_ ?_
  · replace h := hz2
    refine Wp.block ?_
    refine Wp.weak (keepW (live := [1, 2, 4, 5, 6, 7]) (.cons rfl (.cons rfl (.cons rfl (.cons rfl (.cons rfl (.cons rfl .nil))))))) ?_
    refine Wp.loop (fun m S => ∃ l2_1, ∃ c0_0_1, ∃ c0_1_1, ∃ c0_2_1, ∃ c3_0_1, ∃ c3_1_1, ∃ c3_2_1, ∃ s6_1, ∃ s7_1, ∃ wh2_1, narthexref13_Fire_L1 N m l2_1 c0_0_1 c0_1_1 c0_2_1 c3_0_1 c3_1_1 c3_2_1 s6_1 s7_1 = some z2 ∧ S = ⟨[(1, .c (.ptr 0 0 0 0)), (2, .c (.ptr 1 0 0 0)), (4, .c (.sl 2 wh2_1 0 l2_1.length)), (5, .c (.ptr 3 0 0 0)), (6, .c (.slv (s6_1.map eMail))), (7, .c (B s7_1))], [.live 0 3 [[I c0_0_1, I c0_1_1, .slv (c0_2_1.map eSide)]], .live 0 3 [[I 0, I 0, nilS]], .live wh2_1 5 (l2_1.map eMail), .live 0 3 [[I c3_0_1, I c3_1_1, .slv (c3_2_1.map eSide)]]]⟩) N ⟨_, _, _, _, _, _, _, _, _, _, h, rfl⟩ ?_
    rintro m1 _ ⟨l2_1, c0_0_1, c0_1_1, c0_2_1, c3_0_1, c3_1_1, c3_2_1, s6_1, s7_1, wh2_1, h, rfl⟩
    cases m1 with
    | zero => rw [narthexref13_Fire_L1.eq_1] at h; cases h
    | succ m1 =>
    rw [narthexref13_Fire_L1.eq_2] at h
    refine Wp.seq ?_
    refine Wp.seq ?_
    refine Wp.text [1, 2, 4, 5, 6, 15] rfl rfl ?_ -- region 3
    refine TextR.move rfl ?_
    refine TextR.done (.cons rfl (.cons rfl (.cons rfl (.cons rfl (.cons rfl (.cons rfl .nil)))))) ?_
    refine Wp.condM h rfl (fun hc2 h => ?_) (fun hc2 h => ?_)
    · refine Wp.skip ?_
      refine Wp.block ?_
      refine Wp.seq ?_
      refine Wp.text [1, 2, 4, 5, 6] rfl rfl ?_ -- region 4
      refine TextR.loadN (cs := [I c3_0_1, I c3_1_1, .slv (c3_2_1.map eSide)]) tk25 rfl rfl ?_
      refine TextR.store1 tk25 rfl rfl rfl rfl rfl rfl .zero ?_
      refine TextR.done (.cons rfl (.cons rfl (.cons rfl (.cons rfl (.cons rfl .nil))))) ?_
      refine Wp.seq ?_
      obtain ⟨x3, hx3, h⟩ := bind_some h
      refine Wp.text [1, 2, 4, 5] rfl rfl ?_ -- region 5
      refine TextR.move rfl ?_
      refine TextR.move rfl ?_
      refine TextR.appendM eMail l2_1 s6_1 x3 (app_eq hx3) se27 rfl (obj_of rfl) rfl rfl (fun _ => rfl) rfl (app_len hx3) (.succ (.succ .zero)) ?_
      refine TextR.assign rfl ?_
      refine TextR.done (.cons rfl (.cons rfl (.cons rfl (.cons rfl .nil)))) ?_
      obtain ⟨y4, hy4, h⟩ := bind_some h
      refine Wp.text [1, 2, 4, 5, 6, 7] rfl rfl ?_ -- region 6
      refine TextR.loadN (cs := [I c3_0_1, I c3_1_1, .slv (c3_2_1.map eSide)]) tk25 rfl rfl ?_
      refine TextR.dcall rfl rfl (c_narthexref13_one N (⟨c3_0_1, c3_1_1, c3_2_1⟩ : TDiner) y4 hy4 _) ?_
      refine TextR.move rfl ?_
      refine TextR.extract rfl rfl ?_
      refine TextR.extract rfl rfl ?_
      refine TextR.extract rfl rfl ?_
      refine TextR.store1 tk25 rfl rfl rfl rfl rfl rfl (.succ (.succ (.succ .zero))) ?_
      refine TextR.assign rfl ?_
      refine TextR.assign rfl ?_
      refine TextR.done (.cons rfl (.cons rfl (.cons rfl (.cons rfl (.cons rfl (.cons rfl .nil)))))) ?_
      exact ⟨m1, Nat.lt_succ_self _, _, (keepW (live := [1, 2, 4, 5, 6, 7]) (.cons rfl (.cons rfl (.cons rfl (.cons rfl (.cons rfl (.cons rfl .nil))))))), _, _, _, _, _, _, _, _, _, _, h, rfl⟩
    · refine Wp.exit ?_
      obtain rfl := Option.some.inj h
      exact ⟨_, _, (St.Weak.trans (keepW (live := [1, 2, 4]) (.cons rfl (.cons rfl (.cons rfl .nil)))) (pickT (e' := [(1, .c (.ptr 0 0 0 0)), (2, .c (.ptr 1 0 0 0)), (4, .c (.sl 2 wh2_1 0 l2_1.length))]) (H' := [.live 0 3 [[I c0_0_1, I c0_1_1, .slv (c0_2_1.map eSide)]], .live 0 3 [[I 0, I 0, nilS]], .live wh2_1 5 (l2_1.map eMail)]) [0, 1, 2] [0, 1, 2, 0] 0 hok.len.symm rfl rfl (by decide) (by first | rfl | simp [hfVs, hfV, hfL, hfAll, hfRows, mvV, mvL, mvO, mpE, mpV, mpVs, mpO, fzL, rnL, rn0, ok0, nzI, nzB, nzN, nzF, nzP, nzO, nzQ, nzC, shL, shV, shO, okV, okL, okO, List.take_of_length_le, h_Side, hfRows_map h_Side, ok_eSide, okR_eSide, fx_eSide, fxR_eSide, h_Diner, hfRows_map h_Diner, ok_eDiner, okR_eDiner, fx_eDiner, fxR_eDiner, h_Mail, hfRows_map h_Mail, ok_eMail, okR_eMail, fx_eMail, fxR_eMail, h_Msg, hfRows_map h_Msg, ok_eMsg, okR_eMsg, fx_eMsg, fxR_eMsg, -List.map_set]) (by first | rfl | simp [hfVs, hfV, hfL, hfAll, hfRows, mvV, mvL, mvO, mpE, mpV, mpVs, mpO, fzL, rnL, rn0, ok0, nzI, nzB, nzN, nzF, nzP, nzO, nzQ, nzC, shL, shV, shO, okV, okL, okO, List.take_of_length_le, h_Side, hfRows_map h_Side, ok_eSide, okR_eSide, fx_eSide, fxR_eSide, h_Diner, hfRows_map h_Diner, ok_eDiner, okR_eDiner, fx_eDiner, fxR_eDiner, h_Mail, hfRows_map h_Mail, ok_eMail, okR_eMail, fx_eMail, fxR_eMail, h_Msg, hfRows_map h_Msg, ok_eMsg, okR_eMsg, fx_eMsg, fxR_eMsg, -List.map_set]) (by first | rfl | simp [hfVs, hfV, hfL, hfAll, hfRows, mvV, mvL, mvO, mpE, mpV, mpVs, mpO, fzL, rnL, rn0, ok0, nzI, nzB, nzN, nzF, nzP, nzO, nzQ, nzC, shL, shV, shO, okV, okL, okO, List.take_of_length_le, h_Side, hfRows_map h_Side, ok_eSide, okR_eSide, fx_eSide, fxR_eSide, h_Diner, hfRows_map h_Diner, ok_eDiner, okR_eDiner, fx_eDiner, fxR_eDiner, h_Mail, hfRows_map h_Mail, ok_eMail, okR_eMail, fx_eMail, fxR_eMail, h_Msg, hfRows_map h_Msg, ok_eMsg, okR_eMsg, fx_eMsg, fxR_eMsg, -List.map_set]) (by first | rfl | simp [hfVs, hfV, hfL, hfAll, hfRows, mvV, mvL, mvO, mpE, mpV, mpVs, mpO, fzL, rnL, rn0, ok0, nzI, nzB, nzN, nzF, nzP, nzO, nzQ, nzC, shL, shV, shO, okV, okL, okO, List.take_of_length_le, h_Side, hfRows_map h_Side, ok_eSide, okR_eSide, fx_eSide, fxR_eSide, h_Diner, hfRows_map h_Diner, ok_eDiner, okR_eDiner, fx_eDiner, fxR_eDiner, h_Mail, hfRows_map h_Mail, ok_eMail, okR_eMail, fx_eMail, fxR_eMail, h_Msg, hfRows_map h_Msg, ok_eMsg, okR_eMsg, fx_eMsg, fxR_eMsg, -List.map_set]))), rfl⟩
  rintro _ ⟨wz2_2, S', hw, rfl⟩
  clear hz2
  refine Wp.weak hw ?_
  refine Wp.seq ?_
  refine Wp.text [2, 3] rfl rfl ?_ -- region 7
  refine TextR.loadN (cs := [I z2.2.1, I z2.2.2.1, .slv (z2.2.2.2.map eSide)]) tk25 rfl rfl ?_
  refine TextR.move rfl ?_
  refine TextR.store1 tk25 rfl rfl rfl rfl rfl rfl (.succ .zero) ?_
  refine TextR.assign rfl ?_
  refine TextR.done (.cons rfl (.cons rfl .nil)) ?_
  refine Wp.weak (keepW (live := [2, 3] ) (.cons rfl (.cons rfl .nil))) ?_
  refine Wp.weak (freezeW (h := 2) (ver := wz2_2) (rows := z2.1.map eMail) (e' := [(2, .c (.ptr 1 0 0 0)), (3, .c (.slv (z2.1.map eMail)))]) (H' := [.live 0 3 [[I z2.2.1, I z2.2.2.1, .slv (z2.2.2.2.map eSide)]], .live 0 3 [[I z2.2.1, I z2.2.2.1, .slv (z2.2.2.2.map eSide)]], .dead]) (obj_of rfl) (by first | rfl | simp [hfVs, hfV, hfL, hfAll, hfRows, mvV, mvL, mvO, mpE, mpV, mpVs, mpO, fzL, rnL, rn0, ok0, nzI, nzB, nzN, nzF, nzP, nzO, nzQ, nzC, shL, shV, shO, okV, okL, okO, List.take_of_length_le, h_Side, hfRows_map h_Side, ok_eSide, okR_eSide, fx_eSide, fxR_eSide, h_Diner, hfRows_map h_Diner, ok_eDiner, okR_eDiner, fx_eDiner, fxR_eDiner, h_Mail, hfRows_map h_Mail, ok_eMail, okR_eMail, fx_eMail, fxR_eMail, h_Msg, hfRows_map h_Msg, ok_eMsg, okR_eMsg, fx_eMsg, fxR_eMsg, -List.map_set]) (by first | rfl | simp [hfVs, hfV, hfL, hfAll, hfRows, mvV, mvL, mvO, mpE, mpV, mpVs, mpO, fzL, rnL, rn0, ok0, nzI, nzB, nzN, nzF, nzP, nzO, nzQ, nzC, shL, shV, shO, okV, okL, okO, List.take_of_length_le, h_Side, hfRows_map h_Side, ok_eSide, okR_eSide, fx_eSide, fxR_eSide, h_Diner, hfRows_map h_Diner, ok_eDiner, okR_eDiner, fx_eDiner, fxR_eDiner, h_Mail, hfRows_map h_Mail, ok_eMail, okR_eMail, fx_eMail, fxR_eMail, h_Msg, hfRows_map h_Msg, ok_eMsg, okR_eMsg, fx_eMsg, fxR_eMsg, -List.map_set])) ?_
  refine Wp.ret ?_
  obtain rfl := Option.some.inj h
  exact Ret.two rfl (resV_cellN tk25 rfl rfl) (resV_tmp rfl) rfl
theorem c_narthexref13_Fire (N : Nat) (a0 : TDiner) (r : TDiner × (List TMail)) (h : narthexref13_Fire N a0 = some r) (H : List Ob) : DCall Try.prog 17 [.agg (eDiner a0)] H (.tup [.agg (eDiner r.1), .c (.slv (r.2.map eMail))]) := DCall.lift (by first | rfl | simp [hfVs, hfV, hfL, hfAll, hfRows, mvV, mvL, mvO, mpE, mpV, mpVs, mpO, fzL, rnL, rn0, ok0, nzI, nzB, nzN, nzF, nzP, nzO, nzQ, nzC, shL, shV, shO, okV, okL, okO, List.take_of_length_le, h_Side, hfRows_map h_Side, ok_eSide, okR_eSide, fx_eSide, fxR_eSide, h_Diner, hfRows_map h_Diner, ok_eDiner, okR_eDiner, fx_eDiner, fxR_eDiner, h_Mail, hfRows_map h_Mail, ok_eMail, okR_eMail, fx_eMail, fxR_eMail, h_Msg, hfRows_map h_Msg, ok_eMsg, okR_eMsg, fx_eMsg, fxR_eMsg, -List.map_set]) (by first | rfl | simp [hfVs, hfV, hfL, hfAll, hfRows, mvV, mvL, mvO, mpE, mpV, mpVs, mpO, fzL, rnL, rn0, ok0, nzI, nzB, nzN, nzF, nzP, nzO, nzQ, nzC, shL, shV, shO, okV, okL, okO, List.take_of_length_le, h_Side, hfRows_map h_Side, ok_eSide, okR_eSide, fx_eSide, fxR_eSide, h_Diner, hfRows_map h_Diner, ok_eDiner, okR_eDiner, fx_eDiner, fxR_eDiner, h_Mail, hfRows_map h_Mail, ok_eMail, okR_eMail, fx_eMail, fxR_eMail, h_Msg, hfRows_map h_Msg, ok_eMsg, okR_eMsg, fx_eMsg, fxR_eMsg, -List.map_set]) (fun _ => by simp [hfVs, hfV, hfL, hfAll, hfRows, mvV, mvL, mvO, mpE, mpV, mpVs, mpO, fzL, rnL, rn0, ok0, nzI, nzB, nzN, nzF, nzP, nzO, nzQ, nzC, shL, shV, shO, okV, okL, okO, List.take_of_length_le, h_Side, hfRows_map h_Side, ok_eSide, okR_eSide, fx_eSide, fxR_eSide, h_Diner, hfRows_map h_Diner, ok_eDiner, okR_eDiner, fx_eDiner, fxR_eDiner, h_Mail, hfRows_map h_Mail, ok_eMail, okR_eMail, fx_eMail, fxR_eMail, h_Msg, hfRows_map h_Msg, ok_eMsg, okR_eMsg, fx_eMsg, fxR_eMsg, -List.map_set]) (w_narthexref13_Fire N a0 r h) H
-- narthex/narthexref13.SameMail
theorem w_narthexref13_SameMail (N : Nat) (a0 : List TMail) (a1 : List TMail) (r : Bool) (h : narthexref13_SameMail N a0 a1 = some r) : Nx.Call Try.prog 18 [.c (.slv (a0.map eMail)), .c (.slv (a1.map eMail))] [] fun r' _ => r' = .c (B r) := by
  refine Nx.Call.of_body Try.func18 rfl en18 Try.ntmps18 rfl (fun Γ hok => ?_)
  unfold narthexref13_SameMail at h
  refine Wp.seq ?_
  refine Wp.text [0, 1] rfl rfl ?_ -- region 0
  refine TextR.assign rfl ?_
  refine TextR.done (.cons rfl (.cons rfl .nil)) ?_
  refine Wp.seq ?_
  refine Wp.seq ?_
  refine Wp.text [0, 1, 10] rfl rfl ?_ -- region 1
  refine TextR.move rfl ?_
  refine TextR.lenM us27 rfl rfl ?_
  refine TextR.move rfl ?_
  refine TextR.lenM us27 rfl rfl ?_
  refine TextR.int rfl rfl rfl ?_
  refine TextR.done (.cons rfl (.cons rfl (.cons rfl .nil))) ?_
  refine Wp.condM h rfl (fun hc1 h => ?_) (fun hc1 h => ?_)
  · refine Wp.seq ?_
    refine Wp.text [4] rfl rfl ?_ -- region 2
    refine TextR.assign rfl ?_
    refine TextR.done (.cons rfl .nil) ?_
    refine Wp.ret ?_
    obtain rfl := Option.some.inj h
    exact Ret.one rfl (resV_tmp rfl) rfl
  · refine Wp.skip ?_
    refine Wp.seq ?_
    refine Wp.seq ?_
    refine Wp.text [0, 1, 5] rfl rfl ?_ -- region 3
    refine TextR.assign rfl ?_
    refine TextR.done (.cons rfl (.cons rfl (.cons rfl .nil))) ?_
    obtain ⟨z1, hz1, h⟩ := bind_some h
    refine Wp.fragR (fun S => ∃ z3, z1 = .inr z3 ∧ ∃ S', St.Weak ⟨Try.prog, 26, Γ⟩ S S' ∧ S' = ⟨[], []⟩) (fun S => ∃ v, z1 = .inl v ∧ Ret Try.prog Try.f18 (fun r' _ => r' = .c (B v)) .ret S) ?_ ?_ ?_
    · replace h := hz1
      refine Wp.block ?_
      refine Wp.weak (keepW (live := [0, 1, 5]) (.cons rfl (.cons rfl (.cons rfl .nil)))) ?_
      refine Wp.loop (fun m S => ∃ s5_1, narthexref13_SameMail_L1 N a0 a1 m s5_1 = some z1 ∧ S = ⟨[(0, .c (.slv (a0.map eMail))), (1, .c (.slv (a1.map eMail))), (5, .c (I s5_1))], []⟩) N ⟨_, h, rfl⟩ ?_
      rintro m1 _ ⟨s5_1, h, rfl⟩
      cases m1 with
      | zero => rw [narthexref13_SameMail_L1.eq_1] at h; cases h
      | succ m1 =>
      rw [narthexref13_SameMail_L1.eq_2] at h
      refine Wp.seq ?_
      refine Wp.seq ?_
      refine Wp.text [0, 1, 5, 14] rfl rfl ?_ -- region 4
      refine TextR.move rfl ?_
      refine TextR.move rfl ?_
      refine TextR.lenM us27 rfl rfl ?_
      refine TextR.int rfl rfl rfl ?_
      refine TextR.done (.cons rfl (.cons rfl (.cons rfl (.cons rfl .nil)))) ?_
      refine Wp.condM h rfl (fun hc3 h => ?_) (fun hc3 h => ?_)
      · refine Wp.skip ?_
        refine Wp.seq ?_
        refine Wp.block ?_
        refine Wp.seq ?_
        obtain ⟨x4, hx4, h⟩ := bind_some h
        obtain ⟨x5, hx5, h⟩ := bind_some h
        refine Wp.go true (some []) [] [] [0, 1, 5, 25] mixed rfl rfl (by kernel_rfl) ?_ -- region 6
        refine RunR.move rfl rfl rfl ?_
        refine RunR.move rfl rfl rfl ?_
        refine RunR.indexA se27 rfl rfl rfl rfl rfl hx4 rfl ?_
        refine RunR.loadNM tk49 rfl rfl rfl (at_get hx4) rfl ?_
        refine RunR.move rfl rfl rfl ?_
        refine RunR.move rfl rfl rfl ?_
        refine RunR.indexA se27 rfl rfl rfl rfl rfl hx5 rfl ?_
        refine RunR.loadNM tk49 rfl rfl rfl (at_get hx5) rfl ?_
        refine RunR.neAgg eqs49 rfl rfl rfl rfl (q_Mail x4 x5) ?_
        refine RunR.doneQ (.cons rfl (.cons rfl (.cons rfl (.cons rfl .nil)))) ?_
        refine Wp.condM h rfl (fun hc4 h => ?_) (fun hc4 h => ?_)
        · refine Wp.seq ?_
          refine Wp.text [4] rfl rfl ?_ -- region 7
          refine TextR.assign rfl ?_
          refine TextR.done (.cons rfl .nil) ?_
          refine Wp.ret ?_
          exact ⟨_, (Option.some.inj h).symm, Ret.one rfl (resV_tmp rfl) rfl⟩
        · refine Wp.skip ?_
          refine Wp.text [0, 1, 5] rfl rfl ?_ -- region 5
          refine TextR.move rfl ?_
          refine TextR.int rfl rfl rfl ?_
          refine TextR.assign rfl ?_
          refine TextR.done (.cons rfl (.cons rfl (.cons rfl .nil))) ?_
          exact ⟨m1, Nat.lt_succ_self _, _, (keepW (live := [0, 1, 5]) (.cons rfl (.cons rfl (.cons rfl .nil)))), _, h, rfl⟩
      · refine Wp.exit ?_
        exact ⟨_, (Option.some.inj h).symm, _, (keepW (live := []) .nil), rfl⟩
    · rintro _ ⟨z3, rfl, _, hw, rfl⟩
      dsimp only at h
      clear hz1
      refine Wp.weak hw ?_
      refine Wp.seq ?_
      refine Wp.text [4] rfl rfl ?_ -- region 8
      refine TextR.assign rfl ?_
      refine TextR.done (.cons rfl .nil) ?_
      refine Wp.ret ?_
      obtain rfl := Option.some.inj h
      exact Ret.one rfl (resV_tmp rfl) rfl
    · rintro S' ⟨r2, rfl, hR⟩
      dsimp only at h
      obtain rfl := Option.some.inj h
      exact hR
theorem c_narthexref13_SameMail (N : Nat) (a0 : List TMail) (a1 : List TMail) (r : Bool) (h : narthexref13_SameMail N a0 a1 = some r) (H : List Ob) : DCall Try.prog 18 [.c (.slv (a0.map eMail)), .c (.slv (a1.map eMail))] H (.c (B r)) := DCall.lift (by first | rfl | simp [hfVs, hfV, hfL, hfAll, hfRows, mvV, mvL, mvO, mpE, mpV, mpVs, mpO, fzL, rnL, rn0, ok0, nzI, nzB, nzN, nzF, nzP, nzO, nzQ, nzC, shL, shV, shO, okV, okL, okO, List.take_of_length_le, h_Side, hfRows_map h_Side, ok_eSide, okR_eSide, fx_eSide, fxR_eSide, h_Diner, hfRows_map h_Diner, ok_eDiner, okR_eDiner, fx_eDiner, fxR_eDiner, h_Mail, hfRows_map h_Mail, ok_eMail, okR_eMail, fx_eMail, fxR_eMail, h_Msg, hfRows_map h_Msg, ok_eMsg, okR_eMsg, fx_eMsg, fxR_eMsg, -List.map_set]) (by first | rfl | simp [hfVs, hfV, hfL, hfAll, hfRows, mvV, mvL, mvO, mpE, mpV, mpVs, mpO, fzL, rnL, rn0, ok0, nzI, nzB, nzN, nzF, nzP, nzO, nzQ, nzC, shL, shV, shO, okV, okL, okO, List.take_of_length_le, h_Side, hfRows_map h_Side, ok_eSide, okR_eSide, fx_eSide, fxR_eSide, h_Diner, hfRows_map h_Diner, ok_eDiner, okR_eDiner, fx_eDiner, fxR_eDiner, h_Mail, hfRows_map h_Mail, ok_eMail, okR_eMail, fx_eMail, fxR_eMail, h_Msg, hfRows_map h_Msg, ok_eMsg, okR_eMsg, fx_eMsg, fxR_eMsg, -List.map_set]) (fun _ => by simp [hfVs, hfV, hfL, hfAll, hfRows, mvV, mvL, mvO, mpE, mpV, mpVs, mpO, fzL, rnL, rn0, ok0, nzI, nzB, nzN, nzF, nzP, nzO, nzQ, nzC, shL, shV, shO, okV, okL, okO, List.take_of_length_le, h_Side, hfRows_map h_Side, ok_eSide, okR_eSide, fx_eSide, fxR_eSide, h_Diner, hfRows_map h_Diner, ok_eDiner, okR_eDiner, fx_eDiner, fxR_eDiner, h_Mail, hfRows_map h_Mail, ok_eMail, okR_eMail, fx_eMail, fxR_eMail, h_Msg, hfRows_map h_Msg, ok_eMsg, okR_eMsg, fx_eMsg, fxR_eMsg, -List.map_set]) (w_narthexref13_SameMail N a0 a1 r h) H
end Go.Proofs.Ytcnbkfgajnlbpaa
