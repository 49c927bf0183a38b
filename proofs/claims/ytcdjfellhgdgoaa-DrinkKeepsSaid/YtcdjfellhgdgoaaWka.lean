/- The functions do what their models say. -/
import Derived.Test.YtcdjfellhgdgoaaEnc
import Derived.Test.YtcdjfellhgdgoaaLaid
namespace Go.Proofs.Ytcdjfellhgdgoaa
open Go Go.Nx
set_option linter.unusedVariables false
set_option linter.unusedSimpArgs false
set_option linter.unnecessarySimpa false
set_option maxRecDepth 8000
attribute [local simp] putSeg List.map_take List.map_drop rvL rvK bwL hfVs hfV hfL hfAll hfRows mvV mvL mv0 sh0 mvO mpE mpV mpVs mpO fzL rnL rn0 ok0 nzI nzB nzN nzF nzP nzO nzQ nzC shL shV shO okV okL okO List.take_of_length_le h_Side hm_Side ok_eSide okR_eSide fx_eSide fxR_eSide h_I hm_I ok_eI okR_eI fx_eI fxR_eI h_Diner hm_Diner ok_eDiner okR_eDiner fx_eDiner fxR_eDiner h_Drinker hm_Drinker ok_eDrinker okR_eDrinker fx_eDrinker fxR_eDrinker h_Mail hm_Mail ok_eMail okR_eMail fx_eMail fxR_eMail h_Msg hm_Msg ok_eMsg okR_eMsg fx_eMsg fxR_eMsg
-- narthex/dine.Check$1
theorem w_dine_Check_1 (N : Nat) (a0 : TSide) (c0_0 : Int) (c0_1 : Int) (c0_2 : List TSide) (c1_0 : Int) (r : Bool × Int) (h : dine_Check_1 N a0 c0_0 c0_1 c0_2 c1_0 = some r) : Nx.Call Try.prog 59 [.agg (eSide a0), .c (.ptr 1 0 0 0), .c (.ptr 0 0 0 0)] [.live 0 3 [[I c0_0, I c0_1, .slv (c0_2.map eSide)]], .live 0 1 [[I c1_0]]] fun r' H' => r' = .c (B r.1) ∧ ∃ junk, H' = [.live 0 3 [[I c0_0, I c0_1, .slv (c0_2.map eSide)]], .live 0 1 [[I r.2]]] ++ junk := by
  refine Nx.Call.of_body Try.func59 rfl en59 Try.ntmps59 rfl (fun Γ hok => ?_)
  unfold dine_Check_1 at h
  refine Wp.seq ?_
  refine Wp.text [1, 2, 3] rfl rfl ?_ -- region 0
  refine TextR.box (cs := [I a0.Peer, I a0.Epoch, I a0.State, B a0.Fork, B a0.Dirty, B a0.Token, B a0.Bottle, B a0.Ask]) 2 rfl rfl rfl rfl (.cons (.cons .nil)) ?_
  refine TextR.assign rfl ?_
  refine TextR.done (.cons rfl (.cons rfl (.cons rfl .nil))) ?_
  refine Wp.seq ?_
  refine Wp.go false none [[], [], [], [], [], [(10, true)], [(10, true)], [(10, true)], [(10, true)], [(10, true)], [], []] [] [1, 3, 5] mixed rfl rfl (by kernel_rfl) ?_ -- region 1
  refine RunR.fieldAddr fo53_0 rfl rfl rfl rfl rfl ?_
  refine RunR.load1 tk3 rfl rfl rfl rfl ?_
  refine RunR.load1 tk3 rfl rfl rfl rfl ?_
  refine RunR.int rfl rfl rfl rfl rfl ?_
  refine RunR.move rfl rfl rfl ?_
  refine RunR.fieldAddr fo53_0 rfl rfl rfl rfl rfl ?_
  refine RunR.load1 tk3 rfl rfl rfl rfl ?_
  refine RunR.fieldAddr fo25_0 rfl rfl rfl rfl rfl ?_
  refine RunR.load1 tk3 rfl rfl rfl rfl ?_
  refine RunR.int rfl rfl rfl rfl rfl ?_
  refine RunR.pickAnd rfl rfl rfl rfl ?_
  refine RunR.assign rfl rfl rfl ?_
  refine RunR.doneQ (.cons rfl (.cons rfl (.cons rfl .nil))) ?_
  refine Wp.seq ?_
  refine Wp.text [3, 5] rfl rfl ?_ -- region 2
  refine TextR.fieldAddr fo53_0 rfl rfl rfl ?_
  refine TextR.load1 tk3 rfl rfl ?_
  refine TextR.store1 tk3 rfl rfl rfl rfl rfl rfl (.succ .zero) ?_
  refine TextR.done (.cons rfl (.cons rfl .nil)) ?_
  refine Wp.seq ?_
  refine Wp.go false none [[], [], [], [(21, false)], [(21, false)], [(21, false)], [], [], [(26, false)], [(26, false)], [(26, false)], [], [], [(31, false)], [(31, false)], [(31, false)], [], [], [(36, false)], [(36, false)], [(36, false)], [], [], [(41, false)], [(41, false)], [(41, false)], [(44, true), (41, false)], [(44, true), (41, false)], [(44, true), (41, false)], [(41, false)], [], []] [] [4] mixed rfl rfl (by kernel_rfl) ?_ -- region 3
  refine RunR.move rfl rfl rfl ?_
  refine RunR.not rfl rfl rfl ?_
  refine RunR.move rfl rfl rfl ?_
  refine RunR.fieldAddr fo53_1 rfl rfl rfl rfl rfl ?_
  refine RunR.load1 tk3 rfl rfl rfl rfl ?_
  refine RunR.int rfl rfl rfl rfl rfl ?_
  refine RunR.pickOr rfl rfl rfl rfl ?_
  refine RunR.move rfl rfl rfl ?_
  refine RunR.fieldAddr fo53_1 rfl rfl rfl rfl rfl ?_
  refine RunR.load1 tk3 rfl rfl rfl rfl ?_
  refine RunR.int rfl rfl rfl rfl rfl ?_
  refine RunR.pickOr rfl rfl rfl rfl ?_
  refine RunR.move rfl rfl rfl ?_
  refine RunR.fieldAddr fo53_2 rfl rfl rfl rfl rfl ?_
  refine RunR.load1 tk51 rfl rfl rfl rfl ?_
  refine RunR.int rfl rfl rfl rfl rfl ?_
  refine RunR.pickOr rfl rfl rfl rfl ?_
  refine RunR.move rfl rfl rfl ?_
  refine RunR.fieldAddr fo53_2 rfl rfl rfl rfl rfl ?_
  refine RunR.load1 tk51 rfl rfl rfl rfl ?_
  refine RunR.int rfl rfl rfl rfl rfl ?_
  refine RunR.pickOr rfl rfl rfl rfl ?_
  refine RunR.move rfl rfl rfl ?_
  refine RunR.fieldAddr fo53_4 rfl rfl rfl rfl rfl ?_
  refine RunR.load1 tk4 rfl rfl rfl rfl ?_
  refine RunR.move rfl rfl rfl ?_
  refine RunR.fieldAddr fo53_3 rfl rfl rfl rfl rfl ?_
  refine RunR.load1 tk4 rfl rfl rfl rfl ?_
  refine RunR.not rfl rfl rfl ?_
  refine RunR.pickAnd rfl rfl rfl rfl ?_
  refine RunR.pickOr rfl rfl rfl rfl ?_
  refine RunR.assign rfl rfl rfl ?_
  refine RunR.doneQ (.cons rfl .nil) ?_
  refine Wp.ret ?_
  obtain rfl := Option.some.inj h
  exact Ret.one rfl (resV_tmp rfl) ⟨rfl, _, rfl⟩
theorem c_dine_Check_1 (N : Nat) (a0 : TSide) (c0_0 : Int) (c0_1 : Int) (c0_2 : List TSide) (c1_0 : Int) (r : Bool × Int) (h : dine_Check_1 N a0 c0_0 c0_1 c0_2 c1_0 = some r) : Nx.Call Try.prog 59 [.agg (eSide a0), .c (.ptr 1 0 0 0), .c (.ptr 0 0 0 0)] [.live 0 3 [[I c0_0, I c0_1, .slv (c0_2.map eSide)]], .live 0 1 [[I c1_0]]] fun r' H' => r' = .c (B r.1) ∧ H' = [.live 0 3 [[I c0_0, I c0_1, .slv (c0_2.map eSide)]], .live 0 1 [[I r.2]]] := Call.trim (by simp) (by first | rfl | simp [-List.map_set]) (by first | rfl | simp [-List.map_set]) (w_dine_Check_1 N a0 c0_0 c0_1 c0_2 c1_0 r h)
-- slices.IndexFunc[[]narthex/api.Side,narthex/api.Side]
theorem w_slices_IndexFunc_Side (N : Nat) (a0 : List TSide) (c0_0 : Int) (c0_1 : Int) (c0_2 : List TSide) (c1_0 : Int) (r : Int × Int) (h : slices_IndexFunc_Side N a0 c0_0 c0_1 c0_2 c1_0 = some r) : Nx.Call Try.prog 44 [.c (.slv (a0.map eSide)), .c (.clo 59 [.ptr 1 0 0 0, .ptr 0 0 0 0])] [.live 0 3 [[I c0_0, I c0_1, .slv (c0_2.map eSide)]], .live 0 1 [[I c1_0]]] fun r' H' => r' = .c (I r.1) ∧ ∃ junk, H' = [.live 0 3 [[I c0_0, I c0_1, .slv (c0_2.map eSide)]], .live 0 1 [[I r.2]]] ++ junk := by
  refine Nx.Call.of_body Try.func44 rfl en44 Try.ntmps44 rfl (fun Γ hok => ?_)
  unfold slices_IndexFunc_Side at h
  refine Wp.seq ?_
  refine Wp.text [0, 1] rfl rfl ?_ -- region 0
  refine TextR.assign rfl ?_
  refine TextR.done (.cons rfl (.cons rfl .nil)) ?_
  refine Wp.seq ?_
  refine Wp.seq ?_
  refine Wp.text [0, 1, 7, 8] rfl rfl ?_ -- region 1
  refine TextR.move rfl ?_
  refine TextR.lenM us23 rfl rfl ?_
  refine TextR.move rfl ?_
  refine TextR.done (.cons rfl (.cons rfl (.cons rfl (.cons rfl .nil)))) ?_
  obtain ⟨z1, hz1, h⟩ := bind_some h
  refine Wp.fragR (fun S => ∃ z3, z1 = .inr z3 ∧ ∃ S', St.Weak ⟨Try.prog, 19, Γ⟩ S S' ∧ S' = ⟨[], [.live 0 3 [[I c0_0, I c0_1, .slv (c0_2.map eSide)]], .live 0 1 [[I z3]]]⟩) (fun S => ∃ v, z1 = .inl v ∧ Ret Try.prog Try.f44 (fun r' H' => r' = .c (I v.1) ∧ ∃ junk, H' = [.live 0 3 [[I c0_0, I c0_1, .slv (c0_2.map eSide)]], .live 0 1 [[I v.2]]] ++ junk) .ret S) ?_ ?_ ?_
  · replace h := hz1
    refine Wp.block ?_
    refine Wp.weak (keepW (live := [0, 1, 7, 8]) (.cons rfl (.cons rfl (.cons rfl (.cons rfl .nil))))) ?_
    refine Wp.loop (fun m S => ∃ c1_0_1, ∃ s8_1, slices_IndexFunc_Side_L1 N a0 c0_0 c0_1 c0_2 m c1_0_1 s8_1 = some z1 ∧ S = ⟨[(0, .c (.slv (a0.map eSide))), (1, .c (.clo 59 [.ptr 1 0 0 0, .ptr 0 0 0 0])), (7, .c (I (a0.length : Int))), (8, .c (I s8_1))], [.live 0 3 [[I c0_0, I c0_1, .slv (c0_2.map eSide)]], .live 0 1 [[I c1_0_1]]]⟩) N ⟨_, _, h, rfl⟩ ?_
    rintro m1 _ ⟨c1_0_1, s8_1, h, rfl⟩
    cases m1 with
    | zero => rw [slices_IndexFunc_Side_L1.eq_1] at h; cases h
    | succ m1 =>
    rw [slices_IndexFunc_Side_L1.eq_2] at h
    refine Wp.seq ?_
    refine Wp.text [0, 1, 7, 8, 9] rfl rfl ?_ -- region 2
    refine TextR.int rfl rfl rfl ?_
    refine TextR.done (.cons rfl (.cons rfl (.cons rfl (.cons rfl (.cons rfl .nil))))) ?_
    refine Wp.seq ?_
    refine Wp.condM h rfl (fun hc2 h => ?_) (fun hc2 h => ?_)
    · refine Wp.skip ?_
      refine Wp.seq ?_
      refine Wp.block ?_
      refine Wp.seq ?_
      refine Wp.text [0, 1, 5, 7, 8] rfl rfl ?_ -- region 3
      refine TextR.move rfl ?_
      refine TextR.assign rfl ?_
      refine TextR.done (.cons rfl (.cons rfl (.cons rfl (.cons rfl (.cons rfl .nil))))) ?_
      refine Wp.seq ?_
      obtain ⟨x4, hx4, h⟩ := bind_some h
      obtain ⟨y5, hy5, h⟩ := bind_some h
      refine Wp.text [0, 1, 5, 7, 8, 16] rfl rfl ?_ -- region 4
      refine TextR.move rfl ?_
      refine TextR.move rfl ?_
      refine TextR.move rfl ?_
      refine TextR.indexA se23 rfl rfl rfl hx4 rfl ?_
      refine TextR.loadNM tk53 rfl (at_get hx4) rfl ?_
      refine TextR.call rfl rfl (by exact c_dine_Check_1 N x4 c0_0 c0_1 c0_2 c1_0_1 y5 hy5) (fun x H' hk => ?_)
      obtain ⟨rfl, rfl⟩ := hk
      refine TextR.done (.cons rfl (.cons rfl (.cons rfl (.cons rfl (.cons rfl (.cons rfl .nil)))))) ?_
      refine Wp.condM h rfl (fun hc3 h => ?_) (fun hc3 h => ?_)
      · refine Wp.seq ?_
        refine Wp.text [4] rfl rfl ?_ -- region 5
        refine TextR.move rfl ?_
        refine TextR.assign rfl ?_
        refine TextR.done (.cons rfl .nil) ?_
        refine Wp.ret ?_
        exact ⟨_, (Option.some.inj h).symm, Ret.one rfl (resV_tmp rfl) ⟨rfl, _, rfl⟩⟩
      · refine Wp.skip ?_
        refine Wp.text [0, 1, 7, 8] rfl rfl ?_ -- region 6
        refine TextR.int rfl rfl rfl ?_
        refine TextR.move rfl ?_
        refine TextR.done (.cons rfl (.cons rfl (.cons rfl (.cons rfl .nil)))) ?_
        exact ⟨m1, Nat.lt_succ_self _, _, (keepW (live := [0, 1, 7, 8]) (.cons rfl (.cons rfl (.cons rfl (.cons rfl .nil))))), _, _, h, rfl⟩
    · refine Wp.exit ?_
      exact ⟨_, (Option.some.inj h).symm, _, (keepW (live := []) .nil), rfl⟩
  · rintro _ ⟨z3, rfl, _, hw, rfl⟩
    dsimp only at h
    clear hz1
    refine Wp.weak hw ?_
    refine Wp.seq ?_
    refine Wp.text [4] rfl rfl ?_ -- region 7
    refine TextR.assign rfl ?_
    refine TextR.done (.cons rfl .nil) ?_
    refine Wp.ret ?_
    obtain rfl := Option.some.inj h
    exact Ret.one rfl (resV_tmp rfl) ⟨rfl, _, rfl⟩
  · rintro S' ⟨r2, rfl, hR⟩
    dsimp only at h
    obtain rfl := Option.some.inj h
    exact hR
theorem c_slices_IndexFunc_Side (N : Nat) (a0 : List TSide) (c0_0 : Int) (c0_1 : Int) (c0_2 : List TSide) (c1_0 : Int) (r : Int × Int) (h : slices_IndexFunc_Side N a0 c0_0 c0_1 c0_2 c1_0 = some r) : Nx.Call Try.prog 44 [.c (.slv (a0.map eSide)), .c (.clo 59 [.ptr 1 0 0 0, .ptr 0 0 0 0])] [.live 0 3 [[I c0_0, I c0_1, .slv (c0_2.map eSide)]], .live 0 1 [[I c1_0]]] fun r' H' => r' = .c (I r.1) ∧ H' = [.live 0 3 [[I c0_0, I c0_1, .slv (c0_2.map eSide)]], .live 0 1 [[I r.2]]] := Call.trim (by simp) (by first | rfl | simp [-List.map_set]) (by first | rfl | simp [-List.map_set]) (w_slices_IndexFunc_Side N a0 c0_0 c0_1 c0_2 c1_0 r h)
-- slices.ContainsFunc[[]narthex/api.Side,narthex/api.Side]
theorem w_slices_ContainsFunc_Side (N : Nat) (a0 : List TSide) (c0_0 : Int) (c0_1 : Int) (c0_2 : List TSide) (c1_0 : Int) (r : Bool × Int) (h : slices_ContainsFunc_Side N a0 c0_0 c0_1 c0_2 c1_0 = some r) : Nx.Call Try.prog 38 [.c (.slv (a0.map eSide)), .c (.clo 59 [.ptr 1 0 0 0, .ptr 0 0 0 0])] [.live 0 3 [[I c0_0, I c0_1, .slv (c0_2.map eSide)]], .live 0 1 [[I c1_0]]] fun r' H' => r' = .c (B r.1) ∧ ∃ junk, H' = [.live 0 3 [[I c0_0, I c0_1, .slv (c0_2.map eSide)]], .live 0 1 [[I r.2]]] ++ junk := by
  refine Nx.Call.of_body Try.func38 rfl en38 Try.ntmps38 rfl (fun Γ hok => ?_)
  unfold slices_ContainsFunc_Side at h
  refine Wp.seq ?_
  refine Wp.text [0, 1] rfl rfl ?_ -- region 0
  refine TextR.assign rfl ?_
  refine TextR.done (.cons rfl (.cons rfl .nil)) ?_
  refine Wp.seq ?_
  obtain ⟨y1, hy1, h⟩ := bind_some h
  refine Wp.text [4] rfl rfl ?_ -- region 1
  refine TextR.move rfl ?_
  refine TextR.move rfl ?_
  refine TextR.call rfl rfl (by exact c_slices_IndexFunc_Side N a0 c0_0 c0_1 c0_2 c1_0 y1 hy1) (fun x H' hk => ?_)
  obtain ⟨rfl, rfl⟩ := hk
  refine TextR.int rfl rfl rfl ?_
  refine TextR.assign rfl ?_
  refine TextR.done (.cons rfl .nil) ?_
  refine Wp.ret ?_
  obtain rfl := Option.some.inj h
  exact Ret.one rfl (resV_tmp rfl) ⟨rfl, _, rfl⟩
theorem c_slices_ContainsFunc_Side (N : Nat) (a0 : List TSide) (c0_0 : Int) (c0_1 : Int) (c0_2 : List TSide) (c1_0 : Int) (r : Bool × Int) (h : slices_ContainsFunc_Side N a0 c0_0 c0_1 c0_2 c1_0 = some r) : Nx.Call Try.prog 38 [.c (.slv (a0.map eSide)), .c (.clo 59 [.ptr 1 0 0 0, .ptr 0 0 0 0])] [.live 0 3 [[I c0_0, I c0_1, .slv (c0_2.map eSide)]], .live 0 1 [[I c1_0]]] fun r' H' => r' = .c (B r.1) ∧ H' = [.live 0 3 [[I c0_0, I c0_1, .slv (c0_2.map eSide)]], .live 0 1 [[I r.2]]] := Call.trim (by simp) (by first | rfl | simp [-List.map_set]) (by first | rfl | simp [-List.map_set]) (w_slices_ContainsFunc_Side N a0 c0_0 c0_1 c0_2 c1_0 r h)
-- narthex/dine.Check
theorem w_dine_Check (N : Nat) (a0 : TDiner) (r : Int) (h : dine_Check N a0 = some r) : Nx.Call Try.prog 40 [.agg (eDiner a0)] [] fun r' _ => r' = .c (I r) := by
  refine Nx.Call.of_body Try.func40 rfl en40 Try.ntmps40 rfl (fun Γ hok => ?_)
  unfold dine_Check at h
  refine Wp.seq ?_
  refine Wp.text [1] rfl rfl ?_ -- region 0
  refine TextR.box (cs := [I a0.ID, I a0.Phase, .slv (a0.Sides.map eSide)]) 0 rfl rfl rfl rfl .nil ?_
  refine TextR.assign rfl ?_
  refine TextR.done (.cons rfl .nil) ?_
  refine Wp.seq ?_
  refine Wp.text [1, 3] rfl rfl ?_ -- region 1
  refine TextR.alloc 1 zc3 rfl rfl (.cons .nil) ?_
  refine TextR.store1 tk3 rfl rfl rfl rfl rfl rfl (.succ .zero) ?_
  refine TextR.done (.cons rfl (.cons rfl .nil)) ?_
  refine Wp.seq ?_
  refine Wp.text [1, 4] rfl rfl ?_ -- region 2
  refine TextR.makeFunc rfl ?_
  refine TextR.assign rfl ?_
  refine TextR.done (.cons rfl (.cons rfl .nil)) ?_
  refine Wp.seq ?_
  refine Wp.seq ?_
  obtain ⟨y1, hy1, h⟩ := bind_some h
  refine Wp.text [30] rfl rfl ?_ -- region 3
  refine TextR.preN 20 [[], [], [], [], [(9, false)], [(9, false)], [(9, false)], [], [], [(14, false)], [(14, false)], [(14, false)], [], [], [(19, false)], [(19, false)], [(19, false)], [(19, false)], [], []] [1, 4, 25] (by kernel_rfl) ?_
  refine RunR.fieldAddr fo25_0 rfl rfl rfl rfl rfl ?_
  refine RunR.load1 tk3 rfl rfl rfl rfl ?_
  refine RunR.int rfl rfl rfl rfl rfl ?_
  refine RunR.move rfl rfl rfl ?_
  refine RunR.fieldAddr fo25_1 rfl rfl rfl rfl rfl ?_
  refine RunR.load1 tk22 rfl rfl rfl rfl ?_
  refine RunR.int rfl rfl rfl rfl rfl ?_
  refine RunR.pickOr rfl rfl rfl rfl ?_
  refine RunR.move rfl rfl rfl ?_
  refine RunR.fieldAddr fo25_1 rfl rfl rfl rfl rfl ?_
  refine RunR.load1 tk22 rfl rfl rfl rfl ?_
  refine RunR.int rfl rfl rfl rfl rfl ?_
  refine RunR.pickOr rfl rfl rfl rfl ?_
  refine RunR.move rfl rfl rfl ?_
  refine RunR.fieldAddr fo25_2 rfl rfl rfl rfl rfl ?_
  refine RunR.load1 tk23 rfl rfl rfl rfl ?_
  refine RunR.lenM us23 rfl rfl rfl rfl ?_
  refine RunR.int rfl rfl rfl rfl rfl ?_
  refine RunR.pickOr rfl rfl rfl rfl ?_
  refine RunR.move rfl rfl rfl ?_
  refine RunR.nil ⟨_, (.cons rfl (.cons rfl (.cons rfl .nil))), ?_⟩
  refine TextR.cont (K1 := fun e' H' => Keeps e' [30] [(30, .c (B (((((decide (a0.ID < 0)) || (decide (a0.Phase < 0))) || (decide (a0.Phase > 2))) || (decide ((a0.Sides.length : Int) ≥ 64))) || y1.1)))] ∧ H' = [.live 0 3 [[I a0.ID, I a0.Phase, .slv (a0.Sides.map eSide)]], .live 0 1 [[I y1.2]]]) ?_ (fun e' H' hk => ?_)
  · refine TextR.byBool 25 rfl (fun hv => ?_) (fun hv => ?_)
    · rw [if_neg (by rw [hv]; simp)] at hy1
      obtain rfl := Option.some.inj hy1
      refine TextR.off rfl ?_
      refine TextR.off rfl ?_
      refine TextR.off rfl ?_
      refine TextR.off rfl ?_
      refine TextR.pickOr1 rfl rfl ?_
      refine TextR.nil ⟨(.cons (by first | rfl | (rw [hv]; rfl)) .nil), rfl⟩
    · rw [if_pos (by rw [hv]; simp)] at hy1
      refine TextR.gfieldAddr rfl fo25_2 rfl  rfl rfl ?_
      refine TextR.gload1 rfl tk23  rfl rfl ?_
      refine TextR.gmove rfl  rfl ?_
      refine TextR.callG rfl rfl rfl (by exact c_slices_ContainsFunc_Side N a0.Sides a0.ID a0.Phase a0.Sides (-1) y1 hy1) (fun x H' hk => ?_)
      obtain ⟨rfl, rfl⟩ := hk
      refine TextR.pickOr rfl rfl ?_
      refine TextR.nil ⟨(.cons (by first | rfl | (rw [hv]; rfl)) .nil), rfl⟩
  obtain ⟨hk, rfl⟩ := hk
  refine ⟨_, hk, ?_⟩
  refine Wp.condM h rfl (fun hc1 h => ?_) (fun hc1 h => ?_)
  · refine Wp.seq ?_
    refine Wp.text [2] rfl rfl ?_ -- region 4
    refine TextR.assign rfl ?_
    refine TextR.done (.cons rfl .nil) ?_
    refine Wp.ret ?_
    obtain rfl := Option.some.inj h
    exact Ret.one rfl (resV_tmp rfl) rfl
  · refine Wp.skip ?_
    refine Wp.seq ?_
    refine Wp.text [2] rfl rfl ?_ -- region 5
    refine TextR.assign rfl ?_
    refine TextR.done (.cons rfl .nil) ?_
    refine Wp.ret ?_
    obtain rfl := Option.some.inj h
    exact Ret.one rfl (resV_tmp rfl) rfl
theorem c_dine_Check (N : Nat) (a0 : TDiner) (r : Int) (h : dine_Check N a0 = some r) (H : List Ob) : DCall Try.prog 40 [.agg (eDiner a0)] H (.c (I r)) := DCall.lift (by first | rfl | simp [-List.map_set]) (by first | rfl | simp [-List.map_set]) (fun _ => by simp [-List.map_set]) (w_dine_Check N a0 r h) H
-- narthex/set.Valid
theorem w_set_Valid (N : Nat) (a0 : List Int) (r : Bool) (h : set_Valid N a0 = some r) : Nx.Call Try.prog 41 [.c (.slv (a0.map eI))] [] fun r' _ => r' = .c (B r) := by
  refine Nx.Call.of_body Try.func41 rfl en41 Try.ntmps41 rfl (fun Γ hok => ?_)
  unfold set_Valid at h
  refine Wp.seq ?_
  refine Wp.text [0] rfl rfl ?_ -- region 0
  refine TextR.assign rfl ?_
  refine TextR.done (.cons rfl .nil) ?_
  refine Wp.seq ?_
  refine Wp.seq ?_
  refine Wp.text [0, 5, 6] rfl rfl ?_ -- region 1
  refine TextR.move rfl ?_
  refine TextR.lenM us27 rfl rfl ?_
  refine TextR.move rfl ?_
  refine TextR.done (.cons rfl (.cons rfl (.cons rfl .nil))) ?_
  obtain ⟨z1, hz1, h⟩ := bind_some h
  refine Wp.fragR (fun S => ∃ z3, z1 = .inr z3 ∧ ∃ S', St.Weak ⟨Try.prog, 24, Γ⟩ S S' ∧ S' = ⟨[], []⟩) (fun S => ∃ v, z1 = .inl v ∧ Ret Try.prog Try.f41 (fun r' _ => r' = .c (B v)) .ret S) ?_ ?_ ?_
  · replace h := hz1
    refine Wp.block ?_
    refine Wp.weak (keepW (live := [0, 5, 6]) (.cons rfl (.cons rfl (.cons rfl .nil)))) ?_
    refine Wp.loop (fun m S => ∃ s6_1, set_Valid_L1 N a0 m s6_1 = some z1 ∧ S = ⟨[(0, .c (.slv (a0.map eI))), (5, .c (I (a0.length : Int))), (6, .c (I s6_1))], []⟩) N ⟨_, h, rfl⟩ ?_
    rintro m1 _ ⟨s6_1, h, rfl⟩
    cases m1 with
    | zero => rw [set_Valid_L1.eq_1] at h; cases h
    | succ m1 =>
    rw [set_Valid_L1.eq_2] at h
    refine Wp.seq ?_
    refine Wp.text [0, 5, 6, 7] rfl rfl ?_ -- region 2
    refine TextR.int rfl rfl rfl ?_
    refine TextR.done (.cons rfl (.cons rfl (.cons rfl (.cons rfl .nil)))) ?_
    refine Wp.seq ?_
    refine Wp.condM h rfl (fun hc2 h => ?_) (fun hc2 h => ?_)
    · refine Wp.skip ?_
      refine Wp.seq ?_
      refine Wp.block ?_
      refine Wp.seq ?_
      refine Wp.text [0, 3, 5, 6] rfl rfl ?_ -- region 3
      refine TextR.move rfl ?_
      refine TextR.assign rfl ?_
      refine TextR.done (.cons rfl (.cons rfl (.cons rfl (.cons rfl .nil)))) ?_
      refine Wp.seq ?_
      obtain ⟨x4, hx4, h⟩ := bind_some h
      obtain ⟨x5, hx5, h⟩ := bind_some h
      refine Wp.go true (some ⟨[], []⟩) [[], [], [], [(11, true)], [(11, true)], [(11, true)], [(11, true)], [(11, true)], [(11, true)], [(11, true)], [(11, true)], [(11, true)], [(11, true)], []] [] [0, 5, 6, 22] mixed rfl rfl (by kernel_rfl) ?_ -- region 4
      refine RunR.move rfl rfl rfl ?_
      refine RunR.int rfl rfl rfl rfl rfl ?_
      refine RunR.move rfl rfl rfl ?_
      refine RunR.move rfl rfl rfl ?_
      refine RunR.move rfl rfl rfl ?_
      refine RunR.int rfl rfl rfl rfl rfl ?_
      refine RunR.indexAG se27 rfl rfl rfl rfl rfl (ifPos hx4 gT) (ifAt hx4 gT) rfl ?_
      refine RunR.load1G tk3 rfl rfl rfl (ifAt hx4 gT) rfl ?_
      refine RunR.move rfl rfl rfl ?_
      refine RunR.move rfl rfl rfl ?_
      refine RunR.indexAG se27 rfl rfl rfl rfl rfl (ifPos hx5 gT) (ifAt hx5 gT) rfl ?_
      refine RunR.load1G tk3 rfl rfl rfl (ifAt hx5 gT) rfl ?_
      refine RunR.int rfl rfl rfl rfl rfl ?_
      refine RunR.pickAnd rfl rfl rfl rfl ?_
      refine RunR.doneQ (.cons rfl (.cons rfl (.cons rfl (.cons rfl .nil)))) ?_
      refine Wp.condM h rfl (fun hc3 h => ?_) (fun hc3 h => ?_)
      · refine Wp.seq ?_
        refine Wp.text [2] rfl rfl ?_ -- region 5
        refine TextR.assign rfl ?_
        refine TextR.done (.cons rfl .nil) ?_
        refine Wp.ret ?_
        exact ⟨_, (Option.some.inj h).symm, Ret.one rfl (resV_tmp rfl) rfl⟩
      · refine Wp.skip ?_
        refine Wp.text [0, 5, 6] rfl rfl ?_ -- region 6
        refine TextR.int rfl rfl rfl ?_
        refine TextR.move rfl ?_
        refine TextR.done (.cons rfl (.cons rfl (.cons rfl .nil))) ?_
        exact ⟨m1, Nat.lt_succ_self _, _, (keepW (live := [0, 5, 6]) (.cons rfl (.cons rfl (.cons rfl .nil)))), _, h, rfl⟩
    · refine Wp.exit ?_
      exact ⟨_, (Option.some.inj h).symm, _, (keepW (live := []) .nil), rfl⟩
  · rintro _ ⟨z3, rfl, _, hw, rfl⟩
    dsimp only at h
    clear hz1
    refine Wp.weak hw ?_
    refine Wp.seq ?_
    refine Wp.text [2] rfl rfl ?_ -- region 7
    refine TextR.assign rfl ?_
    refine TextR.done (.cons rfl .nil) ?_
    refine Wp.ret ?_
    obtain rfl := Option.some.inj h
    exact Ret.one rfl (resV_tmp rfl) rfl
  · rintro S' ⟨r2, rfl, hR⟩
    dsimp only at h
    obtain rfl := Option.some.inj h
    exact hR
theorem c_set_Valid (N : Nat) (a0 : List Int) (r : Bool) (h : set_Valid N a0 = some r) (H : List Ob) : DCall Try.prog 41 [.c (.slv (a0.map eI))] H (.c (B r)) := DCall.lift (by first | rfl | simp [-List.map_set]) (by first | rfl | simp [-List.map_set]) (fun _ => by simp [-List.map_set]) (w_set_Valid N a0 r h) H
-- narthex/drink.Check$1$1
theorem w_drink_Check_1_1 (N : Nat) (a0 : TSide) (c0_0 : Int) (c0_1 : Int) (c0_2 : List TSide) (c0_3 : Int) (c0_4 : List Int) (c1_0 : Int) (r : Bool) (h : drink_Check_1_1 N a0 c0_0 c0_1 c0_2 c0_3 c0_4 c1_0 = some r) : Nx.Call Try.prog 39 [.agg (eSide a0), .c (.ptr 1 0 0 0)] [.live 0 5 [[I c0_0, I c0_1, .slv (c0_2.map eSide), I c0_3, .slv (c0_4.map eI)]], .live 0 1 [[I c1_0]]] fun r' H' => r' = .c (B r) ∧ ∃ junk, H' = [.live 0 5 [[I c0_0, I c0_1, .slv (c0_2.map eSide), I c0_3, .slv (c0_4.map eI)]], .live 0 1 [[I c1_0]]] ++ junk := by
  refine Nx.Call.of_body Try.func39 rfl en39 Try.ntmps39 rfl (fun Γ hok => ?_)
  unfold drink_Check_1_1 at h
  refine Wp.seq ?_
  refine Wp.text [1, 2] rfl rfl ?_ -- region 0
  refine TextR.box (cs := [I a0.Peer, I a0.Epoch, I a0.State, B a0.Fork, B a0.Dirty, B a0.Token, B a0.Bottle, B a0.Ask]) 2 rfl rfl rfl rfl (.cons (.cons .nil)) ?_
  refine TextR.assign rfl ?_
  refine TextR.done (.cons rfl (.cons rfl .nil)) ?_
  refine Wp.seq ?_
  refine Wp.text [3] rfl rfl ?_ -- region 1
  refine TextR.fieldAddr fo53_0 rfl rfl rfl ?_
  refine TextR.load1 tk3 rfl rfl ?_
  refine TextR.load1 tk3 rfl rfl ?_
  refine TextR.int rfl rfl rfl ?_
  refine TextR.assign rfl ?_
  refine TextR.done (.cons rfl .nil) ?_
  refine Wp.ret ?_
  obtain rfl := Option.some.inj h
  exact Ret.one rfl (resV_tmp rfl) ⟨rfl, _, rfl⟩
theorem c_drink_Check_1_1 (N : Nat) (a0 : TSide) (c0_0 : Int) (c0_1 : Int) (c0_2 : List TSide) (c0_3 : Int) (c0_4 : List Int) (c1_0 : Int) (r : Bool) (h : drink_Check_1_1 N a0 c0_0 c0_1 c0_2 c0_3 c0_4 c1_0 = some r) : DCall Try.prog 39 [.agg (eSide a0), .c (.ptr 1 0 0 0)] [.live 0 5 [[I c0_0, I c0_1, .slv (c0_2.map eSide), I c0_3, .slv (c0_4.map eI)]], .live 0 1 [[I c1_0]]] (.c (B r)) := Call.trim (by simp) (by first | rfl | simp [-List.map_set]) (by first | rfl | simp [-List.map_set]) (w_drink_Check_1_1 N a0 c0_0 c0_1 c0_2 c0_3 c0_4 c1_0 r h)
-- slices.IndexFunc[[]narthex/api.Side,narthex/api.Side]
theorem w_slices_IndexFunc_Side_2 (N : Nat) (a0 : List TSide) (c0_0 : Int) (c0_1 : Int) (c0_2 : List TSide) (c0_3 : Int) (c0_4 : List Int) (c1_0 : Int) (r : Int) (h : slices_IndexFunc_Side_2 N a0 c0_0 c0_1 c0_2 c0_3 c0_4 c1_0 = some r) : Nx.Call Try.prog 44 [.c (.slv (a0.map eSide)), .c (.clo 39 [.ptr 1 0 0 0])] [.live 0 5 [[I c0_0, I c0_1, .slv (c0_2.map eSide), I c0_3, .slv (c0_4.map eI)]], .live 0 1 [[I c1_0]]] fun r' H' => r' = .c (I r) ∧ ∃ junk, H' = [.live 0 5 [[I c0_0, I c0_1, .slv (c0_2.map eSide), I c0_3, .slv (c0_4.map eI)]], .live 0 1 [[I c1_0]]] ++ junk := by
  refine Nx.Call.of_body Try.func44 rfl en44 Try.ntmps44 rfl (fun Γ hok => ?_)
  unfold slices_IndexFunc_Side_2 at h
  refine Wp.seq ?_
  refine Wp.text [0, 1] rfl rfl ?_ -- region 0
  refine TextR.assign rfl ?_
  refine TextR.done (.cons rfl (.cons rfl .nil)) ?_
  refine Wp.seq ?_
  refine Wp.seq ?_
  refine Wp.text [0, 1, 7, 8] rfl rfl ?_ -- region 1
  refine TextR.move rfl ?_
  refine TextR.lenM us23 rfl rfl ?_
  refine TextR.move rfl ?_
  refine TextR.done (.cons rfl (.cons rfl (.cons rfl (.cons rfl .nil)))) ?_
  obtain ⟨z1, hz1, h⟩ := bind_some h
  refine Wp.fragR (fun S => ∃ z3, z1 = .inr z3 ∧ ∃ S', St.Weak ⟨Try.prog, 19, Γ⟩ S S' ∧ S' = ⟨[], [.live 0 5 [[I c0_0, I c0_1, .slv (c0_2.map eSide), I c0_3, .slv (c0_4.map eI)]], .live 0 1 [[I c1_0]]]⟩) (fun S => ∃ v, z1 = .inl v ∧ Ret Try.prog Try.f44 (fun r' H' => r' = .c (I v) ∧ ∃ junk, H' = [.live 0 5 [[I c0_0, I c0_1, .slv (c0_2.map eSide), I c0_3, .slv (c0_4.map eI)]], .live 0 1 [[I c1_0]]] ++ junk) .ret S) ?_ ?_ ?_
  · replace h := hz1
    refine Wp.block ?_
    refine Wp.weak (keepW (live := [0, 1, 7, 8]) (.cons rfl (.cons rfl (.cons rfl (.cons rfl .nil))))) ?_
    refine Wp.loop (fun m S => ∃ s8_1, slices_IndexFunc_Side_2_L1 N a0 c0_0 c0_1 c0_2 c0_3 c0_4 c1_0 m s8_1 = some z1 ∧ S = ⟨[(0, .c (.slv (a0.map eSide))), (1, .c (.clo 39 [.ptr 1 0 0 0])), (7, .c (I (a0.length : Int))), (8, .c (I s8_1))], [.live 0 5 [[I c0_0, I c0_1, .slv (c0_2.map eSide), I c0_3, .slv (c0_4.map eI)]], .live 0 1 [[I c1_0]]]⟩) N ⟨_, h, rfl⟩ ?_
    rintro m1 _ ⟨s8_1, h, rfl⟩
    cases m1 with
    | zero => rw [slices_IndexFunc_Side_2_L1.eq_1] at h; cases h
    | succ m1 =>
    rw [slices_IndexFunc_Side_2_L1.eq_2] at h
    refine Wp.seq ?_
    refine Wp.text [0, 1, 7, 8, 9] rfl rfl ?_ -- region 2
    refine TextR.int rfl rfl rfl ?_
    refine TextR.done (.cons rfl (.cons rfl (.cons rfl (.cons rfl (.cons rfl .nil))))) ?_
    refine Wp.seq ?_
    refine Wp.condM h rfl (fun hc2 h => ?_) (fun hc2 h => ?_)
    · refine Wp.skip ?_
      refine Wp.seq ?_
      refine Wp.block ?_
      refine Wp.seq ?_
      refine Wp.text [0, 1, 5, 7, 8] rfl rfl ?_ -- region 3
      refine TextR.move rfl ?_
      refine TextR.assign rfl ?_
      refine TextR.done (.cons rfl (.cons rfl (.cons rfl (.cons rfl (.cons rfl .nil))))) ?_
      refine Wp.seq ?_
      obtain ⟨x4, hx4, h⟩ := bind_some h
      obtain ⟨y5, hy5, h⟩ := bind_some h
      refine Wp.text [0, 1, 5, 7, 8, 16] rfl rfl ?_ -- region 4
      refine TextR.move rfl ?_
      refine TextR.move rfl ?_
      refine TextR.move rfl ?_
      refine TextR.indexA se23 rfl rfl rfl hx4 rfl ?_
      refine TextR.loadNM tk53 rfl (at_get hx4) rfl ?_
      refine TextR.dcall rfl rfl (c_drink_Check_1_1 N x4 c0_0 c0_1 c0_2 c0_3 c0_4 c1_0 y5 hy5) ?_
      refine TextR.done (.cons rfl (.cons rfl (.cons rfl (.cons rfl (.cons rfl (.cons rfl .nil)))))) ?_
      refine Wp.condM h rfl (fun hc3 h => ?_) (fun hc3 h => ?_)
      · refine Wp.seq ?_
        refine Wp.text [4] rfl rfl ?_ -- region 5
        refine TextR.move rfl ?_
        refine TextR.assign rfl ?_
        refine TextR.done (.cons rfl .nil) ?_
        refine Wp.ret ?_
        exact ⟨_, (Option.some.inj h).symm, Ret.one rfl (resV_tmp rfl) ⟨rfl, _, rfl⟩⟩
      · refine Wp.skip ?_
        refine Wp.text [0, 1, 7, 8] rfl rfl ?_ -- region 6
        refine TextR.int rfl rfl rfl ?_
        refine TextR.move rfl ?_
        refine TextR.done (.cons rfl (.cons rfl (.cons rfl (.cons rfl .nil)))) ?_
        exact ⟨m1, Nat.lt_succ_self _, _, (keepW (live := [0, 1, 7, 8]) (.cons rfl (.cons rfl (.cons rfl (.cons rfl .nil))))), _, h, rfl⟩
    · refine Wp.exit ?_
      exact ⟨_, (Option.some.inj h).symm, _, (keepW (live := []) .nil), rfl⟩
  · rintro _ ⟨z3, rfl, _, hw, rfl⟩
    dsimp only at h
    clear hz1
    refine Wp.weak hw ?_
    refine Wp.seq ?_
    refine Wp.text [4] rfl rfl ?_ -- region 7
    refine TextR.assign rfl ?_
    refine TextR.done (.cons rfl .nil) ?_
    refine Wp.ret ?_
    obtain rfl := Option.some.inj h
    exact Ret.one rfl (resV_tmp rfl) ⟨rfl, _, rfl⟩
  · rintro S' ⟨r2, rfl, hR⟩
    dsimp only at h
    obtain rfl := Option.some.inj h
    exact hR
theorem c_slices_IndexFunc_Side_2 (N : Nat) (a0 : List TSide) (c0_0 : Int) (c0_1 : Int) (c0_2 : List TSide) (c0_3 : Int) (c0_4 : List Int) (c1_0 : Int) (r : Int) (h : slices_IndexFunc_Side_2 N a0 c0_0 c0_1 c0_2 c0_3 c0_4 c1_0 = some r) : DCall Try.prog 44 [.c (.slv (a0.map eSide)), .c (.clo 39 [.ptr 1 0 0 0])] [.live 0 5 [[I c0_0, I c0_1, .slv (c0_2.map eSide), I c0_3, .slv (c0_4.map eI)]], .live 0 1 [[I c1_0]]] (.c (I r)) := Call.trim (by simp) (by first | rfl | simp [-List.map_set]) (by first | rfl | simp [-List.map_set]) (w_slices_IndexFunc_Side_2 N a0 c0_0 c0_1 c0_2 c0_3 c0_4 c1_0 r h)
-- slices.ContainsFunc[[]narthex/api.Side,narthex/api.Side]
theorem w_slices_ContainsFunc_Side_2 (N : Nat) (a0 : List TSide) (c0_0 : Int) (c0_1 : Int) (c0_2 : List TSide) (c0_3 : Int) (c0_4 : List Int) (c1_0 : Int) (r : Bool) (h : slices_ContainsFunc_Side_2 N a0 c0_0 c0_1 c0_2 c0_3 c0_4 c1_0 = some r) : Nx.Call Try.prog 38 [.c (.slv (a0.map eSide)), .c (.clo 39 [.ptr 1 0 0 0])] [.live 0 5 [[I c0_0, I c0_1, .slv (c0_2.map eSide), I c0_3, .slv (c0_4.map eI)]], .live 0 1 [[I c1_0]]] fun r' H' => r' = .c (B r) ∧ ∃ junk, H' = [.live 0 5 [[I c0_0, I c0_1, .slv (c0_2.map eSide), I c0_3, .slv (c0_4.map eI)]], .live 0 1 [[I c1_0]]] ++ junk := by
  refine Nx.Call.of_body Try.func38 rfl en38 Try.ntmps38 rfl (fun Γ hok => ?_)
  unfold slices_ContainsFunc_Side_2 at h
  refine Wp.seq ?_
  refine Wp.text [0, 1] rfl rfl ?_ -- region 0
  refine TextR.assign rfl ?_
  refine TextR.done (.cons rfl (.cons rfl .nil)) ?_
  refine Wp.seq ?_
  obtain ⟨y1, hy1, h⟩ := bind_some h
  refine Wp.text [4] rfl rfl ?_ -- region 1
  refine TextR.move rfl ?_
  refine TextR.move rfl ?_
  refine TextR.dcall rfl rfl (c_slices_IndexFunc_Side_2 N a0 c0_0 c0_1 c0_2 c0_3 c0_4 c1_0 y1 hy1) ?_
  refine TextR.int rfl rfl rfl ?_
  refine TextR.assign rfl ?_
  refine TextR.done (.cons rfl .nil) ?_
  refine Wp.ret ?_
  obtain rfl := Option.some.inj h
  exact Ret.one rfl (resV_tmp rfl) ⟨rfl, _, rfl⟩
theorem c_slices_ContainsFunc_Side_2 (N : Nat) (a0 : List TSide) (c0_0 : Int) (c0_1 : Int) (c0_2 : List TSide) (c0_3 : Int) (c0_4 : List Int) (c1_0 : Int) (r : Bool) (h : slices_ContainsFunc_Side_2 N a0 c0_0 c0_1 c0_2 c0_3 c0_4 c1_0 = some r) : DCall Try.prog 38 [.c (.slv (a0.map eSide)), .c (.clo 39 [.ptr 1 0 0 0])] [.live 0 5 [[I c0_0, I c0_1, .slv (c0_2.map eSide), I c0_3, .slv (c0_4.map eI)]], .live 0 1 [[I c1_0]]] (.c (B r)) := Call.trim (by simp) (by first | rfl | simp [-List.map_set]) (by first | rfl | simp [-List.map_set]) (w_slices_ContainsFunc_Side_2 N a0 c0_0 c0_1 c0_2 c0_3 c0_4 c1_0 r h)
-- narthex/drink.Check$1
theorem w_drink_Check_1 (N : Nat) (a0 : Int) (c0_0 : Int) (c0_1 : Int) (c0_2 : List TSide) (c0_3 : Int) (c0_4 : List Int) (r : Bool) (h : drink_Check_1 N a0 c0_0 c0_1 c0_2 c0_3 c0_4 = some r) : Nx.Call Try.prog 37 [.c (I a0), .c (.ptr 0 0 0 0)] [.live 0 5 [[I c0_0, I c0_1, .slv (c0_2.map eSide), I c0_3, .slv (c0_4.map eI)]]] fun r' H' => r' = .c (B r) ∧ ∃ junk, H' = [.live 0 5 [[I c0_0, I c0_1, .slv (c0_2.map eSide), I c0_3, .slv (c0_4.map eI)]]] ++ junk := by
  refine Nx.Call.of_body Try.func37 rfl en37 Try.ntmps37 rfl (fun Γ hok => ?_)
  unfold drink_Check_1 at h
  refine Wp.seq ?_
  refine Wp.text [1, 2] rfl rfl ?_ -- region 0
  refine TextR.box (cs := [I a0]) 1 rfl rfl rfl rfl (.cons .nil) ?_
  refine TextR.assign rfl ?_
  refine TextR.done (.cons rfl (.cons rfl .nil)) ?_
  refine Wp.seq ?_
  obtain ⟨y1, hy1, h⟩ := bind_some h
  refine Wp.text [3] rfl rfl ?_ -- region 1
  refine TextR.fieldAddr fo29_0 rfl rfl rfl ?_
  refine TextR.fieldAddr fo25_2 rfl rfl rfl ?_
  refine TextR.load1 tk23 rfl rfl ?_
  refine TextR.makeFunc rfl ?_
  refine TextR.dcall rfl rfl (c_slices_ContainsFunc_Side_2 N c0_2 c0_0 c0_1 c0_2 c0_3 c0_4 a0 y1 hy1) ?_
  refine TextR.not rfl ?_
  refine TextR.assign rfl ?_
  refine TextR.done (.cons rfl .nil) ?_
  refine Wp.ret ?_
  obtain rfl := Option.some.inj h
  exact Ret.one rfl (resV_tmp rfl) ⟨rfl, _, rfl⟩
theorem c_drink_Check_1 (N : Nat) (a0 : Int) (c0_0 : Int) (c0_1 : Int) (c0_2 : List TSide) (c0_3 : Int) (c0_4 : List Int) (r : Bool) (h : drink_Check_1 N a0 c0_0 c0_1 c0_2 c0_3 c0_4 = some r) : DCall Try.prog 37 [.c (I a0), .c (.ptr 0 0 0 0)] [.live 0 5 [[I c0_0, I c0_1, .slv (c0_2.map eSide), I c0_3, .slv (c0_4.map eI)]]] (.c (B r)) := Call.trim (by simp) (by first | rfl | simp [-List.map_set]) (by first | rfl | simp [-List.map_set]) (w_drink_Check_1 N a0 c0_0 c0_1 c0_2 c0_3 c0_4 r h)
-- slices.IndexFunc[[]int,int]
theorem w_slices_IndexFunc_int (N : Nat) (a0 : List Int) (c0_0 : Int) (c0_1 : Int) (c0_2 : List TSide) (c0_3 : Int) (c0_4 : List Int) (r : Int) (h : slices_IndexFunc_int N a0 c0_0 c0_1 c0_2 c0_3 c0_4 = some r) : Nx.Call Try.prog 60 [.c (.slv (a0.map eI)), .c (.clo 37 [.ptr 0 0 0 0])] [.live 0 5 [[I c0_0, I c0_1, .slv (c0_2.map eSide), I c0_3, .slv (c0_4.map eI)]]] fun r' H' => r' = .c (I r) ∧ ∃ junk, H' = [.live 0 5 [[I c0_0, I c0_1, .slv (c0_2.map eSide), I c0_3, .slv (c0_4.map eI)]]] ++ junk := by
  refine Nx.Call.of_body Try.func60 rfl en60 Try.ntmps60 rfl (fun Γ hok => ?_)
  unfold slices_IndexFunc_int at h
  refine Wp.seq ?_
  refine Wp.text [0, 1] rfl rfl ?_ -- region 0
  refine TextR.assign rfl ?_
  refine TextR.done (.cons rfl (.cons rfl .nil)) ?_
  refine Wp.seq ?_
  refine Wp.seq ?_
  refine Wp.text [0, 1, 7, 8] rfl rfl ?_ -- region 1
  refine TextR.move rfl ?_
  refine TextR.lenM us27 rfl rfl ?_
  refine TextR.move rfl ?_
  refine TextR.done (.cons rfl (.cons rfl (.cons rfl (.cons rfl .nil)))) ?_
  obtain ⟨z1, hz1, h⟩ := bind_some h
  refine Wp.fragR (fun S => ∃ z3, z1 = .inr z3 ∧ ∃ S', St.Weak ⟨Try.prog, 19, Γ⟩ S S' ∧ S' = ⟨[], [.live 0 5 [[I c0_0, I c0_1, .slv (c0_2.map eSide), I c0_3, .slv (c0_4.map eI)]]]⟩) (fun S => ∃ v, z1 = .inl v ∧ Ret Try.prog Try.f60 (fun r' H' => r' = .c (I v) ∧ ∃ junk, H' = [.live 0 5 [[I c0_0, I c0_1, .slv (c0_2.map eSide), I c0_3, .slv (c0_4.map eI)]]] ++ junk) .ret S) ?_ ?_ ?_
  · replace h := hz1
    refine Wp.block ?_
    refine Wp.weak (keepW (live := [0, 1, 7, 8]) (.cons rfl (.cons rfl (.cons rfl (.cons rfl .nil))))) ?_
    refine Wp.loop (fun m S => ∃ s8_1, slices_IndexFunc_int_L1 N a0 c0_0 c0_1 c0_2 c0_3 c0_4 m s8_1 = some z1 ∧ S = ⟨[(0, .c (.slv (a0.map eI))), (1, .c (.clo 37 [.ptr 0 0 0 0])), (7, .c (I (a0.length : Int))), (8, .c (I s8_1))], [.live 0 5 [[I c0_0, I c0_1, .slv (c0_2.map eSide), I c0_3, .slv (c0_4.map eI)]]]⟩) N ⟨_, h, rfl⟩ ?_
    rintro m1 _ ⟨s8_1, h, rfl⟩
    cases m1 with
    | zero => rw [slices_IndexFunc_int_L1.eq_1] at h; cases h
    | succ m1 =>
    rw [slices_IndexFunc_int_L1.eq_2] at h
    refine Wp.seq ?_
    refine Wp.text [0, 1, 7, 8, 9] rfl rfl ?_ -- region 2
    refine TextR.int rfl rfl rfl ?_
    refine TextR.done (.cons rfl (.cons rfl (.cons rfl (.cons rfl (.cons rfl .nil))))) ?_
    refine Wp.seq ?_
    refine Wp.condM h rfl (fun hc2 h => ?_) (fun hc2 h => ?_)
    · refine Wp.skip ?_
      refine Wp.seq ?_
      refine Wp.block ?_
      refine Wp.seq ?_
      refine Wp.text [0, 1, 5, 7, 8] rfl rfl ?_ -- region 3
      refine TextR.move rfl ?_
      refine TextR.assign rfl ?_
      refine TextR.done (.cons rfl (.cons rfl (.cons rfl (.cons rfl (.cons rfl .nil))))) ?_
      refine Wp.seq ?_
      obtain ⟨x4, hx4, h⟩ := bind_some h
      obtain ⟨y5, hy5, h⟩ := bind_some h
      refine Wp.text [0, 1, 5, 7, 8, 16] rfl rfl ?_ -- region 4
      refine TextR.move rfl ?_
      refine TextR.move rfl ?_
      refine TextR.move rfl ?_
      refine TextR.indexA se27 rfl rfl rfl hx4 rfl ?_
      refine TextR.load1M tk3 rfl (at_get hx4) rfl ?_
      refine TextR.dcall rfl rfl (c_drink_Check_1 N x4 c0_0 c0_1 c0_2 c0_3 c0_4 y5 hy5) ?_
      refine TextR.done (.cons rfl (.cons rfl (.cons rfl (.cons rfl (.cons rfl (.cons rfl .nil)))))) ?_
      refine Wp.condM h rfl (fun hc3 h => ?_) (fun hc3 h => ?_)
      · refine Wp.seq ?_
        refine Wp.text [4] rfl rfl ?_ -- region 5
        refine TextR.move rfl ?_
        refine TextR.assign rfl ?_
        refine TextR.done (.cons rfl .nil) ?_
        refine Wp.ret ?_
        exact ⟨_, (Option.some.inj h).symm, Ret.one rfl (resV_tmp rfl) ⟨rfl, _, rfl⟩⟩
      · refine Wp.skip ?_
        refine Wp.text [0, 1, 7, 8] rfl rfl ?_ -- region 6
        refine TextR.int rfl rfl rfl ?_
        refine TextR.move rfl ?_
        refine TextR.done (.cons rfl (.cons rfl (.cons rfl (.cons rfl .nil)))) ?_
        exact ⟨m1, Nat.lt_succ_self _, _, (keepW (live := [0, 1, 7, 8]) (.cons rfl (.cons rfl (.cons rfl (.cons rfl .nil))))), _, h, rfl⟩
    · refine Wp.exit ?_
      exact ⟨_, (Option.some.inj h).symm, _, (keepW (live := []) .nil), rfl⟩
  · rintro _ ⟨z3, rfl, _, hw, rfl⟩
    dsimp only at h
    clear hz1
    refine Wp.weak hw ?_
    refine Wp.seq ?_
    refine Wp.text [4] rfl rfl ?_ -- region 7
    refine TextR.assign rfl ?_
    refine TextR.done (.cons rfl .nil) ?_
    refine Wp.ret ?_
    obtain rfl := Option.some.inj h
    exact Ret.one rfl (resV_tmp rfl) ⟨rfl, _, rfl⟩
  · rintro S' ⟨r2, rfl, hR⟩
    dsimp only at h
    obtain rfl := Option.some.inj h
    exact hR
theorem c_slices_IndexFunc_int (N : Nat) (a0 : List Int) (c0_0 : Int) (c0_1 : Int) (c0_2 : List TSide) (c0_3 : Int) (c0_4 : List Int) (r : Int) (h : slices_IndexFunc_int N a0 c0_0 c0_1 c0_2 c0_3 c0_4 = some r) : DCall Try.prog 60 [.c (.slv (a0.map eI)), .c (.clo 37 [.ptr 0 0 0 0])] [.live 0 5 [[I c0_0, I c0_1, .slv (c0_2.map eSide), I c0_3, .slv (c0_4.map eI)]]] (.c (I r)) := Call.trim (by simp) (by first | rfl | simp [-List.map_set]) (by first | rfl | simp [-List.map_set]) (w_slices_IndexFunc_int N a0 c0_0 c0_1 c0_2 c0_3 c0_4 r h)
-- slices.ContainsFunc[[]int,int]
theorem w_slices_ContainsFunc_int (N : Nat) (a0 : List Int) (c0_0 : Int) (c0_1 : Int) (c0_2 : List TSide) (c0_3 : Int) (c0_4 : List Int) (r : Bool) (h : slices_ContainsFunc_int N a0 c0_0 c0_1 c0_2 c0_3 c0_4 = some r) : Nx.Call Try.prog 42 [.c (.slv (a0.map eI)), .c (.clo 37 [.ptr 0 0 0 0])] [.live 0 5 [[I c0_0, I c0_1, .slv (c0_2.map eSide), I c0_3, .slv (c0_4.map eI)]]] fun r' H' => r' = .c (B r) ∧ ∃ junk, H' = [.live 0 5 [[I c0_0, I c0_1, .slv (c0_2.map eSide), I c0_3, .slv (c0_4.map eI)]]] ++ junk := by
  refine Nx.Call.of_body Try.func42 rfl en42 Try.ntmps42 rfl (fun Γ hok => ?_)
  unfold slices_ContainsFunc_int at h
  refine Wp.seq ?_
  refine Wp.text [0, 1] rfl rfl ?_ -- region 0
  refine TextR.assign rfl ?_
  refine TextR.done (.cons rfl (.cons rfl .nil)) ?_
  refine Wp.seq ?_
  obtain ⟨y1, hy1, h⟩ := bind_some h
  refine Wp.text [4] rfl rfl ?_ -- region 1
  refine TextR.move rfl ?_
  refine TextR.move rfl ?_
  refine TextR.dcall rfl rfl (c_slices_IndexFunc_int N a0 c0_0 c0_1 c0_2 c0_3 c0_4 y1 hy1) ?_
  refine TextR.int rfl rfl rfl ?_
  refine TextR.assign rfl ?_
  refine TextR.done (.cons rfl .nil) ?_
  refine Wp.ret ?_
  obtain rfl := Option.some.inj h
  exact Ret.one rfl (resV_tmp rfl) ⟨rfl, _, rfl⟩
theorem c_slices_ContainsFunc_int (N : Nat) (a0 : List Int) (c0_0 : Int) (c0_1 : Int) (c0_2 : List TSide) (c0_3 : Int) (c0_4 : List Int) (r : Bool) (h : slices_ContainsFunc_int N a0 c0_0 c0_1 c0_2 c0_3 c0_4 = some r) : DCall Try.prog 42 [.c (.slv (a0.map eI)), .c (.clo 37 [.ptr 0 0 0 0])] [.live 0 5 [[I c0_0, I c0_1, .slv (c0_2.map eSide), I c0_3, .slv (c0_4.map eI)]]] (.c (B r)) := Call.trim (by simp) (by first | rfl | simp [-List.map_set]) (by first | rfl | simp [-List.map_set]) (w_slices_ContainsFunc_int N a0 c0_0 c0_1 c0_2 c0_3 c0_4 r h)
-- narthex/drink.Check
theorem w_drink_Check (N : Nat) (a0 : TDrinker) (r : Int) (h : drink_Check N a0 = some r) : Nx.Call Try.prog 17 [.agg (eDrinker a0)] [] fun r' _ => r' = .c (I r) := by
  refine Nx.Call.of_body Try.func17 rfl en17 Try.ntmps17 rfl (fun Γ hok => ?_)
  unfold drink_Check at h
  refine Wp.seq ?_
  refine Wp.text [1] rfl rfl ?_ -- region 0
  refine TextR.box (cs := [I a0.Diner.ID, I a0.Diner.Phase, .slv (a0.Diner.Sides.map eSide), I a0.Thirst, .slv (a0.Need.map eI)]) 0 rfl rfl rfl rfl .nil ?_
  refine TextR.assign rfl ?_
  refine TextR.done (.cons rfl .nil) ?_
  refine Wp.seq ?_
  refine Wp.text [1, 3] rfl rfl ?_ -- region 1
  refine TextR.makeFunc rfl ?_
  refine TextR.assign rfl ?_
  refine TextR.done (.cons rfl (.cons rfl .nil)) ?_
  refine Wp.seq ?_
  refine Wp.block ?_
  refine Wp.seq ?_
  refine Wp.seq ?_
  obtain ⟨y1, hy1, h⟩ := bind_some h
  refine Wp.text [1, 3, 5] rfl rfl ?_ -- region 2
  refine TextR.fieldAddr fo29_0 rfl rfl rfl ?_
  refine TextR.loadN (cs := [I a0.Diner.ID, I a0.Diner.Phase, .slv (a0.Diner.Sides.map eSide)]) tk25 rfl rfl ?_
  refine TextR.dcall rfl rfl (c_dine_Check N a0.Diner y1 hy1 _) ?_
  refine TextR.int rfl rfl rfl ?_
  refine TextR.assign rfl ?_
  refine TextR.done (.cons rfl (.cons rfl (.cons rfl .nil))) ?_
  obtain ⟨z2, hz2, h⟩ := bind_some h
  refine Wp.fragN (fun S => ∃ S', St.Weak ⟨Try.prog, 34, Γ⟩ S S' ∧ S' = ⟨[(1, .c (.ptr 0 0 0 0)), (3, .c (.clo 37 [.ptr 0 0 0 0])), (5, .c (B z2))], [.live 0 5 [[I a0.Diner.ID, I a0.Diner.Phase, .slv (a0.Diner.Sides.map eSide), I a0.Thirst, .slv (a0.Need.map eI)]]]⟩) ?_ ?_
  · replace h := hz2
    refine Wp.condM h rfl (fun hc2 h => ?_) (fun hc2 h => ?_)
    · refine Wp.skip ?_
      obtain rfl := Option.some.inj h
      exact ⟨_, (keepW (live := [1, 3, 5]) (.cons rfl (.cons rfl (.cons rfl .nil)))), rfl⟩
    · refine Wp.seq ?_
      refine Wp.text [1, 3, 5] rfl rfl ?_ -- region 3
      refine TextR.fieldAddr fo29_1 rfl rfl rfl ?_
      refine TextR.load1 tk26 rfl rfl ?_
      refine TextR.int rfl rfl rfl ?_
      refine TextR.assign rfl ?_
      refine TextR.done (.cons rfl (.cons rfl (.cons rfl .nil))) ?_
      refine Wp.condM h rfl (fun hc3 h => ?_) (fun hc3 h => ?_)
      · refine Wp.skip ?_
        obtain rfl := Option.some.inj h
        exact ⟨_, (keepW (live := [1, 3, 5]) (.cons rfl (.cons rfl (.cons rfl .nil)))), rfl⟩
      · refine Wp.text [1, 3, 5] rfl rfl ?_ -- region 4
        refine TextR.fieldAddr fo29_1 rfl rfl rfl ?_
        refine TextR.load1 tk26 rfl rfl ?_
        refine TextR.int rfl rfl rfl ?_
        refine TextR.assign rfl ?_
        refine TextR.done (.cons rfl (.cons rfl (.cons rfl .nil))) ?_
        obtain rfl := Option.some.inj h
        exact ⟨_, (keepW (live := [1, 3, 5]) (.cons rfl (.cons rfl (.cons rfl .nil)))), rfl⟩
  rintro _ ⟨S', hw, rfl⟩
  clear hz2
  refine Wp.weak hw ?_
  refine Wp.condM h rfl (fun hc1 h => ?_) (fun hc1 h => ?_)
  · refine Wp.seq ?_
    refine Wp.text [2] rfl rfl ?_ -- region 5
    refine TextR.assign rfl ?_
    refine TextR.done (.cons rfl .nil) ?_
    refine Wp.ret ?_
    obtain rfl := Option.some.inj h
    exact Ret.one rfl (resV_tmp rfl) rfl
  · refine Wp.seq ?_
    refine Wp.seq ?_
    obtain ⟨y3, hy3, h⟩ := bind_some h
    refine Wp.text [1, 3, 16] rfl rfl ?_ -- region 6
    refine TextR.fieldAddr fo29_2 rfl rfl rfl ?_
    refine TextR.load1 tk27 rfl rfl ?_
    refine TextR.dcall rfl rfl (c_set_Valid N a0.Need y3 hy3 _) ?_
    refine TextR.not rfl ?_
    refine TextR.assign rfl ?_
    refine TextR.done (.cons rfl (.cons rfl (.cons rfl .nil))) ?_
    obtain ⟨z4, hz4, h⟩ := bind_some h
    refine Wp.fragN (fun S => ∃ S', St.Weak ⟨Try.prog, 34, Γ⟩ S S' ∧ S' = ⟨[(16, .c (B z4))], []⟩) ?_ ?_
    · replace h := hz4
      refine Wp.condM h rfl (fun hc3 h => ?_) (fun hc3 h => ?_)
      · refine Wp.skip ?_
        obtain rfl := Option.some.inj h
        exact ⟨_, (St.Weak.trans (keepW (live := [16]) (.cons rfl .nil)) (pickT (e' := [(16, .c (B (!y3)))]) (H' := []) [] [0] 0 hok.len.symm rfl rfl (by decide) (by first | rfl | simp [-List.map_set]) (by first | rfl | simp [-List.map_set]) (by first | rfl | simp [-List.map_set]) (by first | rfl | simp [-List.map_set]))), rfl⟩
      · refine Wp.seq ?_
        refine Wp.go false none [[], [], [], [], [(24, true)], [(24, true)], [(24, true)], [(24, true)], [], []] [] [1, 3, 16] mixed rfl rfl (by kernel_rfl) ?_ -- region 7
        refine RunR.fieldAddr fo29_1 rfl rfl rfl rfl rfl ?_
        refine RunR.load1 tk26 rfl rfl rfl rfl ?_
        refine RunR.int rfl rfl rfl rfl rfl ?_
        refine RunR.move rfl rfl rfl ?_
        refine RunR.fieldAddr fo29_2 rfl rfl rfl rfl rfl ?_
        refine RunR.load1 tk27 rfl rfl rfl rfl ?_
        refine RunR.lenM us27 rfl rfl rfl rfl ?_
        refine RunR.int rfl rfl rfl rfl rfl ?_
        refine RunR.pickAnd rfl rfl rfl rfl ?_
        refine RunR.assign rfl rfl rfl ?_
        refine RunR.doneQ (.cons rfl (.cons rfl (.cons rfl .nil))) ?_
        refine Wp.condM h rfl (fun hc4 h => ?_) (fun hc4 h => ?_)
        · refine Wp.skip ?_
          obtain rfl := Option.some.inj h
          exact ⟨_, (St.Weak.trans (keepW (live := [16]) (.cons rfl .nil)) (pickT (e' := [(16, .c (B ((a0.Thirst == 0) && (decide ((a0.Need.length : Int) > 0)))))]) (H' := []) [] [0] 0 hok.len.symm rfl rfl (by decide) (by first | rfl | simp [-List.map_set]) (by first | rfl | simp [-List.map_set]) (by first | rfl | simp [-List.map_set]) (by first | rfl | simp [-List.map_set]))), rfl⟩
        · obtain ⟨y5, hy5, h⟩ := bind_some h
          refine Wp.text [16] rfl rfl ?_ -- region 8
          refine TextR.fieldAddr fo29_2 rfl rfl rfl ?_
          refine TextR.load1 tk27 rfl rfl ?_
          refine TextR.move rfl ?_
          refine TextR.dcall rfl rfl (c_slices_ContainsFunc_int N a0.Need a0.Diner.ID a0.Diner.Phase a0.Diner.Sides a0.Thirst a0.Need y5 hy5) ?_
          refine TextR.assign rfl ?_
          refine TextR.done (.cons rfl .nil) ?_
          obtain rfl := Option.some.inj h
          exact ⟨_, (St.Weak.trans (keepW (live := [16]) (.cons rfl .nil)) (pickT (e' := [(16, .c (B y5))]) (H' := []) [] [0] 0 hok.len.symm rfl rfl (by decide) (by first | rfl | simp [-List.map_set]) (by first | rfl | simp [-List.map_set]) (by first | rfl | simp [-List.map_set]) (by first | rfl | simp [-List.map_set]))), rfl⟩
    rintro _ ⟨S', hw, rfl⟩
    clear hz4
    refine Wp.weak hw ?_
    refine Wp.condM h rfl (fun hc2 h => ?_) (fun hc2 h => ?_)
    · refine Wp.seq ?_
      refine Wp.text [2] rfl rfl ?_ -- region 9
      refine TextR.assign rfl ?_
      refine TextR.done (.cons rfl .nil) ?_
      refine Wp.ret ?_
      obtain rfl := Option.some.inj h
      exact Ret.one rfl (resV_tmp rfl) rfl
    · refine Wp.skip ?_
      refine Wp.seq ?_
      refine Wp.text [2] rfl rfl ?_ -- region 10
      refine TextR.assign rfl ?_
      refine TextR.done (.cons rfl .nil) ?_
      refine Wp.ret ?_
      obtain rfl := Option.some.inj h
      exact Ret.one rfl (resV_tmp rfl) rfl
theorem c_drink_Check (N : Nat) (a0 : TDrinker) (r : Int) (h : drink_Check N a0 = some r) (H : List Ob) : DCall Try.prog 17 [.agg (eDrinker a0)] H (.c (I r)) := DCall.lift (by first | rfl | simp [-List.map_set]) (by first | rfl | simp [-List.map_set]) (fun _ => by simp [-List.map_set]) (w_drink_Check N a0 r h) H
-- narthex/drink.Open$1$1
theorem w_drink_Open_1_1 (N : Nat) (a0 : TSide) (c0_0 : Int) (c0_1 : Int) (c0_2 : List TSide) (c0_3 : Int) (c0_4 : List Int) (c1_0 : Int) (c1_1 : Int) (c1_3 : Int) (c2_0 : Int) (r : Bool) (h : drink_Open_1_1 N a0 c0_0 c0_1 c0_2 c0_3 c0_4 c1_0 c1_1 c1_3 c2_0 = some r) : Nx.Call Try.prog 50 [.agg (eSide a0), .c (.ptr 2 0 0 0)] [.live 0 5 [[I c0_0, I c0_1, .slv (c0_2.map eSide), I c0_3, .slv (c0_4.map eI)]], .live 0 5 [[I c1_0, I c1_1, nilS, I c1_3, nilS]], .live 0 1 [[I c2_0]]] fun r' H' => r' = .c (B r) ∧ ∃ junk, H' = [.live 0 5 [[I c0_0, I c0_1, .slv (c0_2.map eSide), I c0_3, .slv (c0_4.map eI)]], .live 0 5 [[I c1_0, I c1_1, nilS, I c1_3, nilS]], .live 0 1 [[I c2_0]]] ++ junk := by
  refine Nx.Call.of_body Try.func50 rfl en50 Try.ntmps50 rfl (fun Γ hok => ?_)
  unfold drink_Open_1_1 at h
  refine Wp.seq ?_
  refine Wp.text [1, 2] rfl rfl ?_ -- region 0
  refine TextR.box (cs := [I a0.Peer, I a0.Epoch, I a0.State, B a0.Fork, B a0.Dirty, B a0.Token, B a0.Bottle, B a0.Ask]) 3 rfl rfl rfl rfl (.cons (.cons (.cons .nil))) ?_
  refine TextR.assign rfl ?_
  refine TextR.done (.cons rfl (.cons rfl .nil)) ?_
  refine Wp.seq ?_
  refine Wp.go false none [[], [], [], [], [], [(8, true)], [(8, true)], [(8, true)], [], []] [] [3] mixed rfl rfl (by kernel_rfl) ?_ -- region 1
  refine RunR.fieldAddr fo53_0 rfl rfl rfl rfl rfl ?_
  refine RunR.load1 tk3 rfl rfl rfl rfl ?_
  refine RunR.load1 tk3 rfl rfl rfl rfl ?_
  refine RunR.int rfl rfl rfl rfl rfl ?_
  refine RunR.move rfl rfl rfl ?_
  refine RunR.fieldAddr fo53_2 rfl rfl rfl rfl rfl ?_
  refine RunR.load1 tk51 rfl rfl rfl rfl ?_
  refine RunR.int rfl rfl rfl rfl rfl ?_
  refine RunR.pickAnd rfl rfl rfl rfl ?_
  refine RunR.assign rfl rfl rfl ?_
  refine RunR.doneQ (.cons rfl .nil) ?_
  refine Wp.ret ?_
  obtain rfl := Option.some.inj h
  exact Ret.one rfl (resV_tmp rfl) ⟨rfl, _, rfl⟩
theorem c_drink_Open_1_1 (N : Nat) (a0 : TSide) (c0_0 : Int) (c0_1 : Int) (c0_2 : List TSide) (c0_3 : Int) (c0_4 : List Int) (c1_0 : Int) (c1_1 : Int) (c1_3 : Int) (c2_0 : Int) (r : Bool) (h : drink_Open_1_1 N a0 c0_0 c0_1 c0_2 c0_3 c0_4 c1_0 c1_1 c1_3 c2_0 = some r) : DCall Try.prog 50 [.agg (eSide a0), .c (.ptr 2 0 0 0)] [.live 0 5 [[I c0_0, I c0_1, .slv (c0_2.map eSide), I c0_3, .slv (c0_4.map eI)]], .live 0 5 [[I c1_0, I c1_1, nilS, I c1_3, nilS]], .live 0 1 [[I c2_0]]] (.c (B r)) := Call.trim (by simp) (by first | rfl | simp [-List.map_set]) (by first | rfl | simp [-List.map_set]) (w_drink_Open_1_1 N a0 c0_0 c0_1 c0_2 c0_3 c0_4 c1_0 c1_1 c1_3 c2_0 r h)
-- slices.IndexFunc[[]narthex/api.Side,narthex/api.Side]
theorem w_slices_IndexFunc_Side_3 (N : Nat) (a0 : List TSide) (c0_0 : Int) (c0_1 : Int) (c0_2 : List TSide) (c0_3 : Int) (c0_4 : List Int) (c1_0 : Int) (c1_1 : Int) (c1_3 : Int) (c2_0 : Int) (r : Int) (h : slices_IndexFunc_Side_3 N a0 c0_0 c0_1 c0_2 c0_3 c0_4 c1_0 c1_1 c1_3 c2_0 = some r) : Nx.Call Try.prog 44 [.c (.slv (a0.map eSide)), .c (.clo 50 [.ptr 2 0 0 0])] [.live 0 5 [[I c0_0, I c0_1, .slv (c0_2.map eSide), I c0_3, .slv (c0_4.map eI)]], .live 0 5 [[I c1_0, I c1_1, nilS, I c1_3, nilS]], .live 0 1 [[I c2_0]]] fun r' H' => r' = .c (I r) ∧ ∃ junk, H' = [.live 0 5 [[I c0_0, I c0_1, .slv (c0_2.map eSide), I c0_3, .slv (c0_4.map eI)]], .live 0 5 [[I c1_0, I c1_1, nilS, I c1_3, nilS]], .live 0 1 [[I c2_0]]] ++ junk := by
  refine Nx.Call.of_body Try.func44 rfl en44 Try.ntmps44 rfl (fun Γ hok => ?_)
  unfold slices_IndexFunc_Side_3 at h
  refine Wp.seq ?_
  refine Wp.text [0, 1] rfl rfl ?_ -- region 0
  refine TextR.assign rfl ?_
  refine TextR.done (.cons rfl (.cons rfl .nil)) ?_
  refine Wp.seq ?_
  refine Wp.seq ?_
  refine Wp.text [0, 1, 7, 8] rfl rfl ?_ -- region 1
  refine TextR.move rfl ?_
  refine TextR.lenM us23 rfl rfl ?_
  refine TextR.move rfl ?_
  refine TextR.done (.cons rfl (.cons rfl (.cons rfl (.cons rfl .nil)))) ?_
  obtain ⟨z1, hz1, h⟩ := bind_some h
  refine Wp.fragR (fun S => ∃ z3, z1 = .inr z3 ∧ ∃ S', St.Weak ⟨Try.prog, 19, Γ⟩ S S' ∧ S' = ⟨[], [.live 0 5 [[I c0_0, I c0_1, .slv (c0_2.map eSide), I c0_3, .slv (c0_4.map eI)]], .live 0 5 [[I c1_0, I c1_1, nilS, I c1_3, nilS]], .live 0 1 [[I c2_0]]]⟩) (fun S => ∃ v, z1 = .inl v ∧ Ret Try.prog Try.f44 (fun r' H' => r' = .c (I v) ∧ ∃ junk, H' = [.live 0 5 [[I c0_0, I c0_1, .slv (c0_2.map eSide), I c0_3, .slv (c0_4.map eI)]], .live 0 5 [[I c1_0, I c1_1, nilS, I c1_3, nilS]], .live 0 1 [[I c2_0]]] ++ junk) .ret S) ?_ ?_ ?_
  · replace h := hz1
    refine Wp.block ?_
    refine Wp.weak (keepW (live := [0, 1, 7, 8]) (.cons rfl (.cons rfl (.cons rfl (.cons rfl .nil))))) ?_
    refine Wp.loop (fun m S => ∃ s8_1, slices_IndexFunc_Side_3_L1 N a0 c0_0 c0_1 c0_2 c0_3 c0_4 c1_0 c1_1 c1_3 c2_0 m s8_1 = some z1 ∧ S = ⟨[(0, .c (.slv (a0.map eSide))), (1, .c (.clo 50 [.ptr 2 0 0 0])), (7, .c (I (a0.length : Int))), (8, .c (I s8_1))], [.live 0 5 [[I c0_0, I c0_1, .slv (c0_2.map eSide), I c0_3, .slv (c0_4.map eI)]], .live 0 5 [[I c1_0, I c1_1, nilS, I c1_3, nilS]], .live 0 1 [[I c2_0]]]⟩) N ⟨_, h, rfl⟩ ?_
    rintro m1 _ ⟨s8_1, h, rfl⟩
    cases m1 with
    | zero => rw [slices_IndexFunc_Side_3_L1.eq_1] at h; cases h
    | succ m1 =>
    rw [slices_IndexFunc_Side_3_L1.eq_2] at h
    refine Wp.seq ?_
    refine Wp.text [0, 1, 7, 8, 9] rfl rfl ?_ -- region 2
    refine TextR.int rfl rfl rfl ?_
    refine TextR.done (.cons rfl (.cons rfl (.cons rfl (.cons rfl (.cons rfl .nil))))) ?_
    refine Wp.seq ?_
    refine Wp.condM h rfl (fun hc2 h => ?_) (fun hc2 h => ?_)
    · refine Wp.skip ?_
      refine Wp.seq ?_
      refine Wp.block ?_
      refine Wp.seq ?_
      refine Wp.text [0, 1, 5, 7, 8] rfl rfl ?_ -- region 3
      refine TextR.move rfl ?_
      refine TextR.assign rfl ?_
      refine TextR.done (.cons rfl (.cons rfl (.cons rfl (.cons rfl (.cons rfl .nil))))) ?_
      refine Wp.seq ?_
      obtain ⟨x4, hx4, h⟩ := bind_some h
      obtain ⟨y5, hy5, h⟩ := bind_some h
      refine Wp.text [0, 1, 5, 7, 8, 16] rfl rfl ?_ -- region 4
      refine TextR.move rfl ?_
      refine TextR.move rfl ?_
      refine TextR.move rfl ?_
      refine TextR.indexA se23 rfl rfl rfl hx4 rfl ?_
      refine TextR.loadNM tk53 rfl (at_get hx4) rfl ?_
      refine TextR.dcall rfl rfl (c_drink_Open_1_1 N x4 c0_0 c0_1 c0_2 c0_3 c0_4 c1_0 c1_1 c1_3 c2_0 y5 hy5) ?_
      refine TextR.done (.cons rfl (.cons rfl (.cons rfl (.cons rfl (.cons rfl (.cons rfl .nil)))))) ?_
      refine Wp.condM h rfl (fun hc3 h => ?_) (fun hc3 h => ?_)
      · refine Wp.seq ?_
        refine Wp.text [4] rfl rfl ?_ -- region 5
        refine TextR.move rfl ?_
        refine TextR.assign rfl ?_
        refine TextR.done (.cons rfl .nil) ?_
        refine Wp.ret ?_
        exact ⟨_, (Option.some.inj h).symm, Ret.one rfl (resV_tmp rfl) ⟨rfl, _, rfl⟩⟩
      · refine Wp.skip ?_
        refine Wp.text [0, 1, 7, 8] rfl rfl ?_ -- region 6
        refine TextR.int rfl rfl rfl ?_
        refine TextR.move rfl ?_
        refine TextR.done (.cons rfl (.cons rfl (.cons rfl (.cons rfl .nil)))) ?_
        exact ⟨m1, Nat.lt_succ_self _, _, (keepW (live := [0, 1, 7, 8]) (.cons rfl (.cons rfl (.cons rfl (.cons rfl .nil))))), _, h, rfl⟩
    · refine Wp.exit ?_
      exact ⟨_, (Option.some.inj h).symm, _, (keepW (live := []) .nil), rfl⟩
  · rintro _ ⟨z3, rfl, _, hw, rfl⟩
    dsimp only at h
    clear hz1
    refine Wp.weak hw ?_
    refine Wp.seq ?_
    refine Wp.text [4] rfl rfl ?_ -- region 7
    refine TextR.assign rfl ?_
    refine TextR.done (.cons rfl .nil) ?_
    refine Wp.ret ?_
    obtain rfl := Option.some.inj h
    exact Ret.one rfl (resV_tmp rfl) ⟨rfl, _, rfl⟩
  · rintro S' ⟨r2, rfl, hR⟩
    dsimp only at h
    obtain rfl := Option.some.inj h
    exact hR
theorem c_slices_IndexFunc_Side_3 (N : Nat) (a0 : List TSide) (c0_0 : Int) (c0_1 : Int) (c0_2 : List TSide) (c0_3 : Int) (c0_4 : List Int) (c1_0 : Int) (c1_1 : Int) (c1_3 : Int) (c2_0 : Int) (r : Int) (h : slices_IndexFunc_Side_3 N a0 c0_0 c0_1 c0_2 c0_3 c0_4 c1_0 c1_1 c1_3 c2_0 = some r) : DCall Try.prog 44 [.c (.slv (a0.map eSide)), .c (.clo 50 [.ptr 2 0 0 0])] [.live 0 5 [[I c0_0, I c0_1, .slv (c0_2.map eSide), I c0_3, .slv (c0_4.map eI)]], .live 0 5 [[I c1_0, I c1_1, nilS, I c1_3, nilS]], .live 0 1 [[I c2_0]]] (.c (I r)) := Call.trim (by simp) (by first | rfl | simp [-List.map_set]) (by first | rfl | simp [-List.map_set]) (w_slices_IndexFunc_Side_3 N a0 c0_0 c0_1 c0_2 c0_3 c0_4 c1_0 c1_1 c1_3 c2_0 r h)
-- slices.ContainsFunc[[]narthex/api.Side,narthex/api.Side]
theorem w_slices_ContainsFunc_Side_3 (N : Nat) (a0 : List TSide) (c0_0 : Int) (c0_1 : Int) (c0_2 : List TSide) (c0_3 : Int) (c0_4 : List Int) (c1_0 : Int) (c1_1 : Int) (c1_3 : Int) (c2_0 : Int) (r : Bool) (h : slices_ContainsFunc_Side_3 N a0 c0_0 c0_1 c0_2 c0_3 c0_4 c1_0 c1_1 c1_3 c2_0 = some r) : Nx.Call Try.prog 38 [.c (.slv (a0.map eSide)), .c (.clo 50 [.ptr 2 0 0 0])] [.live 0 5 [[I c0_0, I c0_1, .slv (c0_2.map eSide), I c0_3, .slv (c0_4.map eI)]], .live 0 5 [[I c1_0, I c1_1, nilS, I c1_3, nilS]], .live 0 1 [[I c2_0]]] fun r' H' => r' = .c (B r) ∧ ∃ junk, H' = [.live 0 5 [[I c0_0, I c0_1, .slv (c0_2.map eSide), I c0_3, .slv (c0_4.map eI)]], .live 0 5 [[I c1_0, I c1_1, nilS, I c1_3, nilS]], .live 0 1 [[I c2_0]]] ++ junk := by
  refine Nx.Call.of_body Try.func38 rfl en38 Try.ntmps38 rfl (fun Γ hok => ?_)
  unfold slices_ContainsFunc_Side_3 at h
  refine Wp.seq ?_
  refine Wp.text [0, 1] rfl rfl ?_ -- region 0
  refine TextR.assign rfl ?_
  refine TextR.done (.cons rfl (.cons rfl .nil)) ?_
  refine Wp.seq ?_
  obtain ⟨y1, hy1, h⟩ := bind_some h
  refine Wp.text [4] rfl rfl ?_ -- region 1
  refine TextR.move rfl ?_
  refine TextR.move rfl ?_
  refine TextR.dcall rfl rfl (c_slices_IndexFunc_Side_3 N a0 c0_0 c0_1 c0_2 c0_3 c0_4 c1_0 c1_1 c1_3 c2_0 y1 hy1) ?_
  refine TextR.int rfl rfl rfl ?_
  refine TextR.assign rfl ?_
  refine TextR.done (.cons rfl .nil) ?_
  refine Wp.ret ?_
  obtain rfl := Option.some.inj h
  exact Ret.one rfl (resV_tmp rfl) ⟨rfl, _, rfl⟩
theorem c_slices_ContainsFunc_Side_3 (N : Nat) (a0 : List TSide) (c0_0 : Int) (c0_1 : Int) (c0_2 : List TSide) (c0_3 : Int) (c0_4 : List Int) (c1_0 : Int) (c1_1 : Int) (c1_3 : Int) (c2_0 : Int) (r : Bool) (h : slices_ContainsFunc_Side_3 N a0 c0_0 c0_1 c0_2 c0_3 c0_4 c1_0 c1_1 c1_3 c2_0 = some r) : DCall Try.prog 38 [.c (.slv (a0.map eSide)), .c (.clo 50 [.ptr 2 0 0 0])] [.live 0 5 [[I c0_0, I c0_1, .slv (c0_2.map eSide), I c0_3, .slv (c0_4.map eI)]], .live 0 5 [[I c1_0, I c1_1, nilS, I c1_3, nilS]], .live 0 1 [[I c2_0]]] (.c (B r)) := Call.trim (by simp) (by first | rfl | simp [-List.map_set]) (by first | rfl | simp [-List.map_set]) (w_slices_ContainsFunc_Side_3 N a0 c0_0 c0_1 c0_2 c0_3 c0_4 c1_0 c1_1 c1_3 c2_0 r h)
-- narthex/drink.Open$1
theorem w_drink_Open_1 (N : Nat) (a0 : Int) (c0_0 : Int) (c0_1 : Int) (c0_2 : List TSide) (c0_3 : Int) (c0_4 : List Int) (c1_0 : Int) (c1_1 : Int) (c1_3 : Int) (r : Bool) (h : drink_Open_1 N a0 c0_0 c0_1 c0_2 c0_3 c0_4 c1_0 c1_1 c1_3 = some r) : Nx.Call Try.prog 49 [.c (I a0), .c (.ptr 0 0 0 0)] [.live 0 5 [[I c0_0, I c0_1, .slv (c0_2.map eSide), I c0_3, .slv (c0_4.map eI)]], .live 0 5 [[I c1_0, I c1_1, nilS, I c1_3, nilS]]] fun r' H' => r' = .c (B r) ∧ ∃ junk, H' = [.live 0 5 [[I c0_0, I c0_1, .slv (c0_2.map eSide), I c0_3, .slv (c0_4.map eI)]], .live 0 5 [[I c1_0, I c1_1, nilS, I c1_3, nilS]]] ++ junk := by
  refine Nx.Call.of_body Try.func49 rfl en49 Try.ntmps49 rfl (fun Γ hok => ?_)
  unfold drink_Open_1 at h
  refine Wp.seq ?_
  refine Wp.text [1, 2] rfl rfl ?_ -- region 0
  refine TextR.box (cs := [I a0]) 2 rfl rfl rfl rfl (.cons (.cons .nil)) ?_
  refine TextR.assign rfl ?_
  refine TextR.done (.cons rfl (.cons rfl .nil)) ?_
  refine Wp.seq ?_
  obtain ⟨y1, hy1, h⟩ := bind_some h
  refine Wp.text [3] rfl rfl ?_ -- region 1
  refine TextR.fieldAddr fo29_0 rfl rfl rfl ?_
  refine TextR.fieldAddr fo25_2 rfl rfl rfl ?_
  refine TextR.load1 tk23 rfl rfl ?_
  refine TextR.makeFunc rfl ?_
  refine TextR.dcall rfl rfl (c_slices_ContainsFunc_Side_3 N c0_2 c0_0 c0_1 c0_2 c0_3 c0_4 c1_0 c1_1 c1_3 a0 y1 hy1) ?_
  refine TextR.not rfl ?_
  refine TextR.assign rfl ?_
  refine TextR.done (.cons rfl .nil) ?_
  refine Wp.ret ?_
  obtain rfl := Option.some.inj h
  exact Ret.one rfl (resV_tmp rfl) ⟨rfl, _, rfl⟩
theorem c_drink_Open_1 (N : Nat) (a0 : Int) (c0_0 : Int) (c0_1 : Int) (c0_2 : List TSide) (c0_3 : Int) (c0_4 : List Int) (c1_0 : Int) (c1_1 : Int) (c1_3 : Int) (r : Bool) (h : drink_Open_1 N a0 c0_0 c0_1 c0_2 c0_3 c0_4 c1_0 c1_1 c1_3 = some r) : DCall Try.prog 49 [.c (I a0), .c (.ptr 0 0 0 0)] [.live 0 5 [[I c0_0, I c0_1, .slv (c0_2.map eSide), I c0_3, .slv (c0_4.map eI)]], .live 0 5 [[I c1_0, I c1_1, nilS, I c1_3, nilS]]] (.c (B r)) := Call.trim (by simp) (by first | rfl | simp [-List.map_set]) (by first | rfl | simp [-List.map_set]) (w_drink_Open_1 N a0 c0_0 c0_1 c0_2 c0_3 c0_4 c1_0 c1_1 c1_3 r h)
-- slices.IndexFunc[[]int,int]
theorem w_slices_IndexFunc_int_2 (N : Nat) (a0 : List Int) (c0_0 : Int) (c0_1 : Int) (c0_2 : List TSide) (c0_3 : Int) (c0_4 : List Int) (c1_0 : Int) (c1_1 : Int) (c1_3 : Int) (r : Int) (h : slices_IndexFunc_int_2 N a0 c0_0 c0_1 c0_2 c0_3 c0_4 c1_0 c1_1 c1_3 = some r) : Nx.Call Try.prog 60 [.c (.slv (a0.map eI)), .c (.clo 49 [.ptr 0 0 0 0])] [.live 0 5 [[I c0_0, I c0_1, .slv (c0_2.map eSide), I c0_3, .slv (c0_4.map eI)]], .live 0 5 [[I c1_0, I c1_1, nilS, I c1_3, nilS]]] fun r' H' => r' = .c (I r) ∧ ∃ junk, H' = [.live 0 5 [[I c0_0, I c0_1, .slv (c0_2.map eSide), I c0_3, .slv (c0_4.map eI)]], .live 0 5 [[I c1_0, I c1_1, nilS, I c1_3, nilS]]] ++ junk := by
  refine Nx.Call.of_body Try.func60 rfl en60 Try.ntmps60 rfl (fun Γ hok => ?_)
  unfold slices_IndexFunc_int_2 at h
  refine Wp.seq ?_
  refine Wp.text [0, 1] rfl rfl ?_ -- region 0
  refine TextR.assign rfl ?_
  refine TextR.done (.cons rfl (.cons rfl .nil)) ?_
  refine Wp.seq ?_
  refine Wp.seq ?_
  refine Wp.text [0, 1, 7, 8] rfl rfl ?_ -- region 1
  refine TextR.move rfl ?_
  refine TextR.lenM us27 rfl rfl ?_
  refine TextR.move rfl ?_
  refine TextR.done (.cons rfl (.cons rfl (.cons rfl (.cons rfl .nil)))) ?_
  obtain ⟨z1, hz1, h⟩ := bind_some h
  refine Wp.fragR (fun S => ∃ z3, z1 = .inr z3 ∧ ∃ S', St.Weak ⟨Try.prog, 19, Γ⟩ S S' ∧ S' = ⟨[], [.live 0 5 [[I c0_0, I c0_1, .slv (c0_2.map eSide), I c0_3, .slv (c0_4.map eI)]], .live 0 5 [[I c1_0, I c1_1, nilS, I c1_3, nilS]]]⟩) (fun S => ∃ v, z1 = .inl v ∧ Ret Try.prog Try.f60 (fun r' H' => r' = .c (I v) ∧ ∃ junk, H' = [.live 0 5 [[I c0_0, I c0_1, .slv (c0_2.map eSide), I c0_3, .slv (c0_4.map eI)]], .live 0 5 [[I c1_0, I c1_1, nilS, I c1_3, nilS]]] ++ junk) .ret S) ?_ ?_ ?_
  · replace h := hz1
    refine Wp.block ?_
    refine Wp.weak (keepW (live := [0, 1, 7, 8]) (.cons rfl (.cons rfl (.cons rfl (.cons rfl .nil))))) ?_
    refine Wp.loop (fun m S => ∃ s8_1, slices_IndexFunc_int_2_L1 N a0 c0_0 c0_1 c0_2 c0_3 c0_4 c1_0 c1_1 c1_3 m s8_1 = some z1 ∧ S = ⟨[(0, .c (.slv (a0.map eI))), (1, .c (.clo 49 [.ptr 0 0 0 0])), (7, .c (I (a0.length : Int))), (8, .c (I s8_1))], [.live 0 5 [[I c0_0, I c0_1, .slv (c0_2.map eSide), I c0_3, .slv (c0_4.map eI)]], .live 0 5 [[I c1_0, I c1_1, nilS, I c1_3, nilS]]]⟩) N ⟨_, h, rfl⟩ ?_
    rintro m1 _ ⟨s8_1, h, rfl⟩
    cases m1 with
    | zero => rw [slices_IndexFunc_int_2_L1.eq_1] at h; cases h
    | succ m1 =>
    rw [slices_IndexFunc_int_2_L1.eq_2] at h
    refine Wp.seq ?_
    refine Wp.text [0, 1, 7, 8, 9] rfl rfl ?_ -- region 2
    refine TextR.int rfl rfl rfl ?_
    refine TextR.done (.cons rfl (.cons rfl (.cons rfl (.cons rfl (.cons rfl .nil))))) ?_
    refine Wp.seq ?_
    refine Wp.condM h rfl (fun hc2 h => ?_) (fun hc2 h => ?_)
    · refine Wp.skip ?_
      refine Wp.seq ?_
      refine Wp.block ?_
      refine Wp.seq ?_
      refine Wp.text [0, 1, 5, 7, 8] rfl rfl ?_ -- region 3
      refine TextR.move rfl ?_
      refine TextR.assign rfl ?_
      refine TextR.done (.cons rfl (.cons rfl (.cons rfl (.cons rfl (.cons rfl .nil))))) ?_
      refine Wp.seq ?_
      obtain ⟨x4, hx4, h⟩ := bind_some h
      obtain ⟨y5, hy5, h⟩ := bind_some h
      refine Wp.text [0, 1, 5, 7, 8, 16] rfl rfl ?_ -- region 4
      refine TextR.move rfl ?_
      refine TextR.move rfl ?_
      refine TextR.move rfl ?_
      refine TextR.indexA se27 rfl rfl rfl hx4 rfl ?_
      refine TextR.load1M tk3 rfl (at_get hx4) rfl ?_
      refine TextR.dcall rfl rfl (c_drink_Open_1 N x4 c0_0 c0_1 c0_2 c0_3 c0_4 c1_0 c1_1 c1_3 y5 hy5) ?_
      refine TextR.done (.cons rfl (.cons rfl (.cons rfl (.cons rfl (.cons rfl (.cons rfl .nil)))))) ?_
      refine Wp.condM h rfl (fun hc3 h => ?_) (fun hc3 h => ?_)
      · refine Wp.seq ?_
        refine Wp.text [4] rfl rfl ?_ -- region 5
        refine TextR.move rfl ?_
        refine TextR.assign rfl ?_
        refine TextR.done (.cons rfl .nil) ?_
        refine Wp.ret ?_
        exact ⟨_, (Option.some.inj h).symm, Ret.one rfl (resV_tmp rfl) ⟨rfl, _, rfl⟩⟩
      · refine Wp.skip ?_
        refine Wp.text [0, 1, 7, 8] rfl rfl ?_ -- region 6
        refine TextR.int rfl rfl rfl ?_
        refine TextR.move rfl ?_
        refine TextR.done (.cons rfl (.cons rfl (.cons rfl (.cons rfl .nil)))) ?_
        exact ⟨m1, Nat.lt_succ_self _, _, (keepW (live := [0, 1, 7, 8]) (.cons rfl (.cons rfl (.cons rfl (.cons rfl .nil))))), _, h, rfl⟩
    · refine Wp.exit ?_
      exact ⟨_, (Option.some.inj h).symm, _, (keepW (live := []) .nil), rfl⟩
  · rintro _ ⟨z3, rfl, _, hw, rfl⟩
    dsimp only at h
    clear hz1
    refine Wp.weak hw ?_
    refine Wp.seq ?_
    refine Wp.text [4] rfl rfl ?_ -- region 7
    refine TextR.assign rfl ?_
    refine TextR.done (.cons rfl .nil) ?_
    refine Wp.ret ?_
    obtain rfl := Option.some.inj h
    exact Ret.one rfl (resV_tmp rfl) ⟨rfl, _, rfl⟩
  · rintro S' ⟨r2, rfl, hR⟩
    dsimp only at h
    obtain rfl := Option.some.inj h
    exact hR
theorem c_slices_IndexFunc_int_2 (N : Nat) (a0 : List Int) (c0_0 : Int) (c0_1 : Int) (c0_2 : List TSide) (c0_3 : Int) (c0_4 : List Int) (c1_0 : Int) (c1_1 : Int) (c1_3 : Int) (r : Int) (h : slices_IndexFunc_int_2 N a0 c0_0 c0_1 c0_2 c0_3 c0_4 c1_0 c1_1 c1_3 = some r) : DCall Try.prog 60 [.c (.slv (a0.map eI)), .c (.clo 49 [.ptr 0 0 0 0])] [.live 0 5 [[I c0_0, I c0_1, .slv (c0_2.map eSide), I c0_3, .slv (c0_4.map eI)]], .live 0 5 [[I c1_0, I c1_1, nilS, I c1_3, nilS]]] (.c (I r)) := Call.trim (by simp) (by first | rfl | simp [-List.map_set]) (by first | rfl | simp [-List.map_set]) (w_slices_IndexFunc_int_2 N a0 c0_0 c0_1 c0_2 c0_3 c0_4 c1_0 c1_1 c1_3 r h)
-- slices.ContainsFunc[[]int,int]
theorem w_slices_ContainsFunc_int_2 (N : Nat) (a0 : List Int) (c0_0 : Int) (c0_1 : Int) (c0_2 : List TSide) (c0_3 : Int) (c0_4 : List Int) (c1_0 : Int) (c1_1 : Int) (c1_3 : Int) (r : Bool) (h : slices_ContainsFunc_int_2 N a0 c0_0 c0_1 c0_2 c0_3 c0_4 c1_0 c1_1 c1_3 = some r) : Nx.Call Try.prog 42 [.c (.slv (a0.map eI)), .c (.clo 49 [.ptr 0 0 0 0])] [.live 0 5 [[I c0_0, I c0_1, .slv (c0_2.map eSide), I c0_3, .slv (c0_4.map eI)]], .live 0 5 [[I c1_0, I c1_1, nilS, I c1_3, nilS]]] fun r' H' => r' = .c (B r) ∧ ∃ junk, H' = [.live 0 5 [[I c0_0, I c0_1, .slv (c0_2.map eSide), I c0_3, .slv (c0_4.map eI)]], .live 0 5 [[I c1_0, I c1_1, nilS, I c1_3, nilS]]] ++ junk := by
  refine Nx.Call.of_body Try.func42 rfl en42 Try.ntmps42 rfl (fun Γ hok => ?_)
  unfold slices_ContainsFunc_int_2 at h
  refine Wp.seq ?_
  refine Wp.text [0, 1] rfl rfl ?_ -- region 0
  refine TextR.assign rfl ?_
  refine TextR.done (.cons rfl (.cons rfl .nil)) ?_
  refine Wp.seq ?_
  obtain ⟨y1, hy1, h⟩ := bind_some h
  refine Wp.text [4] rfl rfl ?_ -- region 1
  refine TextR.move rfl ?_
  refine TextR.move rfl ?_
  refine TextR.dcall rfl rfl (c_slices_IndexFunc_int_2 N a0 c0_0 c0_1 c0_2 c0_3 c0_4 c1_0 c1_1 c1_3 y1 hy1) ?_
  refine TextR.int rfl rfl rfl ?_
  refine TextR.assign rfl ?_
  refine TextR.done (.cons rfl .nil) ?_
  refine Wp.ret ?_
  obtain rfl := Option.some.inj h
  exact Ret.one rfl (resV_tmp rfl) ⟨rfl, _, rfl⟩
theorem c_slices_ContainsFunc_int_2 (N : Nat) (a0 : List Int) (c0_0 : Int) (c0_1 : Int) (c0_2 : List TSide) (c0_3 : Int) (c0_4 : List Int) (c1_0 : Int) (c1_1 : Int) (c1_3 : Int) (r : Bool) (h : slices_ContainsFunc_int_2 N a0 c0_0 c0_1 c0_2 c0_3 c0_4 c1_0 c1_1 c1_3 = some r) : DCall Try.prog 42 [.c (.slv (a0.map eI)), .c (.clo 49 [.ptr 0 0 0 0])] [.live 0 5 [[I c0_0, I c0_1, .slv (c0_2.map eSide), I c0_3, .slv (c0_4.map eI)]], .live 0 5 [[I c1_0, I c1_1, nilS, I c1_3, nilS]]] (.c (B r)) := Call.trim (by simp) (by first | rfl | simp [-List.map_set]) (by first | rfl | simp [-List.map_set]) (w_slices_ContainsFunc_int_2 N a0 c0_0 c0_1 c0_2 c0_3 c0_4 c1_0 c1_1 c1_3 r h)
-- slices.Clone
theorem bn_slices_Clone_Side : Nx.Call Try.prog 53 [.c nilS] [] fun r' H' => r' = .c (.sl 0 1 0 0) ∧ ∃ junk, H' = [.live 1 8 []] ++ junk := by
  refine Nx.Call.of_body Try.func53 rfl en53 Try.ntmps53 rfl (fun Γ hok => ?_)
  refine Wp.seq ?_
  refine Wp.text [0] rfl rfl ?_ -- region 0
  refine TextR.assign rfl ?_
  refine TextR.done (.cons rfl .nil) ?_
  refine Wp.seq ?_
  refine Wp.seq ?_
  refine Wp.text [0, 4] rfl rfl ?_ -- region 1
  refine TextR.move rfl ?_
  refine TextR.eqNil us23 rfl rfl ?_
  refine TextR.done (.cons rfl (.cons rfl .nil)) ?_
  refine Wp.cond rfl (fun hc => ?_) (fun hc => ?_)
  · refine Wp.seq ?_
    refine Wp.text [2] rfl rfl ?_ -- region 2
    refine TextR.assign rfl ?_
    refine TextR.done (.cons rfl .nil) ?_
    refine Wp.weak (fun a w hs => nilV_sat (t := 2) 1 8 0 rfl rfl .nil hs) ?_
    refine Wp.ret ?_
    refine Ret.one rfl (resV_tmp rfl) ?_
    exact ⟨rfl, [], rfl⟩
  · cases hc
theorem bq_slices_Clone_Side (xs : List TSide) (hl : xs.length ≤ 10000000000) : Nx.Call Try.prog 53 [.c (.slq (xs.map eSide))] [] fun r' H' => r' = .c (.sl 0 1 0 xs.length) ∧ ∃ junk, H' = [.live 1 8 (xs.map eSide)] ++ junk := by
  refine Nx.Call.of_body Try.func53 rfl en53 Try.ntmps53 rfl (fun Γ hok => ?_)
  refine Wp.seq ?_
  refine Wp.text [0] rfl rfl ?_ -- region 0
  refine TextR.assign rfl ?_
  refine TextR.done (.cons rfl .nil) ?_
  refine Wp.seq ?_
  refine Wp.seq ?_
  refine Wp.text [0, 4] rfl rfl ?_ -- region 1
  refine TextR.move rfl ?_
  refine TextR.eqNil us23 rfl rfl ?_
  refine TextR.done (.cons rfl (.cons rfl .nil)) ?_
  refine Wp.cond rfl (fun hc => ?_) (fun hc => ?_)
  · cases hc
  · refine Wp.skip ?_
    refine Wp.seq ?_
    refine Wp.text [2] rfl rfl ?_ -- region 3
    refine TextR.buildSlice 0 se23 rfl rfl rfl .nil ?_
    refine TextR.move rfl ?_
    refine TextR.appendM eSide [] xs xs rfl se23 rfl rfl rfl rfl (fun _ => rfl) rfl (by simp; omega) .zero ?_
    refine TextR.assign rfl ?_
    refine TextR.done (.cons rfl .nil) ?_
    refine Wp.ret ?_
    refine Ret.one rfl (resV_tmp rfl) ?_
    exact ⟨rfl, [], rfl⟩
theorem b_slices_Clone_Side (xs : List TSide) (hl : xs.length ≤ 10000000000) : Nx.Call Try.prog 53 [.c (.slv (xs.map eSide))] [] fun r' H' => r' = .c (.sl 0 1 0 xs.length) ∧ ∃ junk, H' = [.live 1 8 (xs.map eSide)] ++ junk :=
  .cases en53 fun Γ args' hok hc => by
    simp only [concVs] at hc
    obtain ⟨y, ys', h1, h2, h3⟩ := hc
    rcases conc_slv_nil h2 with ⟨h4, h5⟩ | h5
    · have h6 : xs = [] := by simpa using h4
      subst h6
      exact ⟨[.c nilS], bn_slices_Clone_Side, by simp only [concVs]; exact ⟨y, ys', h1, h5, h3⟩⟩
    · exact ⟨[.c (.slq (xs.map eSide))], bq_slices_Clone_Side xs hl, by simp only [concVs]; exact ⟨y, ys', h1, h5, h3⟩⟩
theorem o_slices_Clone_Side (N : Nat) (a0 r : List TSide) (h : slices_Clone_Side N a0 = some r) {H H1 : List Ob} (k : Nat) (hh : H.length = k) (hs : Snoc (.live 1 8 (r.map eSide)) H H1) : Nx.Call Try.prog 53 [.c (.slv (a0.map eSide))] H fun r' H' => r' = .c (.sl k 1 0 r.length) ∧ H' = H1 := by
  have he := app_eq h
  have hl := app_len h
  simp only [List.nil_append] at he
  subst he
  have hc := Call.lift (objs := [.live 1 8 (a0.map eSide)]) (by simp [hfVs, hfV, hfL, hfRows_map h_Side]) rfl (by have := okR_eSide (p := mvL 1) a0; simpa [mvO] using this) (b_slices_Clone_Side a0 (by simpa using hl)) H
  refine Call.mono hc fun r' H' ⟨h1, h2⟩ => ⟨by subst hh; simpa [shV, shL] using h1, ?_⟩
  rw [h2, ← hs.eq]
  simp [shO, fx_eSide]
theorem w_slices_Clone_Side (N : Nat) (a0 r : List TSide) (h : slices_Clone_Side N a0 = some r) : Nx.Call Try.prog 53 [.c (.slv (a0.map eSide))] [] fun r' _ => r' = .c (.slv (r.map eSide)) := by
  have he := app_eq h
  have hl := app_len h
  simp only [List.nil_append] at he
  subst he
  exact Call.frz (b_slices_Clone_Side a0 (by simpa using hl))
theorem c_slices_Clone_Side (N : Nat) (a0 r : List TSide) (h : slices_Clone_Side N a0 = some r) (H : List Ob) : DCall Try.prog 53 [.c (.slv (a0.map eSide))] H (.c (.slv (r.map eSide))) := DCall.lift (by simp [hfVs, hfV, hfL, hfRows_map h_Side]) (by simp [mvV, mvL, hfL, hfRows_map h_Side]) (fun _ => rfl) (w_slices_Clone_Side N a0 r h) H

-- slices.Clone
theorem bn_slices_Clone_int : Nx.Call Try.prog 54 [.c nilS] [] fun r' H' => r' = .c (.sl 0 1 0 0) ∧ ∃ junk, H' = [.live 1 1 []] ++ junk := by
  refine Nx.Call.of_body Try.func54 rfl en54 Try.ntmps54 rfl (fun Γ hok => ?_)
  refine Wp.seq ?_
  refine Wp.text [0] rfl rfl ?_ -- region 0
  refine TextR.assign rfl ?_
  refine TextR.done (.cons rfl .nil) ?_
  refine Wp.seq ?_
  refine Wp.seq ?_
  refine Wp.text [0, 4] rfl rfl ?_ -- region 1
  refine TextR.move rfl ?_
  refine TextR.eqNil us27 rfl rfl ?_
  refine TextR.done (.cons rfl (.cons rfl .nil)) ?_
  refine Wp.cond rfl (fun hc => ?_) (fun hc => ?_)
  · refine Wp.seq ?_
    refine Wp.text [2] rfl rfl ?_ -- region 2
    refine TextR.assign rfl ?_
    refine TextR.done (.cons rfl .nil) ?_
    refine Wp.weak (fun a w hs => nilV_sat (t := 2) 1 1 0 rfl rfl .nil hs) ?_
    refine Wp.ret ?_
    refine Ret.one rfl (resV_tmp rfl) ?_
    exact ⟨rfl, [], rfl⟩
  · cases hc
theorem bq_slices_Clone_int (xs : List Int) (hl : xs.length ≤ 10000000000) : Nx.Call Try.prog 54 [.c (.slq (xs.map eI))] [] fun r' H' => r' = .c (.sl 0 1 0 xs.length) ∧ ∃ junk, H' = [.live 1 1 (xs.map eI)] ++ junk := by
  refine Nx.Call.of_body Try.func54 rfl en54 Try.ntmps54 rfl (fun Γ hok => ?_)
  refine Wp.seq ?_
  refine Wp.text [0] rfl rfl ?_ -- region 0
  refine TextR.assign rfl ?_
  refine TextR.done (.cons rfl .nil) ?_
  refine Wp.seq ?_
  refine Wp.seq ?_
  refine Wp.text [0, 4] rfl rfl ?_ -- region 1
  refine TextR.move rfl ?_
  refine TextR.eqNil us27 rfl rfl ?_
  refine TextR.done (.cons rfl (.cons rfl .nil)) ?_
  refine Wp.cond rfl (fun hc => ?_) (fun hc => ?_)
  · cases hc
  · refine Wp.skip ?_
    refine Wp.seq ?_
    refine Wp.text [2] rfl rfl ?_ -- region 3
    refine TextR.buildSlice 0 se27 rfl rfl rfl .nil ?_
    refine TextR.move rfl ?_
    refine TextR.appendM eI [] xs xs rfl se27 rfl rfl rfl rfl (fun _ => rfl) rfl (by simp; omega) .zero ?_
    refine TextR.assign rfl ?_
    refine TextR.done (.cons rfl .nil) ?_
    refine Wp.ret ?_
    refine Ret.one rfl (resV_tmp rfl) ?_
    exact ⟨rfl, [], rfl⟩
theorem b_slices_Clone_int (xs : List Int) (hl : xs.length ≤ 10000000000) : Nx.Call Try.prog 54 [.c (.slv (xs.map eI))] [] fun r' H' => r' = .c (.sl 0 1 0 xs.length) ∧ ∃ junk, H' = [.live 1 1 (xs.map eI)] ++ junk :=
  .cases en54 fun Γ args' hok hc => by
    simp only [concVs] at hc
    obtain ⟨y, ys', h1, h2, h3⟩ := hc
    rcases conc_slv_nil h2 with ⟨h4, h5⟩ | h5
    · have h6 : xs = [] := by simpa using h4
      subst h6
      exact ⟨[.c nilS], bn_slices_Clone_int, by simp only [concVs]; exact ⟨y, ys', h1, h5, h3⟩⟩
    · exact ⟨[.c (.slq (xs.map eI))], bq_slices_Clone_int xs hl, by simp only [concVs]; exact ⟨y, ys', h1, h5, h3⟩⟩
theorem o_slices_Clone_int (N : Nat) (a0 r : List Int) (h : slices_Clone_int N a0 = some r) {H H1 : List Ob} (k : Nat) (hh : H.length = k) (hs : Snoc (.live 1 1 (r.map eI)) H H1) : Nx.Call Try.prog 54 [.c (.slv (a0.map eI))] H fun r' H' => r' = .c (.sl k 1 0 r.length) ∧ H' = H1 := by
  have he := app_eq h
  have hl := app_len h
  simp only [List.nil_append] at he
  subst he
  have hc := Call.lift (objs := [.live 1 1 (a0.map eI)]) (by simp [hfVs, hfV, hfL, hfRows_map h_I]) rfl (by have := okR_eI (p := mvL 1) a0; simpa [mvO] using this) (b_slices_Clone_int a0 (by simpa using hl)) H
  refine Call.mono hc fun r' H' ⟨h1, h2⟩ => ⟨by subst hh; simpa [shV, shL] using h1, ?_⟩
  rw [h2, ← hs.eq]
  simp [shO, fx_eI]
theorem w_slices_Clone_int (N : Nat) (a0 r : List Int) (h : slices_Clone_int N a0 = some r) : Nx.Call Try.prog 54 [.c (.slv (a0.map eI))] [] fun r' _ => r' = .c (.slv (r.map eI)) := by
  have he := app_eq h
  have hl := app_len h
  simp only [List.nil_append] at he
  subst he
  exact Call.frz (b_slices_Clone_int a0 (by simpa using hl))
theorem c_slices_Clone_int (N : Nat) (a0 r : List Int) (h : slices_Clone_int N a0 = some r) (H : List Ob) : DCall Try.prog 54 [.c (.slv (a0.map eI))] H (.c (.slv (r.map eI))) := DCall.lift (by simp [hfVs, hfV, hfL, hfRows_map h_I]) (by simp [mvV, mvL, hfL, hfRows_map h_I]) (fun _ => rfl) (w_slices_Clone_int N a0 r h) H

-- narthex/drink.own
theorem w_drink_own (N : Nat) (a0 : TDrinker) (r : TDrinker) (h : drink_own N a0 = some r) : Nx.Call Try.prog 29 [.agg (eDrinker a0)] [] fun r' _ => r' = .agg (eDrinker r) := by
  refine Nx.Call.of_body Try.func29 rfl en29 Try.ntmps29 rfl (fun Γ hok => ?_)
  unfold drink_own at h
  refine Wp.seq ?_
  refine Wp.text [1, 2] rfl rfl ?_ -- region 0
  refine TextR.box (cs := [I a0.Diner.ID, I a0.Diner.Phase, .slv (a0.Diner.Sides.map eSide), I a0.Thirst, .slv (a0.Need.map eI)]) 0 rfl rfl rfl rfl .nil ?_
  refine TextR.alloc 1 zc29 rfl rfl (.cons .nil) ?_
  refine TextR.done (.cons rfl (.cons rfl .nil)) ?_
  refine Wp.seq ?_
  obtain ⟨y1, hy1, h⟩ := bind_some h
  obtain ⟨y2, hy2, h⟩ := bind_some h
  refine Wp.go true (some ⟨[0], []⟩) [] [] [1, 2] mixed rfl rfl (by kernel_rfl) ?_ -- region 1
  refine RunR.fieldAddr fo29_0 rfl rfl rfl rfl rfl ?_
  refine RunR.fieldAddr fo25_2 rfl rfl rfl rfl rfl ?_
  refine RunR.load1 tk23 rfl rfl rfl rfl ?_
  refine RunR.call rfl rfl rfl (fun H => c_slices_Clone_Side N a0.Diner.Sides y1 hy1 H) ?_
  refine RunR.fieldAddr fo29_2 rfl rfl rfl rfl rfl ?_
  refine RunR.load1 tk27 rfl rfl rfl rfl ?_
  refine RunR.call rfl rfl rfl (fun H => c_slices_Clone_int N a0.Need y2 hy2 H) ?_
  refine RunR.fieldAddr fo29_0 rfl rfl rfl rfl rfl ?_
  refine RunR.fieldAddr fo25_2 rfl rfl rfl rfl rfl ?_
  refine RunR.storeF (r' := [I a0.Diner.ID, I a0.Diner.Phase, .slv (y1.map eSide), I a0.Thirst, .slv (a0.Need.map eI)]) tk23 rfl rfl rfl rfl rfl rfl rfl rfl rfl .zero ?_
  refine RunR.fieldAddr fo29_2 rfl rfl rfl rfl rfl ?_
  refine RunR.storeF (r' := [I a0.Diner.ID, I a0.Diner.Phase, .slv (y1.map eSide), I a0.Thirst, .slv (y2.map eI)]) tk27 rfl rfl rfl rfl rfl rfl rfl rfl rfl .zero ?_
  refine RunR.doneQ (.cons rfl (.cons rfl .nil)) ?_
  refine Wp.seq ?_
  refine Wp.text [2] rfl rfl ?_ -- region 2
  refine TextR.loadN (cs := [I a0.Diner.ID, I a0.Diner.Phase, .slv (y1.map eSide), I a0.Thirst, .slv (y2.map eI)]) tk29 rfl rfl ?_
  refine TextR.store1 tk29 rfl rfl rfl rfl rfl rfl (.succ .zero) ?_
  refine TextR.done (.cons rfl .nil) ?_
  refine Wp.ret ?_
  obtain rfl := Option.some.inj h
  exact Ret.one rfl (resV_cellN tk29 rfl rfl) rfl
theorem c_drink_own (N : Nat) (a0 : TDrinker) (r : TDrinker) (h : drink_own N a0 = some r) (H : List Ob) : DCall Try.prog 29 [.agg (eDrinker a0)] H (.agg (eDrinker r)) := DCall.lift (by first | rfl | simp [-List.map_set]) (by first | rfl | simp [-List.map_set]) (fun _ => by simp [-List.map_set]) (w_drink_own N a0 r h) H
theorem b_drink_own (N : Nat) (a0 : TDrinker) (r : TDrinker) (h : drink_own N a0 = some r) : Nx.Call Try.prog 29 [.agg (eDrinker a0)] [] fun r' H' => r' = .agg [I r.Diner.ID, I r.Diner.Phase, .sl 0 0 0 r.Diner.Sides.length, I r.Thirst, .slv (r.Need.map eI)] ∧ ∃ junk, H' = [.live 0 8 (r.Diner.Sides.map eSide)] ++ junk := by
  refine Nx.Call.of_body Try.func29 rfl en29 Try.ntmps29 rfl (fun Γ hok => ?_)
  unfold drink_own at h
  refine Wp.seq ?_
  refine Wp.text [1, 2] rfl rfl ?_ -- region 0
  refine TextR.box (cs := [I a0.Diner.ID, I a0.Diner.Phase, .slv (a0.Diner.Sides.map eSide), I a0.Thirst, .slv (a0.Need.map eI)]) 0 rfl rfl rfl rfl .nil ?_
  refine TextR.alloc 1 zc29 rfl rfl (.cons .nil) ?_
  refine TextR.done (.cons rfl (.cons rfl .nil)) ?_
  refine Wp.seq ?_
  obtain ⟨y1, hy1, h⟩ := bind_some h
  obtain ⟨y2, hy2, h⟩ := bind_some h
  refine Wp.go true (some ⟨[2], [53]⟩) [] [false, false, false, false, true, true, false, false, false, true, false, true] [1, 2] mixed rfl rfl (by kernel_rfl) ?_ -- region 1
  refine RunR.fieldAddr fo29_0 rfl rfl rfl rfl rfl ?_
  refine RunR.fieldAddr fo25_2 rfl rfl rfl rfl rfl ?_
  refine RunR.load1 tk23 rfl rfl rfl rfl ?_
  refine RunR.turn rfl rfl rfl rfl (.same (.same (.more rfl .nil))) (by exact o_slices_Clone_Side N a0.Diner.Sides y1 hy1 2 rfl (.cons (.cons .nil))) ?_
  refine RunR.fieldAddr fo29_2 rfl rfl rfl rfl rfl ?_
  refine RunR.load1 tk27 rfl rfl rfl rfl ?_
  refine RunR.call rfl rfl rfl (fun H => c_slices_Clone_int N a0.Need y2 hy2 H) ?_
  refine RunR.fieldAddr fo29_0 rfl rfl rfl rfl rfl ?_
  refine RunR.fieldAddr fo25_2 rfl rfl rfl rfl rfl ?_
  refine RunR.storeF (r' := [I a0.Diner.ID, I a0.Diner.Phase, .sl 2 1 0 y1.length, I a0.Thirst, .slv (a0.Need.map eI)]) tk23 rfl rfl rfl rfl rfl rfl rfl rfl rfl .zero ?_
  refine RunR.fieldAddr fo29_2 rfl rfl rfl rfl rfl ?_
  refine RunR.storeF (r' := [I a0.Diner.ID, I a0.Diner.Phase, .sl 2 1 0 y1.length, I a0.Thirst, .slv (y2.map eI)]) tk27 rfl rfl rfl rfl rfl rfl rfl rfl rfl .zero ?_
  refine RunR.doneQ (.cons rfl (.cons rfl .nil)) ?_
  refine Wp.seq ?_
  refine Wp.text [2] rfl rfl ?_ -- region 2
  refine TextR.loadN (cs := [I a0.Diner.ID, I a0.Diner.Phase, .sl 2 1 0 y1.length, I a0.Thirst, .slv (y2.map eI)]) tk29 rfl rfl ?_
  refine TextR.store1 tk29 rfl rfl rfl rfl rfl rfl (.succ .zero) ?_
  refine TextR.done (.cons rfl .nil) ?_
  refine Wp.weak (keepW (live := [2] ) (.cons rfl .nil)) ?_
  refine Wp.weak (pickT (e' := [(2, .c (.ptr 2 0 0 0))]) (H' := [.live 1 8 (y1.map eSide), .live 0 5 [[I a0.Diner.ID, I a0.Diner.Phase, .sl 0 1 0 y1.length, I a0.Thirst, .slv (y2.map eI)]], .live 0 5 [[I a0.Diner.ID, I a0.Diner.Phase, .sl 0 1 0 y1.length, I a0.Thirst, .slv (y2.map eI)]]]) [2, 0, 1] [1, 2, 0] 0 hok.len.symm rfl rfl (by decide) (by first | rfl | simp [-List.map_set]) (by first | rfl | simp [-List.map_set]) (by first | rfl | simp [-List.map_set]) (by first | rfl | simp [-List.map_set])) ?_
  refine Wp.weak (reverW (h := 0) (ver := 1) (rows := y1.map eSide) (e' := [(2, .c (.ptr 2 0 0 0))]) (H' := [.live 0 8 (y1.map eSide), .live 0 5 [[I a0.Diner.ID, I a0.Diner.Phase, .sl 0 0 0 y1.length, I a0.Thirst, .slv (y2.map eI)]], .live 0 5 [[I a0.Diner.ID, I a0.Diner.Phase, .sl 0 0 0 y1.length, I a0.Thirst, .slv (y2.map eI)]]]) 0 hok.len.symm rfl rfl (rv_self ok_eSide fx_eSide _) (by simp [rvK, allVp, allO, -List.map_set]) (by simp [rvK, allVp, allO, -List.map_set]) (by first | rfl | simp [-List.map_set]) (by first | rfl | simp [-List.map_set])) ?_
  refine Wp.ret ?_
  obtain rfl := Option.some.inj h
  exact Ret.one rfl (resV_cellN tk29 rfl rfl) ⟨rfl, _, rfl⟩
theorem o_drink_own (N : Nat) (a0 : TDrinker) (r : TDrinker) (h : drink_own N a0 = some r) {H H1 : List Ob} (k0 : Nat) (hh0 : H.length = k0) (hs : H ++ [.live 0 8 (r.Diner.Sides.map eSide)] = H1) : Nx.Call Try.prog 29 [.agg (eDrinker a0)] H fun r' H' => r' = .agg [I r.Diner.ID, I r.Diner.Phase, .sl k0 0 0 r.Diner.Sides.length, I r.Thirst, .slv (r.Need.map eI)] ∧ H' = H1 := by
  have hc := Call.lift (objs := [.live 0 8 (r.Diner.Sides.map eSide)]) (by first | rfl | simp [-List.map_set]) (by first | rfl | simp [-List.map_set]) (by have q0 := okR_eSide (p := mvL 1) r.Diner.Sides; simp [mvO, q0]) (b_drink_own N a0 r h) H
  refine Call.mono hc fun r' H' ⟨h1, h2⟩ => ⟨by subst hh0; simpa [shV, shL, -List.map_set] using h1, ?_⟩
  rw [h2, ← hs]
  simp [shO, fx_eSide]
-- narthex/set.Of
theorem w_set_Of (N : Nat) (a0 : List Int) (r : (List Int)) (h : set_Of N a0 = some r) : Nx.Call Try.prog 51 [.c (.slv (a0.map eI))] [] fun r' _ => r' = .c (.slv (r.map eI)) := by
  refine Nx.Call.of_body Try.func51 rfl en51 Try.ntmps51 rfl (fun Γ hok => ?_)
  unfold set_Of at h
  refine Wp.seq ?_
  refine Wp.text [0] rfl rfl ?_ -- region 0
  refine TextR.assign rfl ?_
  refine TextR.done (.cons rfl .nil) ?_
  refine Wp.seq ?_
  obtain ⟨y1, hy1, h⟩ := bind_some h
  refine Wp.text [3] rfl rfl ?_ -- region 1
  refine TextR.move rfl ?_
  refine TextR.call rfl rfl (by exact o_slices_Clone_int N a0 y1 hy1 0 rfl .nil) (fun x H' hk => ?_)
  obtain ⟨rfl, rfl⟩ := hk
  refine TextR.assign rfl ?_
  refine TextR.done (.cons rfl .nil) ?_
  refine Wp.seq ?_
  obtain ⟨x2, hx2, h⟩ := bind_some h
  refine Wp.text [3] rfl rfl ?_ -- region 2
  refine TextR.move rfl ?_
  refine TextR.call rfl rfl (by exact call_sort lays189 rfl en64 hx2 rfl .zero) (fun x H' hk => ?_)
  obtain ⟨rfl, rfl⟩ := hk
  refine TextR.done (.cons rfl .nil) ?_
  refine Wp.weak (eqW (S' := ⟨[(3, .c (.sl 0 1 0 x2.length))], [.live 1 1 (x2.map eI)]⟩) (by have e0 := (length_sort hx2).symm; first | rfl | (simp only [List.length_set]; done) | (simp only [List.length_set]; rfl) | (simp only [List.length_set, e0]; done) | (simp only [List.length_set, e0]; rfl))) ?_
  refine Wp.seq ?_
  obtain ⟨x3, hx3, h⟩ := bind_some h
  refine Wp.text [2] rfl rfl ?_ -- region 3
  refine TextR.move rfl ?_
  refine TextR.call rfl rfl (by exact call_ded lays220 rfl en65 hx3 rfl .zero) (fun x H' hk => ?_)
  obtain ⟨rfl, rfl⟩ := hk
  refine TextR.assign rfl ?_
  refine TextR.done (.cons rfl .nil) ?_
  refine Wp.weak (keepW (live := [2] ) (.cons rfl .nil)) ?_
  refine Wp.weak (freezeW (h := 0) (ver := 2) (rows := x3.map eI) (e' := [(2, .c (.slv (x3.map eI)))]) (H' := [.dead]) rfl (by first | rfl | simp [-List.map_set]) (by first | rfl | simp [-List.map_set])) ?_
  refine Wp.ret ?_
  obtain rfl := Option.some.inj h
  exact Ret.one rfl (resV_tmp rfl) rfl
theorem c_set_Of (N : Nat) (a0 : List Int) (r : (List Int)) (h : set_Of N a0 = some r) (H : List Ob) : DCall Try.prog 51 [.c (.slv (a0.map eI))] H (.c (.slv (r.map eI))) := DCall.lift (by first | rfl | simp [-List.map_set]) (by first | rfl | simp [-List.map_set]) (fun _ => by simp [-List.map_set]) (w_set_Of N a0 r h) H
-- narthex/drink.Open
theorem w_drink_Open (N : Nat) (a0 : TDrinker) (a1 : List Int) (r : TDrinker × Int) (h : drink_Open N a0 a1 = some r) : Nx.Call Try.prog 22 [.agg (eDrinker a0), .c (.slv (a1.map eI))] [] fun r' _ => r' = .tup [.agg (eDrinker r.1), .c (I r.2)] := by
  refine Nx.Call.of_body Try.func22 rfl en22 Try.ntmps22 rfl (fun Γ hok => ?_)
  unfold drink_Open at h
  refine Wp.seq ?_
  refine Wp.text [1, 2, 4] rfl rfl ?_ -- region 0
  refine TextR.box (cs := [I a0.Diner.ID, I a0.Diner.Phase, .slv (a0.Diner.Sides.map eSide), I a0.Thirst, .slv (a0.Need.map eI)]) 0 rfl rfl rfl rfl .nil ?_
  refine TextR.alloc 1 zc29 rfl rfl (.cons .nil) ?_
  refine TextR.assign rfl ?_
  refine TextR.done (.cons rfl (.cons rfl (.cons rfl .nil))) ?_
  refine Wp.seq ?_
  refine Wp.text [1, 2, 4, 6] rfl rfl ?_ -- region 1
  refine TextR.makeFunc rfl ?_
  refine TextR.assign rfl ?_
  refine TextR.done (.cons rfl (.cons rfl (.cons rfl (.cons rfl .nil)))) ?_
  refine Wp.seq ?_
  obtain ⟨y1, hy1, h⟩ := bind_some h
  refine Wp.text [1, 2, 4, 6, 7] rfl rfl ?_ -- region 2
  refine TextR.loadN (cs := [I a0.Diner.ID, I a0.Diner.Phase, .slv (a0.Diner.Sides.map eSide), I a0.Thirst, .slv (a0.Need.map eI)]) tk29 rfl rfl ?_
  refine TextR.dcall rfl rfl (c_drink_Check N a0 y1 hy1 _) ?_
  refine TextR.assign rfl ?_
  refine TextR.done (.cons rfl (.cons rfl (.cons rfl (.cons rfl (.cons rfl .nil))))) ?_
  refine Wp.seq ?_
  obtain ⟨z2, hz2, h⟩ := bind_some h
  refine Wp.fragN (fun S => ∃ S', St.Weak ⟨Try.prog, 33, Γ⟩ S S' ∧ S' = ⟨[(1, .c (.slv (a1.map eI))), (2, .c (.ptr 0 0 0 0)), (4, .c (.ptr 1 0 0 0)), (7, .c (I z2))], [.live 0 5 [[I a0.Diner.ID, I a0.Diner.Phase, .slv (a0.Diner.Sides.map eSide), I a0.Thirst, .slv (a0.Need.map eI)]], .live 0 5 [[I 0, I 0, nilS, I 0, nilS]]]⟩) ?_ ?_
  · replace h := hz2
    refine Wp.block ?_
    refine Wp.seq ?_
    refine Wp.text [1, 2, 4, 6, 7, 11] rfl rfl ?_ -- region 3
    refine TextR.move rfl ?_
    refine TextR.int rfl rfl rfl ?_
    refine TextR.assign rfl ?_
    refine TextR.done (.cons rfl (.cons rfl (.cons rfl (.cons rfl (.cons rfl (.cons rfl .nil)))))) ?_
    refine Wp.condM h rfl (fun hc2 h => ?_) (fun hc2 h => ?_)
    · refine Wp.skip ?_
      obtain rfl := Option.some.inj h
      exact ⟨_, (keepW (live := [1, 2, 4, 7]) (.cons rfl (.cons rfl (.cons rfl (.cons rfl .nil))))), rfl⟩
    · refine Wp.seq ?_
      refine Wp.text [1, 2, 4, 6, 7, 14] rfl rfl ?_ -- region 4
      refine TextR.fieldAddr fo29_1 rfl rfl rfl ?_
      refine TextR.load1 tk26 rfl rfl ?_
      refine TextR.int rfl rfl rfl ?_
      refine TextR.assign rfl ?_
      refine TextR.done (.cons rfl (.cons rfl (.cons rfl (.cons rfl (.cons rfl (.cons rfl .nil)))))) ?_
      refine Wp.condM h rfl (fun hc3 h => ?_) (fun hc3 h => ?_)
      · refine Wp.text [1, 2, 4, 7] rfl rfl ?_ -- region 5
        refine TextR.assign rfl ?_
        refine TextR.done (.cons rfl (.cons rfl (.cons rfl (.cons rfl .nil)))) ?_
        obtain rfl := Option.some.inj h
        exact ⟨_, (keepW (live := [1, 2, 4, 7]) (.cons rfl (.cons rfl (.cons rfl (.cons rfl .nil))))), rfl⟩
      · refine Wp.seq ?_
        obtain ⟨y3, hy3, h⟩ := bind_some h
        refine Wp.text [1, 2, 4, 7, 18] rfl rfl ?_ -- region 6
        refine TextR.move rfl ?_
        refine TextR.move rfl ?_
        refine TextR.dcall rfl rfl (c_slices_ContainsFunc_int_2 N a1 a0.Diner.ID a0.Diner.Phase a0.Diner.Sides a0.Thirst a0.Need 0 0 0 y3 hy3) ?_
        refine TextR.assign rfl ?_
        refine TextR.done (.cons rfl (.cons rfl (.cons rfl (.cons rfl (.cons rfl .nil))))) ?_
        refine Wp.condM h rfl (fun hc4 h => ?_) (fun hc4 h => ?_)
        · refine Wp.text [1, 2, 4, 7] rfl rfl ?_ -- region 7
          refine TextR.assign rfl ?_
          refine TextR.done (.cons rfl (.cons rfl (.cons rfl (.cons rfl .nil)))) ?_
          obtain rfl := Option.some.inj h
          exact ⟨_, (keepW (live := [1, 2, 4, 7]) (.cons rfl (.cons rfl (.cons rfl (.cons rfl .nil))))), rfl⟩
        · refine Wp.skip ?_
          obtain rfl := Option.some.inj h
          exact ⟨_, (keepW (live := [1, 2, 4, 7]) (.cons rfl (.cons rfl (.cons rfl (.cons rfl .nil))))), rfl⟩
  rintro _ ⟨S', hw, rfl⟩
  clear hz2
  refine Wp.weak hw ?_
  refine Wp.seq ?_
  refine Wp.seq ?_
  refine Wp.text [1, 2, 4, 7, 23] rfl rfl ?_ -- region 8
  refine TextR.move rfl ?_
  refine TextR.int rfl rfl rfl ?_
  refine TextR.done (.cons rfl (.cons rfl (.cons rfl (.cons rfl (.cons rfl .nil))))) ?_
  refine Wp.condM h rfl (fun hc1 h => ?_) (fun hc1 h => ?_)
  · refine Wp.seq ?_
    refine Wp.text [4, 5] rfl rfl ?_ -- region 9
    refine TextR.build cm29 rfl ?_
    refine TextR.move rfl ?_
    refine TextR.store1 tk29 rfl rfl rfl rfl rfl rfl (.succ .zero) ?_
    refine TextR.assign rfl ?_
    refine TextR.done (.cons rfl (.cons rfl .nil)) ?_
    refine Wp.weak (keepW (live := [4, 5] ) (.cons rfl (.cons rfl .nil))) ?_
    refine Wp.weak (nzT (e' := [(4, .c (.ptr 1 0 0 0)), (5, .c (I z2))]) (H' := [.live 0 5 [[I a0.Diner.ID, I a0.Diner.Phase, .slv (a0.Diner.Sides.map eSide), I a0.Thirst, .slv (a0.Need.map eI)]], .live 0 5 [[I 0, I 0, .slv ([].map eSide), I 0, .slv ([].map eI)]]]) (by first | rfl | simp [-List.map_set]) (by first | rfl | simp [-List.map_set])) ?_
    refine Wp.ret ?_
    obtain rfl := Option.some.inj h
    exact Ret.two rfl (resV_cellN tk29 rfl rfl) (resV_tmp rfl) rfl
  · refine Wp.skip ?_
    refine Wp.seq ?_
    obtain ⟨y4, hy4, h⟩ := bind_some h
    refine Wp.text [1, 2, 4] rfl rfl ?_ -- region 10
    refine TextR.loadN (cs := [I a0.Diner.ID, I a0.Diner.Phase, .slv (a0.Diner.Sides.map eSide), I a0.Thirst, .slv (a0.Need.map eI)]) tk29 rfl rfl ?_
    refine TextR.dcall rfl rfl (c_drink_own N a0 y4 hy4 _) ?_
    refine TextR.store1 tk29 rfl rfl rfl rfl rfl rfl .zero ?_
    refine TextR.done (.cons rfl (.cons rfl (.cons rfl .nil))) ?_
    refine Wp.seq ?_
    obtain ⟨y5, hy5, h⟩ := bind_some h
    refine Wp.text [2, 4] rfl rfl ?_ -- region 11
    refine TextR.move rfl ?_
    refine TextR.dcall rfl rfl (c_set_Of N a1 y5 hy5 _) ?_
    refine TextR.fieldAddr fo29_1 rfl rfl rfl ?_
    refine TextR.storeF (r' := [I y4.Diner.ID, I y4.Diner.Phase, .slv (y4.Diner.Sides.map eSide), I 1, .slv (y4.Need.map eI)]) tk26 rfl rfl rfl rfl rfl rfl rfl .zero ?_
    refine TextR.fieldAddr fo29_2 rfl rfl rfl ?_
    refine TextR.storeF (r' := [I y4.Diner.ID, I y4.Diner.Phase, .slv (y4.Diner.Sides.map eSide), I 1, .slv (y5.map eI)]) tk27 rfl rfl rfl rfl rfl rfl rfl .zero ?_
    refine TextR.done (.cons rfl (.cons rfl .nil)) ?_
    refine Wp.seq ?_
    refine Wp.text [4, 5] rfl rfl ?_ -- region 12
    refine TextR.loadN (cs := [I y4.Diner.ID, I y4.Diner.Phase, .slv (y4.Diner.Sides.map eSide), I 1, .slv (y5.map eI)]) tk29 rfl rfl ?_
    refine TextR.store1 tk29 rfl rfl rfl rfl rfl rfl (.succ .zero) ?_
    refine TextR.assign rfl ?_
    refine TextR.done (.cons rfl (.cons rfl .nil)) ?_
    refine Wp.ret ?_
    obtain rfl := Option.some.inj h
    exact Ret.two rfl (resV_cellN tk29 rfl rfl) (resV_tmp rfl) rfl
theorem c_drink_Open (N : Nat) (a0 : TDrinker) (a1 : List Int) (r : TDrinker × Int) (h : drink_Open N a0 a1 = some r) (H : List Ob) : DCall Try.prog 22 [.agg (eDrinker a0), .c (.slv (a1.map eI))] H (.tup [.agg (eDrinker r.1), .c (I r.2)]) := DCall.lift (by first | rfl | simp [-List.map_set]) (by first | rfl | simp [-List.map_set]) (fun _ => by simp [-List.map_set]) (w_drink_Open N a0 a1 r h) H
-- (*narthex/drink.drinker).once$1
theorem w_drink_drinker_once_1 (N : Nat) (a0 : TSide) (r : Bool) (h : drink_drinker_once_1 N a0 = some r) : Nx.Call Try.prog 55 [.agg (eSide a0)] [] fun r' _ => r' = .c (B r) := by
  refine Nx.Call.of_body Try.func55 rfl en55 Try.ntmps55 rfl (fun Γ hok => ?_)
  unfold drink_drinker_once_1 at h
  refine Wp.seq ?_
  refine Wp.text [1] rfl rfl ?_ -- region 0
  refine TextR.box (cs := [I a0.Peer, I a0.Epoch, I a0.State, B a0.Fork, B a0.Dirty, B a0.Token, B a0.Bottle, B a0.Ask]) 0 rfl rfl rfl rfl .nil ?_
  refine TextR.assign rfl ?_
  refine TextR.done (.cons rfl .nil) ?_
  refine Wp.seq ?_
  refine Wp.text [2] rfl rfl ?_ -- region 1
  refine TextR.fieldAddr fo53_2 rfl rfl rfl ?_
  refine TextR.load1 tk51 rfl rfl ?_
  refine TextR.int rfl rfl rfl ?_
  refine TextR.assign rfl ?_
  refine TextR.done (.cons rfl .nil) ?_
  refine Wp.ret ?_
  obtain rfl := Option.some.inj h
  exact Ret.one rfl (resV_tmp rfl) rfl
theorem c_drink_drinker_once_1 (N : Nat) (a0 : TSide) (r : Bool) (h : drink_drinker_once_1 N a0 = some r) (H : List Ob) : DCall Try.prog 55 [.agg (eSide a0)] H (.c (B r)) := DCall.lift (by first | rfl | simp [-List.map_set]) (by first | rfl | simp [-List.map_set]) (fun _ => by simp [-List.map_set]) (w_drink_drinker_once_1 N a0 r h) H
-- slices.IndexFunc[[]narthex/api.Side,narthex/api.Side]
theorem w_slices_IndexFunc_Side_4 (N : Nat) (a0 : List TSide) (r : Int) (h : slices_IndexFunc_Side_4 N a0 = some r) : Nx.Call Try.prog 44 [.c (.slv (a0.map eSide)), .c (.clo 55 [])] [] fun r' _ => r' = .c (I r) := by
  refine Nx.Call.of_body Try.func44 rfl en44 Try.ntmps44 rfl (fun Γ hok => ?_)
  unfold slices_IndexFunc_Side_4 at h
  refine Wp.seq ?_
  refine Wp.text [0, 1] rfl rfl ?_ -- region 0
  refine TextR.assign rfl ?_
  refine TextR.done (.cons rfl (.cons rfl .nil)) ?_
  refine Wp.seq ?_
  refine Wp.seq ?_
  refine Wp.text [0, 1, 7, 8] rfl rfl ?_ -- region 1
  refine TextR.move rfl ?_
  refine TextR.lenM us23 rfl rfl ?_
  refine TextR.move rfl ?_
  refine TextR.done (.cons rfl (.cons rfl (.cons rfl (.cons rfl .nil)))) ?_
  obtain ⟨z1, hz1, h⟩ := bind_some h
  refine Wp.fragR (fun S => ∃ z3, z1 = .inr z3 ∧ ∃ S', St.Weak ⟨Try.prog, 19, Γ⟩ S S' ∧ S' = ⟨[], []⟩) (fun S => ∃ v, z1 = .inl v ∧ Ret Try.prog Try.f44 (fun r' _ => r' = .c (I v)) .ret S) ?_ ?_ ?_
  · replace h := hz1
    refine Wp.block ?_
    refine Wp.weak (keepW (live := [0, 1, 7, 8]) (.cons rfl (.cons rfl (.cons rfl (.cons rfl .nil))))) ?_
    refine Wp.loop (fun m S => ∃ s8_1, slices_IndexFunc_Side_4_L1 N a0 m s8_1 = some z1 ∧ S = ⟨[(0, .c (.slv (a0.map eSide))), (1, .c (.clo 55 [])), (7, .c (I (a0.length : Int))), (8, .c (I s8_1))], []⟩) N ⟨_, h, rfl⟩ ?_
    rintro m1 _ ⟨s8_1, h, rfl⟩
    cases m1 with
    | zero => rw [slices_IndexFunc_Side_4_L1.eq_1] at h; cases h
    | succ m1 =>
    rw [slices_IndexFunc_Side_4_L1.eq_2] at h
    refine Wp.seq ?_
    refine Wp.text [0, 1, 7, 8, 9] rfl rfl ?_ -- region 2
    refine TextR.int rfl rfl rfl ?_
    refine TextR.done (.cons rfl (.cons rfl (.cons rfl (.cons rfl (.cons rfl .nil))))) ?_
    refine Wp.seq ?_
    refine Wp.condM h rfl (fun hc2 h => ?_) (fun hc2 h => ?_)
    · refine Wp.skip ?_
      refine Wp.seq ?_
      refine Wp.block ?_
      refine Wp.seq ?_
      refine Wp.text [0, 1, 5, 7, 8] rfl rfl ?_ -- region 3
      refine TextR.move rfl ?_
      refine TextR.assign rfl ?_
      refine TextR.done (.cons rfl (.cons rfl (.cons rfl (.cons rfl (.cons rfl .nil))))) ?_
      refine Wp.seq ?_
      obtain ⟨x4, hx4, h⟩ := bind_some h
      obtain ⟨y5, hy5, h⟩ := bind_some h
      refine Wp.text [0, 1, 5, 7, 8, 16] rfl rfl ?_ -- region 4
      refine TextR.move rfl ?_
      refine TextR.move rfl ?_
      refine TextR.move rfl ?_
      refine TextR.indexA se23 rfl rfl rfl hx4 rfl ?_
      refine TextR.loadNM tk53 rfl (at_get hx4) rfl ?_
      refine TextR.dcall rfl rfl (c_drink_drinker_once_1 N x4 y5 hy5 _) ?_
      refine TextR.done (.cons rfl (.cons rfl (.cons rfl (.cons rfl (.cons rfl (.cons rfl .nil)))))) ?_
      refine Wp.condM h rfl (fun hc3 h => ?_) (fun hc3 h => ?_)
      · refine Wp.seq ?_
        refine Wp.text [4] rfl rfl ?_ -- region 5
        refine TextR.move rfl ?_
        refine TextR.assign rfl ?_
        refine TextR.done (.cons rfl .nil) ?_
        refine Wp.ret ?_
        exact ⟨_, (Option.some.inj h).symm, Ret.one rfl (resV_tmp rfl) rfl⟩
      · refine Wp.skip ?_
        refine Wp.text [0, 1, 7, 8] rfl rfl ?_ -- region 6
        refine TextR.int rfl rfl rfl ?_
        refine TextR.move rfl ?_
        refine TextR.done (.cons rfl (.cons rfl (.cons rfl (.cons rfl .nil)))) ?_
        exact ⟨m1, Nat.lt_succ_self _, _, (keepW (live := [0, 1, 7, 8]) (.cons rfl (.cons rfl (.cons rfl (.cons rfl .nil))))), _, h, rfl⟩
    · refine Wp.exit ?_
      exact ⟨_, (Option.some.inj h).symm, _, (keepW (live := []) .nil), rfl⟩
  · rintro _ ⟨z3, rfl, _, hw, rfl⟩
    dsimp only at h
    clear hz1
    refine Wp.weak hw ?_
    refine Wp.seq ?_
    refine Wp.text [4] rfl rfl ?_ -- region 7
    refine TextR.assign rfl ?_
    refine TextR.done (.cons rfl .nil) ?_
    refine Wp.ret ?_
    obtain rfl := Option.some.inj h
    exact Ret.one rfl (resV_tmp rfl) rfl
  · rintro S' ⟨r2, rfl, hR⟩
    dsimp only at h
    obtain rfl := Option.some.inj h
    exact hR
theorem c_slices_IndexFunc_Side_4 (N : Nat) (a0 : List TSide) (r : Int) (h : slices_IndexFunc_Side_4 N a0 = some r) (H : List Ob) : DCall Try.prog 44 [.c (.slv (a0.map eSide)), .c (.clo 55 [])] H (.c (I r)) := DCall.lift (by first | rfl | simp [-List.map_set]) (by first | rfl | simp [-List.map_set]) (fun _ => by simp [-List.map_set]) (w_slices_IndexFunc_Side_4 N a0 r h) H
-- slices.ContainsFunc[[]narthex/api.Side,narthex/api.Side]
theorem w_slices_ContainsFunc_Side_4 (N : Nat) (a0 : List TSide) (r : Bool) (h : slices_ContainsFunc_Side_4 N a0 = some r) : Nx.Call Try.prog 38 [.c (.slv (a0.map eSide)), .c (.clo 55 [])] [] fun r' _ => r' = .c (B r) := by
  refine Nx.Call.of_body Try.func38 rfl en38 Try.ntmps38 rfl (fun Γ hok => ?_)
  unfold slices_ContainsFunc_Side_4 at h
  refine Wp.seq ?_
  refine Wp.text [0, 1] rfl rfl ?_ -- region 0
  refine TextR.assign rfl ?_
  refine TextR.done (.cons rfl (.cons rfl .nil)) ?_
  refine Wp.seq ?_
  obtain ⟨y1, hy1, h⟩ := bind_some h
  refine Wp.text [4] rfl rfl ?_ -- region 1
  refine TextR.move rfl ?_
  refine TextR.move rfl ?_
  refine TextR.dcall rfl rfl (c_slices_IndexFunc_Side_4 N a0 y1 hy1 _) ?_
  refine TextR.int rfl rfl rfl ?_
  refine TextR.assign rfl ?_
  refine TextR.done (.cons rfl .nil) ?_
  refine Wp.ret ?_
  obtain rfl := Option.some.inj h
  exact Ret.one rfl (resV_tmp rfl) rfl
theorem c_slices_ContainsFunc_Side_4 (N : Nat) (a0 : List TSide) (r : Bool) (h : slices_ContainsFunc_Side_4 N a0 = some r) (H : List Ob) : DCall Try.prog 38 [.c (.slv (a0.map eSide)), .c (.clo 55 [])] H (.c (B r)) := DCall.lift (by first | rfl | simp [-List.map_set]) (by first | rfl | simp [-List.map_set]) (fun _ => by simp [-List.map_set]) (w_slices_ContainsFunc_Side_4 N a0 r h) H
-- narthex/dine.Fire$1
theorem w_dine_Fire_1_2 (N : Nat) (a0 : Int) (c0_0 : Int) (c0_1 : Int) (l1 : List TSide) (c2_0 : Int) (c2_1 : Int) (l4 : List TMail) (c5_0 : Nat) {w1 : Nat} {w4 : Nat} (r : (List TMail)) (h : dine_Fire_1_2 N a0 c0_0 c0_1 l1 c2_0 c2_1 l4 c5_0 = some r) : Nx.Call Try.prog 67 [.c (I a0), .c (.ptr 3 0 0 0), .c (.ptr 0 0 0 0), .c (.ptr 5 0 0 0)] [.live 0 3 [[I c0_0, I c0_1, .sl 1 w1 0 l1.length]], .live w1 8 (l1.map eSide), .live 0 3 [[I c2_0, I c2_1, nilS]], .live 0 1 [[.sl 4 w4 0 l4.length]], .live w4 5 (l4.map eMail), .live 0 1 [[.ptr 1 w1 c5_0 0]]] fun r' H' => r' = .tup [] ∧ ∃ junk, H' = [.live 0 3 [[I c0_0, I c0_1, .sl 1 w1 0 l1.length]], .live w1 8 (l1.map eSide), .live 0 3 [[I c2_0, I c2_1, nilS]], .live 0 1 [[.sl 4 (w4 + 1) 0 r.length]], .live (w4 + 1) 5 (r.map eMail), .live 0 1 [[.ptr 1 w1 c5_0 0]]] ++ junk := by
  refine Nx.Call.of_body Try.func67 rfl en67 Try.ntmps67 rfl (fun Γ hok => ?_)
  unfold dine_Fire_1_2 at h
  obtain ⟨x1, hx1, h⟩ := bind_some h
  obtain ⟨x2, hx2, h⟩ := bind_some h
  refine Wp.go true (some ⟨[6], []⟩) [] [true, false, false, false, false, false, false, false, false, false, false, false, false, false, false, true, true] [] mixed rfl rfl (by kernel_rfl) ?_ -- region 0
  refine RunR.load1 tk32 rfl rfl rfl rfl ?_
  refine RunR.fieldAddr fo25_0 rfl rfl rfl rfl rfl ?_
  refine RunR.load1 tk3 rfl rfl rfl rfl ?_
  refine RunR.load1 tk91 rfl rfl rfl rfl ?_
  refine RunR.nilCheck rfl rfl rfl (by simp [alive, obj]) ?_
  refine RunR.fieldAddr (l := .ptr 1 w1 c5_0 0) fo53_0 rfl rfl rfl rfl (by simp [fieldL, obj]) ?_
  refine RunR.load1O tk3 rfl rfl rfl (obj_of rfl) hx1 rfl ?_
  refine RunR.move rfl rfl rfl ?_
  refine RunR.load1 tk91 rfl rfl rfl rfl ?_
  refine RunR.nilCheck rfl rfl rfl (by simp [alive, obj]) ?_
  refine RunR.fieldAddr (l := .ptr 1 w1 c5_0 1) fo53_1 rfl rfl rfl rfl (by simp [fieldL, obj]) ?_
  refine RunR.load1O tk3 rfl rfl rfl (obj_of rfl) hx1 rfl ?_
  refine RunR.build cm44 rfl rfl rfl ?_
  refine RunR.build cm61 rfl rfl rfl ?_
  refine RunR.buildSlice (rows := [(⟨c0_0, x1.Peer, (⟨a0, x1.Epoch, 0⟩ : TMsg)⟩ : TMail)].map eMail) 6 se32 rfl rfl rfl rfl rfl (.cons (.cons (.cons (.cons (.cons (.cons .nil)))))) ?_
  refine RunR.appendM eMail l4 [(⟨c0_0, x1.Peer, (⟨a0, x1.Epoch, 0⟩ : TMsg)⟩ : TMail)] x2 (app_eq hx2) se32 rfl rfl rfl (obj_of rfl) rfl (view_whole (f := eMail) (xs := [(⟨c0_0, x1.Peer, (⟨a0, x1.Epoch, 0⟩ : TMsg)⟩ : TMail)]) rfl) (fun _ => rfl) rfl (app_len hx2) (.succ (.succ (.succ (.succ .zero)))) ?_
  refine RunR.store1 tk32 rfl rfl rfl rfl rfl rfl rfl rfl (.succ (.succ (.succ .zero))) ?_
  refine RunR.doneQ .nil ?_
  obtain rfl := Option.some.inj h
  exact Ret.zeroN rfl  ⟨rfl, _, rfl⟩
theorem c_dine_Fire_1_2 (N : Nat) (a0 : Int) (c0_0 : Int) (c0_1 : Int) (l1 : List TSide) (c2_0 : Int) (c2_1 : Int) (l4 : List TMail) (c5_0 : Nat) {w1 : Nat} {w4 : Nat} (r : (List TMail)) (h : dine_Fire_1_2 N a0 c0_0 c0_1 l1 c2_0 c2_1 l4 c5_0 = some r) : Nx.Call Try.prog 67 [.c (I a0), .c (.ptr 3 0 0 0), .c (.ptr 0 0 0 0), .c (.ptr 5 0 0 0)] [.live 0 3 [[I c0_0, I c0_1, .sl 1 w1 0 l1.length]], .live w1 8 (l1.map eSide), .live 0 3 [[I c2_0, I c2_1, nilS]], .live 0 1 [[.sl 4 w4 0 l4.length]], .live w4 5 (l4.map eMail), .live 0 1 [[.ptr 1 w1 c5_0 0]]] fun r' H' => r' = .tup [] ∧ H' = [.live 0 3 [[I c0_0, I c0_1, .sl 1 w1 0 l1.length]], .live w1 8 (l1.map eSide), .live 0 3 [[I c2_0, I c2_1, nilS]], .live 0 1 [[.sl 4 (w4 + 1) 0 r.length]], .live (w4 + 1) 5 (r.map eMail), .live 0 1 [[.ptr 1 w1 c5_0 0]]] := Call.trim (by simp) (by first | rfl | simp [-List.map_set]) (by first | rfl | simp [-List.map_set]) (w_dine_Fire_1_2 N a0 c0_0 c0_1 l1 c2_0 c2_1 l4 c5_0 r h)
-- narthex/dine.Fire
theorem b_dine_Fire (N : Nat) (a0 : TDiner) (r : TDiner × (List TMail) × Int) (h : dine_Fire_o N a0 = some r) : Nx.Call Try.prog 56 [.agg (eDiner a0)] [] fun r' H' => r' = .tup [.agg [I r.1.ID, I r.1.Phase, .sl 0 0 0 r.1.Sides.length], .c (.slv (r.2.1.map eMail)), .c (I r.2.2)] ∧ ∃ junk, H' = [.live 0 8 (r.1.Sides.map eSide)] ++ junk := by
  refine Nx.Call.of_body Try.func56 rfl en56 Try.ntmps56 rfl (fun Γ hok => ?_)
  unfold dine_Fire_o at h
  refine Wp.seq ?_
  refine Wp.text [1, 2] rfl rfl ?_ -- region 0
  refine TextR.box (cs := [I a0.ID, I a0.Phase, .slv (a0.Sides.map eSide)]) 0 rfl rfl rfl rfl .nil ?_
  refine TextR.alloc 1 zc25 rfl rfl (.cons .nil) ?_
  refine TextR.assign rfl ?_
  refine TextR.assign rfl ?_
  refine TextR.done (.cons rfl (.cons rfl .nil)) ?_
  refine Wp.seq ?_
  refine Wp.seq ?_
  obtain ⟨y1, hy1, h⟩ := bind_some h
  refine Wp.text [1, 2, 5] rfl rfl ?_ -- region 1
  refine TextR.loadN (cs := [I a0.ID, I a0.Phase, .slv (a0.Sides.map eSide)]) tk25 rfl rfl ?_
  refine TextR.dcall rfl rfl (c_dine_Check N a0 y1 hy1 _) ?_
  refine TextR.assign rfl ?_
  refine TextR.done (.cons rfl (.cons rfl (.cons rfl .nil))) ?_
  refine Wp.seq ?_
  refine Wp.text [1, 2, 5, 15] rfl rfl ?_ -- region 2
  refine TextR.move rfl ?_
  refine TextR.int rfl rfl rfl ?_
  refine TextR.done (.cons rfl (.cons rfl (.cons rfl (.cons rfl .nil)))) ?_
  refine Wp.condM h rfl (fun hc1 h => ?_) (fun hc1 h => ?_)
  · refine Wp.seq ?_
    refine Wp.text [2, 3, 4] rfl rfl ?_ -- region 3
    refine TextR.build cm25 rfl ?_
    refine TextR.move rfl ?_
    refine TextR.store1 tk25 rfl rfl rfl rfl rfl rfl (.succ .zero) ?_
    refine TextR.assign rfl ?_
    refine TextR.assign rfl ?_
    refine TextR.done (.cons rfl (.cons rfl (.cons rfl .nil))) ?_
    refine Wp.weak (keepW (live := [2, 3, 4] ) (.cons rfl (.cons rfl (.cons rfl .nil)))) ?_
    refine Wp.weak (nilCellW (H := [.live 0 3 [[I a0.ID, I a0.Phase, .slv (a0.Sides.map eSide)]], .live 0 3 [[I 0, I 0, nilS]]]) (ver := 0) (g := 1) (i := 0) (k := 2) 8 2 rfl rfl rfl rfl rfl (.cons (.cons .nil)) (.succ .zero)) ?_
    refine Wp.weak (pickT (e' := [(2, .c (.ptr 2 0 0 0)), (3, .c (nilS)), (4, .c (I y1))]) (H' := [.live 0 8 (([] : List TSide).map eSide), .live 0 3 [[I a0.ID, I a0.Phase, .slv (a0.Sides.map eSide)]], .live 0 3 [[I 0, I 0, .sl 0 0 0 ([] : List TSide).length]]]) [2, 0, 1] [1, 2, 0] 0 hok.len.symm rfl rfl (by decide) (by first | rfl | simp [-List.map_set]) (by first | rfl | simp [-List.map_set]) (by first | rfl | simp [-List.map_set]) (by first | rfl | simp [-List.map_set])) ?_
    refine Wp.weak (nzT (e' := [(2, .c (.ptr 2 0 0 0)), (3, .c (.slv ([].map eMail))), (4, .c (I y1))]) (H' := [.live 0 8 (([] : List TSide).map eSide), .live 0 3 [[I a0.ID, I a0.Phase, .slv (a0.Sides.map eSide)]], .live 0 3 [[I 0, I 0, .sl 0 0 0 ([] : List TSide).length]]]) (by first | rfl | simp [-List.map_set]) (by first | rfl | simp [-List.map_set])) ?_
    refine Wp.ret ?_
    obtain rfl := Option.some.inj h
    exact Ret.three rfl (resV_cellN tk25 rfl rfl) (resV_tmp rfl) (resV_tmp rfl) ⟨rfl, _, rfl⟩
  · refine Wp.skip ?_
    refine Wp.seq ?_
    obtain ⟨y2, hy2, h⟩ := bind_some h
    refine Wp.text [1, 2] rfl rfl ?_ -- region 4
    refine TextR.fieldAddr fo25_2 rfl rfl rfl ?_
    refine TextR.load1 tk23 rfl rfl ?_
    refine TextR.call rfl rfl (by exact o_slices_Clone_Side N a0.Sides y2 hy2 2 rfl (.cons (.cons .nil))) (fun x H' hk => ?_)
    obtain ⟨rfl, rfl⟩ := hk
    refine TextR.fieldAddr fo25_2 rfl rfl rfl ?_
    refine TextR.storeF (r' := [I a0.ID, I a0.Phase, .sl 2 1 0 y2.length]) tk23 rfl rfl rfl rfl rfl rfl rfl .zero ?_
    refine TextR.done (.cons rfl (.cons rfl .nil)) ?_
    refine Wp.seq ?_
    refine Wp.text [1, 2, 6] rfl rfl ?_ -- region 5
    refine TextR.alloc 3 zc32 rfl rfl (.cons (.cons (.cons .nil))) ?_
    refine TextR.done (.cons rfl (.cons rfl (.cons rfl .nil))) ?_
    refine Wp.seq ?_
    refine Wp.text [1, 2, 6, 7] rfl rfl ?_ -- region 6
    refine TextR.assign rfl ?_
    refine TextR.done (.cons rfl (.cons rfl (.cons rfl (.cons rfl .nil)))) ?_
    refine Wp.seq ?_
    refine Wp.seq ?_
    refine Wp.text [1, 2, 6, 7, 24, 25] rfl rfl ?_ -- region 7
    refine TextR.fieldAddr fo25_2 rfl rfl rfl ?_
    refine TextR.load1 tk23 rfl rfl ?_
    refine TextR.len us23 rfl rfl ?_
    refine TextR.move rfl ?_
    refine TextR.done (.cons rfl (.cons rfl (.cons rfl (.cons rfl (.cons rfl (.cons rfl .nil)))))) ?_
    obtain ⟨z3, hz3, h⟩ := bind_some h
    refine Wp.fragN (fun S => ∃ wz3_4, ∃ S', St.Weak ⟨Try.prog, 112, Γ⟩ S S' ∧ S' = ⟨[(1, .c (.ptr 0 0 0 0)), (2, .c (.ptr 2 0 0 0)), (6, .c (.ptr 3 0 0 0)), (7, .c (B z3.2.2))], [.live 0 3 [[I a0.ID, I a0.Phase, .sl 1 1 0 z3.1.length]], .live 1 8 (z3.1.map eSide), .live 0 3 [[I 0, I 0, nilS]], .live 0 1 [[.sl 4 wz3_4 0 z3.2.1.length]], .live wz3_4 5 (z3.2.1.map eMail)]⟩) ?_ ?_
    · replace h := hz3
      refine Wp.block ?_
      refine Wp.weak (St.Weak.trans (keepW (live := [1, 2, 6, 7, 24, 25]) (.cons rfl (.cons rfl (.cons rfl (.cons rfl (.cons rfl (.cons rfl .nil))))))) (St.Weak.trans (pickT (e' := [(1, .c (.ptr 0 0 0 0)), (2, .c (.ptr 2 0 0 0)), (6, .c (.ptr 3 0 0 0)), (7, .c (B true)), (24, .c (I (y2.length : Int))), (25, .c (I 0))]) (H' := [.live 0 3 [[I a0.ID, I a0.Phase, .sl 1 1 0 y2.length]], .live 1 8 (y2.map eSide), .live 0 3 [[I 0, I 0, nilS]], .live 0 1 [[nilS]]]) [0, 2, 1, 3] [0, 2, 1, 3] 0 hok.len.symm rfl rfl (by decide) (by first | rfl | simp [-List.map_set]) (by first | rfl | simp [-List.map_set]) (by first | rfl | simp [-List.map_set]) (by first | rfl | simp [-List.map_set])) (St.Weak.trans (nilCellW (H := [.live 0 3 [[I a0.ID, I a0.Phase, .sl 1 1 0 y2.length]], .live 1 8 (y2.map eSide), .live 0 3 [[I 0, I 0, nilS]], .live 0 1 [[nilS]]]) (ver := 0) (g := 3) (i := 0) (k := 0) 5 4 rfl rfl rfl rfl rfl (.cons (.cons (.cons (.cons .nil)))) (.succ (.succ (.succ .zero)))) (keepW (live := [1, 2, 6, 7, 24, 25]) (.cons rfl (.cons rfl (.cons rfl (.cons rfl (.cons rfl (.cons rfl .nil)))))))))) ?_
      refine Wp.loop (fun m S => ∃ l1_1, ∃ l4_1, ∃ s7_1, ∃ s25_1, ∃ wh4_1, dine_Fire_o_L1 N a0 y2 m l1_1 l4_1 s7_1 s25_1 = some z3 ∧ S = ⟨[(1, .c (.ptr 0 0 0 0)), (2, .c (.ptr 2 0 0 0)), (6, .c (.ptr 3 0 0 0)), (7, .c (B s7_1)), (24, .c (I (y2.length : Int))), (25, .c (I s25_1))], [.live 0 3 [[I a0.ID, I a0.Phase, .sl 1 1 0 l1_1.length]], .live 1 8 (l1_1.map eSide), .live 0 3 [[I 0, I 0, nilS]], .live 0 1 [[.sl 4 wh4_1 0 l4_1.length]], .live wh4_1 5 (l4_1.map eMail)]⟩) N ⟨_, _, _, _, _, h, rfl⟩ ?_
      rintro m1 _ ⟨l1_1, l4_1, s7_1, s25_1, wh4_1, h, rfl⟩
      cases m1 with
      | zero => rw [dine_Fire_o_L1.eq_1] at h; cases h
      | succ m1 =>
      rw [dine_Fire_o_L1.eq_2] at h
      refine Wp.seq ?_
      refine Wp.text [1, 2, 6, 7, 24, 25, 26] rfl rfl ?_ -- region 8
      refine TextR.int rfl rfl rfl ?_
      refine TextR.done (.cons rfl (.cons rfl (.cons rfl (.cons rfl (.cons rfl (.cons rfl (.cons rfl .nil))))))) ?_
      refine Wp.seq ?_
      refine Wp.condM h rfl (fun hc3 h => ?_) (fun hc3 h => ?_)
      · refine Wp.skip ?_
        refine Wp.seq ?_
        refine Wp.block ?_
        refine Wp.seq ?_
        refine Wp.text [1, 2, 6, 7, 8, 24, 25] rfl rfl ?_ -- region 9
        refine TextR.move rfl ?_
        refine TextR.assign rfl ?_
        refine TextR.done (.cons rfl (.cons rfl (.cons rfl (.cons rfl (.cons rfl (.cons rfl (.cons rfl .nil))))))) ?_
        refine Wp.seq ?_
        obtain ⟨x4, hx4, h⟩ := bind_some h
        refine Wp.text [1, 2, 6, 7, 9, 24, 25] rfl rfl ?_ -- region 10
        refine TextR.fieldAddr fo25_2 rfl rfl rfl ?_
        refine TextR.load1 tk23 rfl rfl ?_
        refine TextR.move rfl ?_
        refine TextR.indexOA se23 rfl rfl rfl hx4 ?_
        refine TextR.alloc 5 zc91 rfl rfl (.cons (.cons (.cons (.cons (.cons .nil))))) ?_
        refine TextR.store1 tk91 rfl rfl rfl rfl rfl rfl (.succ (.succ (.succ (.succ (.succ .zero))))) ?_
        refine TextR.done (.cons rfl (.cons rfl (.cons rfl (.cons rfl (.cons rfl (.cons rfl (.cons rfl .nil))))))) ?_
        refine Wp.seq ?_
        refine Wp.text [1, 2, 6, 7, 9, 10, 24, 25] rfl rfl ?_ -- region 11
        refine TextR.makeFunc rfl ?_
        refine TextR.assign rfl ?_
        refine TextR.done (.cons rfl (.cons rfl (.cons rfl (.cons rfl (.cons rfl (.cons rfl (.cons rfl (.cons rfl .nil)))))))) ?_
        refine Wp.seq ?_
        refine Wp.seq ?_
        refine Wp.go false none [[], [], [], [], [], [(37, true)], [(37, true)], [(37, true)], [(37, true)], [], [], [(43, true)], [(43, true)], [(43, true)], [(43, true)], [], [], [(49, true)], [(49, true)], [(49, true)], []] [] [1, 2, 6, 7, 9, 10, 24, 25, 53] mixed rfl rfl (by kernel_rfl) ?_ -- region 12
        refine RunR.load1 tk91 rfl rfl rfl rfl ?_
        refine RunR.nilCheck rfl rfl rfl rfl ?_
        refine RunR.fieldAddr fo53_3 rfl rfl rfl rfl rfl ?_
        refine RunR.load1O tk4 rfl rfl rfl rfl (at_get hx4) rfl ?_
        refine RunR.move rfl rfl rfl ?_
        refine RunR.load1 tk91 rfl rfl rfl rfl ?_
        refine RunR.nilCheck rfl rfl rfl rfl ?_
        refine RunR.fieldAddr fo53_4 rfl rfl rfl rfl rfl ?_
        refine RunR.load1O tk4 rfl rfl rfl rfl (at_get hx4) rfl ?_
        refine RunR.pickAnd rfl rfl rfl rfl ?_
        refine RunR.move rfl rfl rfl ?_
        refine RunR.load1 tk91 rfl rfl rfl rfl ?_
        refine RunR.nilCheck rfl rfl rfl rfl ?_
        refine RunR.fieldAddr fo53_5 rfl rfl rfl rfl rfl ?_
        refine RunR.load1O tk4 rfl rfl rfl rfl (at_get hx4) rfl ?_
        refine RunR.pickAnd rfl rfl rfl rfl ?_
        refine RunR.move rfl rfl rfl ?_
        refine RunR.fieldAddr fo25_1 rfl rfl rfl rfl rfl ?_
        refine RunR.load1 tk22 rfl rfl rfl rfl ?_
        refine RunR.int rfl rfl rfl rfl rfl ?_
        refine RunR.pickAnd rfl rfl rfl rfl ?_
        refine RunR.doneQ (.cons rfl (.cons rfl (.cons rfl (.cons rfl (.cons rfl (.cons rfl (.cons rfl (.cons rfl (.cons rfl .nil))))))))) ?_
        obtain ⟨z5, hz5, h⟩ := bind_some h
        refine Wp.fragN (fun S => ∃ wz5_4, ∃ S', St.Weak ⟨Try.prog, 112, Γ⟩ S S' ∧ S' = ⟨[(1, .c (.ptr 0 0 0 0)), (2, .c (.ptr 2 0 0 0)), (6, .c (.ptr 3 0 0 0)), (7, .c (B s7_1)), (9, .c (.ptr 5 0 0 0)), (10, .c (.clo 67 [.ptr 3 0 0 0, .ptr 0 0 0 0, .ptr 5 0 0 0])), (24, .c (I (y2.length : Int))), (25, .c (I s25_1))], [.live 0 3 [[I a0.ID, I a0.Phase, .sl 1 1 0 z5.1.length]], .live 1 8 (z5.1.map eSide), .live 0 3 [[I 0, I 0, nilS]], .live 0 1 [[.sl 4 wz5_4 0 z5.2.length]], .live wz5_4 5 (z5.2.map eMail), .live 0 1 [[.ptr 1 1 s25_1.toNat 0]]]⟩) ?_ ?_
        · replace h := hz5
          refine Wp.condM h rfl (fun hc5 h => ?_) (fun hc5 h => ?_)
          · refine Wp.seq ?_
            refine Wp.go true (some ⟨[1], []⟩) [] [false, true, false, false, false, false, false, true] [1, 2, 6, 7, 9, 10, 24, 25] mixed rfl rfl (by kernel_rfl) ?_ -- region 13
            refine RunR.load1 tk91 rfl rfl rfl rfl ?_
            refine RunR.load1 tk91 rfl rfl rfl rfl ?_
            refine RunR.nilCheck rfl rfl rfl rfl ?_
            refine RunR.fieldAddr fo53_3 rfl rfl rfl rfl rfl ?_
            refine RunR.storeO { x4 with Fork := false } tk4 rfl rfl rfl rfl rfl rfl rfl (at_get hx4) rfl rfl (.succ .zero) ?_
            refine RunR.nilCheck rfl rfl rfl rfl ?_
            refine RunR.fieldAddr fo53_4 rfl rfl rfl rfl rfl ?_
            refine RunR.storeO { x4 with Fork := false, Dirty := false } tk4 rfl rfl rfl rfl rfl rfl rfl (at_set (at_get hx4)) rfl rfl (.succ .zero) ?_
            refine RunR.doneQ (.cons rfl (.cons rfl (.cons rfl (.cons rfl (.cons rfl (.cons rfl (.cons rfl (.cons rfl .nil)))))))) ?_
            refine Wp.weak (eqW (S' := ⟨[(1, .c (.ptr 0 0 0 0)), (2, .c (.ptr 2 0 0 0)), (6, .c (.ptr 3 0 0 0)), (7, .c (B s7_1)), (9, .c (.ptr 5 0 0 0)), (10, .c (.clo 67 [.ptr 3 0 0 0, .ptr 0 0 0 0, .ptr 5 0 0 0])), (24, .c (I (y2.length : Int))), (25, .c (I s25_1))], [.live 0 3 [[I a0.ID, I a0.Phase, .sl 1 1 0 ((l1_1.set s25_1.toNat { x4 with Fork := false }).set s25_1.toNat { x4 with Fork := false, Dirty := false }).length]], .live 1 8 (((l1_1.set s25_1.toNat { x4 with Fork := false }).set s25_1.toNat { x4 with Fork := false, Dirty := false }).map eSide), .live 0 3 [[I 0, I 0, nilS]], .live 0 1 [[.sl 4 wh4_1 0 l4_1.length]], .live wh4_1 5 (l4_1.map eMail), .live 0 1 [[.ptr 1 1 s25_1.toNat 0]]]⟩) (by first | rfl | (simp only [List.length_set]; done) | (simp only [List.length_set]; rfl))) ?_
            obtain ⟨y6, hy6, h⟩ := bind_some h
            refine Wp.text [1, 2, 6, 7, 9, 10, 24, 25] rfl rfl ?_ -- region 14
            refine TextR.move rfl ?_
            refine TextR.call rfl rfl (by exact c_dine_Fire_1_2 N 1 a0.ID a0.Phase ((l1_1.set s25_1.toNat { x4 with Fork := false }).set s25_1.toNat { x4 with Fork := false, Dirty := false }) 0 0 l4_1 s25_1.toNat y6 hy6) (fun x H' hk => ?_)
            obtain ⟨rfl, rfl⟩ := hk
            refine TextR.done (.cons rfl (.cons rfl (.cons rfl (.cons rfl (.cons rfl (.cons rfl (.cons rfl (.cons rfl .nil)))))))) ?_
            obtain rfl := Option.some.inj h
            exact ⟨_, _, (keepW (live := [1, 2, 6, 7, 9, 10, 24, 25]) (.cons rfl (.cons rfl (.cons rfl (.cons rfl (.cons rfl (.cons rfl (.cons rfl (.cons rfl .nil))))))))), rfl⟩
          · refine Wp.skip ?_
            obtain rfl := Option.some.inj h
            exact ⟨_, _, (keepW (live := [1, 2, 6, 7, 9, 10, 24, 25]) (.cons rfl (.cons rfl (.cons rfl (.cons rfl (.cons rfl (.cons rfl (.cons rfl (.cons rfl .nil))))))))), rfl⟩
        rintro _ ⟨wz5_4, S', hw, rfl⟩
        clear hz5
        refine Wp.weak hw ?_
        refine Wp.seq ?_
        refine Wp.seq ?_
        obtain ⟨x7, hx7, h⟩ := bind_some h
        obtain ⟨x8, hx8, h⟩ := bind_some h
        refine Wp.go false none [[], [], [], [], [(65, true)], [(65, true)], [(65, true)], [(65, true)], [], [], [(71, true)], [(71, true)], [(71, true)], [(71, true)], [(71, true)], []] [] [1, 2, 6, 7, 9, 10, 24, 25, 77] mixed rfl rfl (by kernel_rfl) ?_ -- region 15
        refine RunR.fieldAddr fo25_1 rfl rfl rfl rfl rfl ?_
        refine RunR.load1 tk22 rfl rfl rfl rfl ?_
        refine RunR.int rfl rfl rfl rfl rfl ?_
        refine RunR.move rfl rfl rfl ?_
        refine RunR.load1 tk91 rfl rfl rfl rfl ?_
        refine RunR.nilCheck rfl rfl rfl rfl ?_
        refine RunR.fieldAddr fo53_5 rfl rfl rfl rfl rfl ?_
        refine RunR.load1OG tk4 rfl rfl rfl rfl (ifT hx7 gT) rfl ?_
        refine RunR.pickAnd rfl rfl rfl rfl ?_
        refine RunR.move rfl rfl rfl ?_
        refine RunR.load1 tk91 rfl rfl rfl rfl ?_
        refine RunR.nilCheck rfl rfl rfl rfl ?_
        refine RunR.fieldAddr fo53_3 rfl rfl rfl rfl rfl ?_
        refine RunR.load1OG tk4 rfl rfl rfl rfl (ifT hx8 gT) rfl ?_
        refine RunR.not rfl rfl rfl ?_
        refine RunR.pickAnd rfl rfl rfl rfl ?_
        refine RunR.doneQ (.cons rfl (.cons rfl (.cons rfl (.cons rfl (.cons rfl (.cons rfl (.cons rfl (.cons rfl (.cons rfl .nil))))))))) ?_
        refine Wp.condM h rfl (fun hc4 h => ?_) (fun hc4 h => ?_)
        · refine Wp.seq ?_
          obtain ⟨x9, hx9, h⟩ := bind_some h
          refine Wp.text [1, 2, 6, 7, 9, 10, 24, 25] rfl rfl ?_ -- region 16
          refine TextR.load1 tk91 rfl rfl ?_
          refine TextR.nilCheck rfl rfl ?_
          refine TextR.fieldAddr fo53_5 rfl rfl rfl ?_
          refine TextR.storeO { x9 with Token := false } tk4 rfl rfl rfl rfl rfl hx9 rfl rfl (.succ .zero) ?_
          refine TextR.done (.cons rfl (.cons rfl (.cons rfl (.cons rfl (.cons rfl (.cons rfl (.cons rfl (.cons rfl .nil)))))))) ?_
          refine Wp.weak (eqW (S' := ⟨[(1, .c (.ptr 0 0 0 0)), (2, .c (.ptr 2 0 0 0)), (6, .c (.ptr 3 0 0 0)), (7, .c (B s7_1)), (9, .c (.ptr 5 0 0 0)), (10, .c (.clo 67 [.ptr 3 0 0 0, .ptr 0 0 0 0, .ptr 5 0 0 0])), (24, .c (I (y2.length : Int))), (25, .c (I s25_1))], [.live 0 3 [[I a0.ID, I a0.Phase, .sl 1 1 0 (z5.1.set s25_1.toNat { x9 with Token := false }).length]], .live 1 8 ((z5.1.set s25_1.toNat { x9 with Token := false }).map eSide), .live 0 3 [[I 0, I 0, nilS]], .live 0 1 [[.sl 4 wz5_4 0 z5.2.length]], .live wz5_4 5 (z5.2.map eMail), .live 0 1 [[.ptr 1 1 s25_1.toNat 0]]]⟩) (by first | rfl | (simp only [List.length_set]; done) | (simp only [List.length_set]; rfl))) ?_
          obtain ⟨y10, hy10, h⟩ := bind_some h
          refine Wp.text [1, 2, 6, 7, 9, 24, 25] rfl rfl ?_ -- region 17
          refine TextR.move rfl ?_
          refine TextR.call rfl rfl (by exact c_dine_Fire_1_2 N 2 a0.ID a0.Phase (z5.1.set s25_1.toNat { x9 with Token := false }) 0 0 z5.2 s25_1.toNat y10 hy10) (fun x H' hk => ?_)
          obtain ⟨rfl, rfl⟩ := hk
          refine TextR.done (.cons rfl (.cons rfl (.cons rfl (.cons rfl (.cons rfl (.cons rfl (.cons rfl .nil))))))) ?_
          refine Wp.go false none [[], [], [(84, true)], [(84, true)], [(84, true)], [(84, true)], [], []] [] [1, 2, 6, 7, 24, 25] mixed rfl rfl (by kernel_rfl) ?_ -- region 18
          refine RunR.move rfl rfl rfl ?_
          refine RunR.move rfl rfl rfl ?_
          refine RunR.load1 tk91 rfl rfl rfl rfl ?_
          refine RunR.nilCheck rfl rfl rfl rfl ?_
          refine RunR.fieldAddr fo53_3 rfl rfl rfl rfl rfl ?_
          refine RunR.load1O tk4 rfl rfl rfl rfl (at_set hx9) rfl ?_
          refine RunR.pickAnd rfl rfl rfl rfl ?_
          refine RunR.assign rfl rfl rfl ?_
          refine RunR.doneQ (.cons rfl (.cons rfl (.cons rfl (.cons rfl (.cons rfl (.cons rfl .nil)))))) ?_
          refine Wp.text [1, 2, 6, 7, 24, 25] rfl rfl ?_ -- region 19
          refine TextR.int rfl rfl rfl ?_
          refine TextR.move rfl ?_
          refine TextR.done (.cons rfl (.cons rfl (.cons rfl (.cons rfl (.cons rfl (.cons rfl .nil)))))) ?_
          exact ⟨m1, Nat.lt_succ_self _, _, (St.Weak.trans (keepW (live := [1, 2, 6, 7, 24, 25]) (.cons rfl (.cons rfl (.cons rfl (.cons rfl (.cons rfl (.cons rfl .nil))))))) (pickT (e' := [(1, .c (.ptr 0 0 0 0)), (2, .c (.ptr 2 0 0 0)), (6, .c (.ptr 3 0 0 0)), (7, .c (B (s7_1 && x9.Fork))), (24, .c (I (y2.length : Int))), (25, .c (I (w64 (s25_1 + 1))))]) (H' := [.live 0 3 [[I a0.ID, I a0.Phase, .sl 1 1 0 (z5.1.set s25_1.toNat { x9 with Token := false }).length]], .live 1 8 ((z5.1.set s25_1.toNat { x9 with Token := false }).map eSide), .live 0 3 [[I 0, I 0, nilS]], .live 0 1 [[.sl 4 (wz5_4 + 1) 0 y10.length]], .live (wz5_4 + 1) 5 (y10.map eMail)]) [0, 1, 2, 3, 4] [0, 1, 2, 3, 4, 0] 0 hok.len.symm rfl rfl (by decide) (by first | rfl | simp [-List.map_set]) (by first | rfl | simp [-List.map_set]) (by first | rfl | simp [-List.map_set]) (by first | rfl | simp [-List.map_set]))), _, _, _, _, _, h, rfl⟩
        · refine Wp.skip ?_
          obtain ⟨x11, hx11, h⟩ := bind_some h
          refine Wp.go false none [[], [], [(84, true)], [(84, true)], [(84, true)], [(84, true)], [], []] [] [1, 2, 6, 7, 24, 25] mixed rfl rfl (by kernel_rfl) ?_ -- region 18
          refine RunR.move rfl rfl rfl ?_
          refine RunR.move rfl rfl rfl ?_
          refine RunR.load1 tk91 rfl rfl rfl rfl ?_
          refine RunR.nilCheck rfl rfl rfl rfl ?_
          refine RunR.fieldAddr fo53_3 rfl rfl rfl rfl rfl ?_
          refine RunR.load1OG tk4 rfl rfl rfl rfl (ifT hx11 gT) rfl ?_
          refine RunR.pickAnd rfl rfl rfl rfl ?_
          refine RunR.assign rfl rfl rfl ?_
          refine RunR.doneQ (.cons rfl (.cons rfl (.cons rfl (.cons rfl (.cons rfl (.cons rfl .nil)))))) ?_
          refine Wp.text [1, 2, 6, 7, 24, 25] rfl rfl ?_ -- region 19
          refine TextR.int rfl rfl rfl ?_
          refine TextR.move rfl ?_
          refine TextR.done (.cons rfl (.cons rfl (.cons rfl (.cons rfl (.cons rfl (.cons rfl .nil)))))) ?_
          exact ⟨m1, Nat.lt_succ_self _, _, (St.Weak.trans (keepW (live := [1, 2, 6, 7, 24, 25]) (.cons rfl (.cons rfl (.cons rfl (.cons rfl (.cons rfl (.cons rfl .nil))))))) (pickT (e' := [(1, .c (.ptr 0 0 0 0)), (2, .c (.ptr 2 0 0 0)), (6, .c (.ptr 3 0 0 0)), (7, .c (B (s7_1 && x11.Fork))), (24, .c (I (y2.length : Int))), (25, .c (I (w64 (s25_1 + 1))))]) (H' := [.live 0 3 [[I a0.ID, I a0.Phase, .sl 1 1 0 z5.1.length]], .live 1 8 (z5.1.map eSide), .live 0 3 [[I 0, I 0, nilS]], .live 0 1 [[.sl 4 wz5_4 0 z5.2.length]], .live wz5_4 5 (z5.2.map eMail)]) [0, 1, 2, 3, 4] [0, 1, 2, 3, 4, 0] 0 hok.len.symm rfl rfl (by decide) (by first | rfl | simp [-List.map_set]) (by first | rfl | simp [-List.map_set]) (by first | rfl | simp [-List.map_set]) (by first | rfl | simp [-List.map_set]))), _, _, _, _, _, h, rfl⟩
      · refine Wp.exit ?_
        obtain rfl := Option.some.inj h
        exact ⟨_, _, (keepW (live := [1, 2, 6, 7]) (.cons rfl (.cons rfl (.cons rfl (.cons rfl .nil))))), rfl⟩
    rintro _ ⟨wz3_4, S', hw, rfl⟩
    clear hz3
    refine Wp.weak hw ?_
    refine Wp.seq ?_
    refine Wp.seq ?_
    refine Wp.go false none [[], [], [], [], [(94, true)], []] [] [1, 2, 6, 96] mixed rfl rfl (by kernel_rfl) ?_ -- region 20
    refine RunR.fieldAddr fo25_1 rfl rfl rfl rfl rfl ?_
    refine RunR.load1 tk22 rfl rfl rfl rfl ?_
    refine RunR.int rfl rfl rfl rfl rfl ?_
    refine RunR.move rfl rfl rfl ?_
    refine RunR.move rfl rfl rfl ?_
    refine RunR.pickAnd rfl rfl rfl rfl ?_
    refine RunR.doneQ (.cons rfl (.cons rfl (.cons rfl (.cons rfl .nil)))) ?_
    refine Wp.condM h rfl (fun hc2 h => ?_) (fun hc2 h => ?_)
    · refine Wp.seq ?_
      refine Wp.text [1, 2, 6] rfl rfl ?_ -- region 21
      refine TextR.fieldAddr fo25_1 rfl rfl rfl ?_
      refine TextR.storeF (r' := [I a0.ID, I 2, .sl 1 1 0 z3.1.length]) tk22 rfl rfl rfl rfl rfl rfl rfl .zero ?_
      refine TextR.done (.cons rfl (.cons rfl (.cons rfl .nil))) ?_
      refine Wp.seq ?_
      refine Wp.text [1, 2, 6, 100, 101] rfl rfl ?_ -- region 22
      refine TextR.fieldAddr fo25_2 rfl rfl rfl ?_
      refine TextR.load1 tk23 rfl rfl ?_
      refine TextR.len us23 rfl rfl ?_
      refine TextR.move rfl ?_
      refine TextR.done (.cons rfl (.cons rfl (.cons rfl (.cons rfl (.cons rfl .nil))))) ?_
      obtain ⟨z12, hz12, h⟩ := bind_some h
      refine Wp.fragN (fun S => ∃ S', St.Weak ⟨Try.prog, 112, Γ⟩ S S' ∧ S' = ⟨[(1, .c (.ptr 0 0 0 0)), (2, .c (.ptr 2 0 0 0)), (6, .c (.ptr 3 0 0 0))], [.live 0 3 [[I a0.ID, I 2, .sl 1 1 0 z12.length]], .live 1 8 (z12.map eSide), .live 0 3 [[I 0, I 0, nilS]], .live 0 1 [[.sl 4 wz3_4 0 z3.2.1.length]], .live wz3_4 5 (z3.2.1.map eMail)]⟩) ?_ ?_
      · replace h := hz12
        refine Wp.block ?_
        refine Wp.weak (keepW (live := [1, 2, 6, 100, 101]) (.cons rfl (.cons rfl (.cons rfl (.cons rfl (.cons rfl .nil)))))) ?_
        refine Wp.loop (fun m S => ∃ l1_2, ∃ s101_2, dine_Fire_o_L2 N z3 m l1_2 s101_2 = some z12 ∧ S = ⟨[(1, .c (.ptr 0 0 0 0)), (2, .c (.ptr 2 0 0 0)), (6, .c (.ptr 3 0 0 0)), (100, .c (I (z3.1.length : Int))), (101, .c (I s101_2))], [.live 0 3 [[I a0.ID, I 2, .sl 1 1 0 l1_2.length]], .live 1 8 (l1_2.map eSide), .live 0 3 [[I 0, I 0, nilS]], .live 0 1 [[.sl 4 wz3_4 0 z3.2.1.length]], .live wz3_4 5 (z3.2.1.map eMail)]⟩) N ⟨_, _, h, rfl⟩ ?_
        rintro m2 _ ⟨l1_2, s101_2, h, rfl⟩
        cases m2 with
        | zero => rw [dine_Fire_o_L2.eq_1] at h; cases h
        | succ m2 =>
        rw [dine_Fire_o_L2.eq_2] at h
        refine Wp.seq ?_
        refine Wp.text [1, 2, 6, 100, 101, 102] rfl rfl ?_ -- region 23
        refine TextR.int rfl rfl rfl ?_
        refine TextR.done (.cons rfl (.cons rfl (.cons rfl (.cons rfl (.cons rfl (.cons rfl .nil)))))) ?_
        refine Wp.seq ?_
        refine Wp.condM h rfl (fun hc4 h => ?_) (fun hc4 h => ?_)
        · refine Wp.skip ?_
          refine Wp.seq ?_
          refine Wp.block ?_
          refine Wp.seq ?_
          refine Wp.text [1, 2, 6, 11, 100, 101] rfl rfl ?_ -- region 24
          refine TextR.move rfl ?_
          refine TextR.assign rfl ?_
          refine TextR.done (.cons rfl (.cons rfl (.cons rfl (.cons rfl (.cons rfl (.cons rfl .nil)))))) ?_
          obtain ⟨x13, hx13, h⟩ := bind_some h
          refine Wp.text [1, 2, 6, 100, 101] rfl rfl ?_ -- region 25
          refine TextR.fieldAddr fo25_2 rfl rfl rfl ?_
          refine TextR.load1 tk23 rfl rfl ?_
          refine TextR.move rfl ?_
          refine TextR.indexOA se23 rfl rfl rfl hx13 ?_
          refine TextR.fieldAddr fo53_4 rfl rfl rfl ?_
          refine TextR.storeO { x13 with Dirty := true } tk4 rfl rfl rfl rfl rfl (at_get hx13) rfl rfl (.succ .zero) ?_
          refine TextR.done (.cons rfl (.cons rfl (.cons rfl (.cons rfl (.cons rfl .nil))))) ?_
          refine Wp.weak (eqW (S' := ⟨[(1, .c (.ptr 0 0 0 0)), (2, .c (.ptr 2 0 0 0)), (6, .c (.ptr 3 0 0 0)), (100, .c (I (z3.1.length : Int))), (101, .c (I s101_2))], [.live 0 3 [[I a0.ID, I 2, .sl 1 1 0 (l1_2.set s101_2.toNat { x13 with Dirty := true }).length]], .live 1 8 ((l1_2.set s101_2.toNat { x13 with Dirty := true }).map eSide), .live 0 3 [[I 0, I 0, nilS]], .live 0 1 [[.sl 4 wz3_4 0 z3.2.1.length]], .live wz3_4 5 (z3.2.1.map eMail)]⟩) (by first | rfl | (simp only [List.length_set]; done) | (simp only [List.length_set]; rfl))) ?_
          refine Wp.text [1, 2, 6, 100, 101] rfl rfl ?_ -- region 26
          refine TextR.int rfl rfl rfl ?_
          refine TextR.move rfl ?_
          refine TextR.done (.cons rfl (.cons rfl (.cons rfl (.cons rfl (.cons rfl .nil))))) ?_
          exact ⟨m2, Nat.lt_succ_self _, _, (keepW (live := [1, 2, 6, 100, 101]) (.cons rfl (.cons rfl (.cons rfl (.cons rfl (.cons rfl .nil)))))), _, _, h, rfl⟩
        · refine Wp.exit ?_
          obtain rfl := Option.some.inj h
          exact ⟨_, (keepW (live := [1, 2, 6]) (.cons rfl (.cons rfl (.cons rfl .nil)))), rfl⟩
      rintro _ ⟨S', hw, rfl⟩
      clear hz12
      refine Wp.weak hw ?_
      refine Wp.seq ?_
      refine Wp.go true (some ⟨[2], []⟩) [] [false, true, false, false, false] [2, 3, 4] mixed rfl rfl (by kernel_rfl) ?_ -- region 27
      refine RunR.loadN (cs := [I a0.ID, I 2, .sl 1 1 0 z12.length]) tk25 rfl rfl rfl rfl ?_
      refine RunR.load1 tk32 rfl rfl rfl rfl ?_
      refine RunR.store1 tk25 rfl rfl rfl rfl rfl rfl rfl rfl (.succ (.succ .zero)) ?_
      refine RunR.assign rfl rfl rfl ?_
      refine RunR.assign rfl rfl rfl ?_
      refine RunR.doneQ (.cons rfl (.cons rfl (.cons rfl .nil))) ?_
      refine Wp.weak (keepW (live := [2, 3, 4] ) (.cons rfl (.cons rfl (.cons rfl .nil)))) ?_
      refine Wp.weak (freezeW (h := 4) (ver := wz3_4) (rows := z3.2.1.map eMail) (e' := [(2, .c (.ptr 2 0 0 0)), (3, .c (.slv (z3.2.1.map eMail))), (4, .c (I 0))]) (H' := [.live 0 3 [[I a0.ID, I 2, .sl 1 1 0 z12.length]], .live 1 8 (z12.map eSide), .live 0 3 [[I a0.ID, I 2, .sl 1 1 0 z12.length]], .live 0 1 [[.slv (z3.2.1.map eMail)]], .dead]) (obj_of rfl) (by first | rfl | simp [-List.map_set]) (by first | rfl | simp [-List.map_set])) ?_
      refine Wp.weak (pickT (e' := [(2, .c (.ptr 2 0 0 0)), (3, .c (.slv (z3.2.1.map eMail))), (4, .c (I 0))]) (H' := [.live 1 8 (z12.map eSide), .live 0 3 [[I a0.ID, I 2, .sl 0 1 0 z12.length]], .live 0 3 [[I a0.ID, I 2, .sl 0 1 0 z12.length]], .live 0 1 [[.slv (z3.2.1.map eMail)]], .dead]) [1, 0, 2, 3, 4] [1, 0, 2, 3, 4] 0 hok.len.symm rfl rfl (by decide) (by first | rfl | simp [-List.map_set]) (by first | rfl | simp [-List.map_set]) (by first | rfl | simp [-List.map_set]) (by first | rfl | simp [-List.map_set])) ?_
      refine Wp.weak (reverW (h := 0) (ver := 1) (rows := z12.map eSide) (e' := [(2, .c (.ptr 2 0 0 0)), (3, .c (.slv (z3.2.1.map eMail))), (4, .c (I 0))]) (H' := [.live 0 8 (z12.map eSide), .live 0 3 [[I a0.ID, I 2, .sl 0 0 0 z12.length]], .live 0 3 [[I a0.ID, I 2, .sl 0 0 0 z12.length]], .live 0 1 [[.slv (z3.2.1.map eMail)]], .dead]) 0 hok.len.symm rfl rfl (rv_self ok_eSide fx_eSide _) (by simp [rvK, allVp, allO, -List.map_set]) (by simp [rvK, allVp, allO, -List.map_set]) (by first | rfl | simp [-List.map_set]) (by first | rfl | simp [-List.map_set])) ?_
      refine Wp.ret ?_
      obtain rfl := Option.some.inj h
      exact Ret.three rfl (resV_cellN tk25 rfl rfl) (resV_tmp rfl) (resV_tmp rfl) ⟨rfl, _, rfl⟩
    · refine Wp.skip ?_
      refine Wp.seq ?_
      refine Wp.go true (some ⟨[2], []⟩) [] [false, true, false, false, false] [2, 3, 4] mixed rfl rfl (by kernel_rfl) ?_ -- region 27
      refine RunR.loadN (cs := [I a0.ID, I a0.Phase, .sl 1 1 0 z3.1.length]) tk25 rfl rfl rfl rfl ?_
      refine RunR.load1 tk32 rfl rfl rfl rfl ?_
      refine RunR.store1 tk25 rfl rfl rfl rfl rfl rfl rfl rfl (.succ (.succ .zero)) ?_
      refine RunR.assign rfl rfl rfl ?_
      refine RunR.assign rfl rfl rfl ?_
      refine RunR.doneQ (.cons rfl (.cons rfl (.cons rfl .nil))) ?_
      refine Wp.weak (keepW (live := [2, 3, 4] ) (.cons rfl (.cons rfl (.cons rfl .nil)))) ?_
      refine Wp.weak (freezeW (h := 4) (ver := wz3_4) (rows := z3.2.1.map eMail) (e' := [(2, .c (.ptr 2 0 0 0)), (3, .c (.slv (z3.2.1.map eMail))), (4, .c (I 0))]) (H' := [.live 0 3 [[I a0.ID, I a0.Phase, .sl 1 1 0 z3.1.length]], .live 1 8 (z3.1.map eSide), .live 0 3 [[I a0.ID, I a0.Phase, .sl 1 1 0 z3.1.length]], .live 0 1 [[.slv (z3.2.1.map eMail)]], .dead]) (obj_of rfl) (by first | rfl | simp [-List.map_set]) (by first | rfl | simp [-List.map_set])) ?_
      refine Wp.weak (pickT (e' := [(2, .c (.ptr 2 0 0 0)), (3, .c (.slv (z3.2.1.map eMail))), (4, .c (I 0))]) (H' := [.live 1 8 (z3.1.map eSide), .live 0 3 [[I a0.ID, I a0.Phase, .sl 0 1 0 z3.1.length]], .live 0 3 [[I a0.ID, I a0.Phase, .sl 0 1 0 z3.1.length]], .live 0 1 [[.slv (z3.2.1.map eMail)]], .dead]) [1, 0, 2, 3, 4] [1, 0, 2, 3, 4] 0 hok.len.symm rfl rfl (by decide) (by first | rfl | simp [-List.map_set]) (by first | rfl | simp [-List.map_set]) (by first | rfl | simp [-List.map_set]) (by first | rfl | simp [-List.map_set])) ?_
      refine Wp.weak (reverW (h := 0) (ver := 1) (rows := z3.1.map eSide) (e' := [(2, .c (.ptr 2 0 0 0)), (3, .c (.slv (z3.2.1.map eMail))), (4, .c (I 0))]) (H' := [.live 0 8 (z3.1.map eSide), .live 0 3 [[I a0.ID, I a0.Phase, .sl 0 0 0 z3.1.length]], .live 0 3 [[I a0.ID, I a0.Phase, .sl 0 0 0 z3.1.length]], .live 0 1 [[.slv (z3.2.1.map eMail)]], .dead]) 0 hok.len.symm rfl rfl (rv_self ok_eSide fx_eSide _) (by simp [rvK, allVp, allO, -List.map_set]) (by simp [rvK, allVp, allO, -List.map_set]) (by first | rfl | simp [-List.map_set]) (by first | rfl | simp [-List.map_set])) ?_
      refine Wp.ret ?_
      obtain rfl := Option.some.inj h
      exact Ret.three rfl (resV_cellN tk25 rfl rfl) (resV_tmp rfl) (resV_tmp rfl) ⟨rfl, _, rfl⟩
theorem o_dine_Fire (N : Nat) (a0 : TDiner) (r : TDiner × (List TMail) × Int) (h : dine_Fire_o N a0 = some r) {H H1 : List Ob} (k0 : Nat) (hh0 : H.length = k0) (hs : H ++ [.live 0 8 (r.1.Sides.map eSide)] = H1) : Nx.Call Try.prog 56 [.agg (eDiner a0)] H fun r' H' => r' = .tup [.agg [I r.1.ID, I r.1.Phase, .sl k0 0 0 r.1.Sides.length], .c (.slv (r.2.1.map eMail)), .c (I r.2.2)] ∧ H' = H1 := by
  have hc := Call.lift (objs := [.live 0 8 (r.1.Sides.map eSide)]) (by first | rfl | simp [-List.map_set]) (by first | rfl | simp [-List.map_set]) (by have q0 := okR_eSide (p := mvL 1) r.1.Sides; simp [mvO, q0]) (b_dine_Fire N a0 r h) H
  refine Call.mono hc fun r' H' ⟨h1, h2⟩ => ⟨by subst hh0; simpa [shV, shL, -List.map_set] using h1, ?_⟩
  rw [h2, ← hs]
  simp [shO, fx_eSide]
-- slices.Index[[]int,int]
theorem w_slices_Index_int (N : Nat) (a0 : List Int) (a1 : Int) (r : Int) (h : slices_Index_int N a0 a1 = some r) : Nx.Call Try.prog 86 [.c (.slv (a0.map eI)), .c (I a1)] [] fun r' _ => r' = .c (I r) := by
  refine Nx.Call.of_body Try.func86 rfl en86 Try.ntmps86 rfl (fun Γ hok => ?_)
  unfold slices_Index_int at h
  refine Wp.seq ?_
  refine Wp.text [0, 1] rfl rfl ?_ -- region 0
  refine TextR.assign rfl ?_
  refine TextR.done (.cons rfl (.cons rfl .nil)) ?_
  refine Wp.seq ?_
  refine Wp.seq ?_
  refine Wp.text [0, 1, 7, 8] rfl rfl ?_ -- region 1
  refine TextR.move rfl ?_
  refine TextR.lenM us27 rfl rfl ?_
  refine TextR.move rfl ?_
  refine TextR.done (.cons rfl (.cons rfl (.cons rfl (.cons rfl .nil)))) ?_
  obtain ⟨z1, hz1, h⟩ := bind_some h
  refine Wp.fragR (fun S => ∃ z3, z1 = .inr z3 ∧ ∃ S', St.Weak ⟨Try.prog, 19, Γ⟩ S S' ∧ S' = ⟨[], []⟩) (fun S => ∃ v, z1 = .inl v ∧ Ret Try.prog Try.f86 (fun r' _ => r' = .c (I v)) .ret S) ?_ ?_ ?_
  · replace h := hz1
    refine Wp.block ?_
    refine Wp.weak (keepW (live := [0, 1, 7, 8]) (.cons rfl (.cons rfl (.cons rfl (.cons rfl .nil))))) ?_
    refine Wp.loop (fun m S => ∃ s8_1, slices_Index_int_L1 N a0 a1 m s8_1 = some z1 ∧ S = ⟨[(0, .c (.slv (a0.map eI))), (1, .c (I a1)), (7, .c (I (a0.length : Int))), (8, .c (I s8_1))], []⟩) N ⟨_, h, rfl⟩ ?_
    rintro m1 _ ⟨s8_1, h, rfl⟩
    cases m1 with
    | zero => rw [slices_Index_int_L1.eq_1] at h; cases h
    | succ m1 =>
    rw [slices_Index_int_L1.eq_2] at h
    refine Wp.seq ?_
    refine Wp.text [0, 1, 7, 8, 9] rfl rfl ?_ -- region 2
    refine TextR.int rfl rfl rfl ?_
    refine TextR.done (.cons rfl (.cons rfl (.cons rfl (.cons rfl (.cons rfl .nil))))) ?_
    refine Wp.seq ?_
    refine Wp.condM h rfl (fun hc2 h => ?_) (fun hc2 h => ?_)
    · refine Wp.skip ?_
      refine Wp.seq ?_
      refine Wp.block ?_
      refine Wp.seq ?_
      refine Wp.text [0, 1, 5, 7, 8] rfl rfl ?_ -- region 3
      refine TextR.move rfl ?_
      refine TextR.assign rfl ?_
      refine TextR.done (.cons rfl (.cons rfl (.cons rfl (.cons rfl (.cons rfl .nil))))) ?_
      refine Wp.seq ?_
      obtain ⟨x4, hx4, h⟩ := bind_some h
      refine Wp.text [0, 1, 5, 7, 8, 16] rfl rfl ?_ -- region 4
      refine TextR.move rfl ?_
      refine TextR.move rfl ?_
      refine TextR.move rfl ?_
      refine TextR.indexA se27 rfl rfl rfl hx4 rfl ?_
      refine TextR.load1M tk3 rfl (at_get hx4) rfl ?_
      refine TextR.int rfl rfl rfl ?_
      refine TextR.done (.cons rfl (.cons rfl (.cons rfl (.cons rfl (.cons rfl (.cons rfl .nil)))))) ?_
      refine Wp.condM h rfl (fun hc3 h => ?_) (fun hc3 h => ?_)
      · refine Wp.seq ?_
        refine Wp.text [4] rfl rfl ?_ -- region 5
        refine TextR.move rfl ?_
        refine TextR.assign rfl ?_
        refine TextR.done (.cons rfl .nil) ?_
        refine Wp.ret ?_
        exact ⟨_, (Option.some.inj h).symm, Ret.one rfl (resV_tmp rfl) rfl⟩
      · refine Wp.skip ?_
        refine Wp.text [0, 1, 7, 8] rfl rfl ?_ -- region 6
        refine TextR.int rfl rfl rfl ?_
        refine TextR.move rfl ?_
        refine TextR.done (.cons rfl (.cons rfl (.cons rfl (.cons rfl .nil)))) ?_
        exact ⟨m1, Nat.lt_succ_self _, _, (keepW (live := [0, 1, 7, 8]) (.cons rfl (.cons rfl (.cons rfl (.cons rfl .nil))))), _, h, rfl⟩
    · refine Wp.exit ?_
      exact ⟨_, (Option.some.inj h).symm, _, (keepW (live := []) .nil), rfl⟩
  · rintro _ ⟨z3, rfl, _, hw, rfl⟩
    dsimp only at h
    clear hz1
    refine Wp.weak hw ?_
    refine Wp.seq ?_
    refine Wp.text [4] rfl rfl ?_ -- region 7
    refine TextR.assign rfl ?_
    refine TextR.done (.cons rfl .nil) ?_
    refine Wp.ret ?_
    obtain rfl := Option.some.inj h
    exact Ret.one rfl (resV_tmp rfl) rfl
  · rintro S' ⟨r2, rfl, hR⟩
    dsimp only at h
    obtain rfl := Option.some.inj h
    exact hR
theorem c_slices_Index_int (N : Nat) (a0 : List Int) (a1 : Int) (r : Int) (h : slices_Index_int N a0 a1 = some r) (H : List Ob) : DCall Try.prog 86 [.c (.slv (a0.map eI)), .c (I a1)] H (.c (I r)) := DCall.lift (by first | rfl | simp [-List.map_set]) (by first | rfl | simp [-List.map_set]) (fun _ => by simp [-List.map_set]) (w_slices_Index_int N a0 a1 r h) H
-- slices.Contains[[]int,int]
theorem w_slices_Contains_int (N : Nat) (a0 : List Int) (a1 : Int) (r : Bool) (h : slices_Contains_int N a0 a1 = some r) : Nx.Call Try.prog 73 [.c (.slv (a0.map eI)), .c (I a1)] [] fun r' _ => r' = .c (B r) := by
  refine Nx.Call.of_body Try.func73 rfl en73 Try.ntmps73 rfl (fun Γ hok => ?_)
  unfold slices_Contains_int at h
  refine Wp.seq ?_
  refine Wp.text [0, 1] rfl rfl ?_ -- region 0
  refine TextR.assign rfl ?_
  refine TextR.done (.cons rfl (.cons rfl .nil)) ?_
  refine Wp.seq ?_
  obtain ⟨y1, hy1, h⟩ := bind_some h
  refine Wp.text [4] rfl rfl ?_ -- region 1
  refine TextR.move rfl ?_
  refine TextR.move rfl ?_
  refine TextR.dcall rfl rfl (c_slices_Index_int N a0 a1 y1 hy1 _) ?_
  refine TextR.int rfl rfl rfl ?_
  refine TextR.assign rfl ?_
  refine TextR.done (.cons rfl .nil) ?_
  refine Wp.ret ?_
  obtain rfl := Option.some.inj h
  exact Ret.one rfl (resV_tmp rfl) rfl
theorem c_slices_Contains_int (N : Nat) (a0 : List Int) (a1 : Int) (r : Bool) (h : slices_Contains_int N a0 a1 = some r) (H : List Ob) : DCall Try.prog 73 [.c (.slv (a0.map eI)), .c (I a1)] H (.c (B r)) := DCall.lift (by first | rfl | simp [-List.map_set]) (by first | rfl | simp [-List.map_set]) (fun _ => by simp [-List.map_set]) (w_slices_Contains_int N a0 a1 r h) H
-- narthex/set.Has
theorem w_set_Has (N : Nat) (a0 : List Int) (a1 : Int) (r : Bool) (h : set_Has N a0 a1 = some r) : Nx.Call Try.prog 68 [.c (.slv (a0.map eI)), .c (I a1)] [] fun r' _ => r' = .c (B r) := by
  refine Nx.Call.of_body Try.func68 rfl en68 Try.ntmps68 rfl (fun Γ hok => ?_)
  unfold set_Has at h
  refine Wp.seq ?_
  refine Wp.text [0, 1] rfl rfl ?_ -- region 0
  refine TextR.assign rfl ?_
  refine TextR.done (.cons rfl (.cons rfl .nil)) ?_
  refine Wp.seq ?_
  obtain ⟨y1, hy1, h⟩ := bind_some h
  refine Wp.text [4] rfl rfl ?_ -- region 1
  refine TextR.move rfl ?_
  refine TextR.move rfl ?_
  refine TextR.dcall rfl rfl (c_slices_Contains_int N a0 a1 y1 hy1 _) ?_
  refine TextR.assign rfl ?_
  refine TextR.done (.cons rfl .nil) ?_
  refine Wp.ret ?_
  obtain rfl := Option.some.inj h
  exact Ret.one rfl (resV_tmp rfl) rfl
theorem c_set_Has (N : Nat) (a0 : List Int) (a1 : Int) (r : Bool) (h : set_Has N a0 a1 = some r) (H : List Ob) : DCall Try.prog 68 [.c (.slv (a0.map eI)), .c (I a1)] H (.c (B r)) := DCall.lift (by first | rfl | simp [-List.map_set]) (by first | rfl | simp [-List.map_set]) (fun _ => by simp [-List.map_set]) (w_set_Has N a0 a1 r h) H
-- slices.Equal[[]narthex/api.Side,narthex/api.Side]
theorem w_slices_Equal_Side (N : Nat) (a0 : List TSide) (a1 : List TSide) (r : Bool) (h : slices_Equal_Side N a0 a1 = some r) : Nx.Call Try.prog 58 [.c (.slv (a0.map eSide)), .c (.slv (a1.map eSide))] [] fun r' _ => r' = .c (B r) := by
  refine Nx.Call.of_body Try.func58 rfl en58 Try.ntmps58 rfl (fun Γ hok => ?_)
  unfold slices_Equal_Side at h
  refine Wp.seq ?_
  refine Wp.text [0, 1] rfl rfl ?_ -- region 0
  refine TextR.assign rfl ?_
  refine TextR.done (.cons rfl (.cons rfl .nil)) ?_
  refine Wp.seq ?_
  refine Wp.seq ?_
  refine Wp.text [0, 1, 10] rfl rfl ?_ -- region 1
  refine TextR.move rfl ?_
  refine TextR.lenM us23 rfl rfl ?_
  refine TextR.move rfl ?_
  refine TextR.lenM us23 rfl rfl ?_
  refine TextR.int rfl rfl rfl ?_
  refine TextR.done (.cons rfl (.cons rfl (.cons rfl .nil))) ?_
  refine Wp.condM h rfl (fun hc1 h => ?_) (fun hc1 h => ?_)
  · refine Wp.seq ?_
    refine Wp.text [4] rfl rfl ?_ -- region 2
    refine TextR.assign rfl ?_
    refine TextR.done (.cons rfl .nil) ?_
    refine Wp.ret ?_
    obtain rfl := Option.some.inj h
    exact Ret.one rfl (resV_tmp rfl) rfl
  · refine Wp.skip ?_
    refine Wp.seq ?_
    refine Wp.seq ?_
    refine Wp.text [0, 1, 12, 13] rfl rfl ?_ -- region 3
    refine TextR.move rfl ?_
    refine TextR.lenM us23 rfl rfl ?_
    refine TextR.move rfl ?_
    refine TextR.done (.cons rfl (.cons rfl (.cons rfl (.cons rfl .nil)))) ?_
    obtain ⟨z1, hz1, h⟩ := bind_some h
    refine Wp.fragR (fun S => ∃ z3, z1 = .inr z3 ∧ ∃ S', St.Weak ⟨Try.prog, 26, Γ⟩ S S' ∧ S' = ⟨[], []⟩) (fun S => ∃ v, z1 = .inl v ∧ Ret Try.prog Try.f58 (fun r' _ => r' = .c (B v)) .ret S) ?_ ?_ ?_
    · replace h := hz1
      refine Wp.block ?_
      refine Wp.weak (keepW (live := [0, 1, 12, 13]) (.cons rfl (.cons rfl (.cons rfl (.cons rfl .nil))))) ?_
      refine Wp.loop (fun m S => ∃ s13_1, slices_Equal_Side_L1 N a0 a1 m s13_1 = some z1 ∧ S = ⟨[(0, .c (.slv (a0.map eSide))), (1, .c (.slv (a1.map eSide))), (12, .c (I (a0.length : Int))), (13, .c (I s13_1))], []⟩) N ⟨_, h, rfl⟩ ?_
      rintro m1 _ ⟨s13_1, h, rfl⟩
      cases m1 with
      | zero => rw [slices_Equal_Side_L1.eq_1] at h; cases h
      | succ m1 =>
      rw [slices_Equal_Side_L1.eq_2] at h
      refine Wp.seq ?_
      refine Wp.text [0, 1, 12, 13, 14] rfl rfl ?_ -- region 4
      refine TextR.int rfl rfl rfl ?_
      refine TextR.done (.cons rfl (.cons rfl (.cons rfl (.cons rfl (.cons rfl .nil))))) ?_
      refine Wp.seq ?_
      refine Wp.condM h rfl (fun hc3 h => ?_) (fun hc3 h => ?_)
      · refine Wp.skip ?_
        refine Wp.seq ?_
        refine Wp.block ?_
        refine Wp.seq ?_
        refine Wp.text [0, 1, 5, 12, 13] rfl rfl ?_ -- region 5
        refine TextR.move rfl ?_
        refine TextR.assign rfl ?_
        refine TextR.done (.cons rfl (.cons rfl (.cons rfl (.cons rfl (.cons rfl .nil))))) ?_
        refine Wp.seq ?_
        obtain ⟨x4, hx4, h⟩ := bind_some h
        obtain ⟨x5, hx5, h⟩ := bind_some h
        refine Wp.go true (some ⟨[], []⟩) [] [] [0, 1, 12, 13, 24] mixed rfl rfl (by kernel_rfl) ?_ -- region 6
        refine RunR.move rfl rfl rfl ?_
        refine RunR.move rfl rfl rfl ?_
        refine RunR.indexA se23 rfl rfl rfl rfl rfl hx4 rfl ?_
        refine RunR.loadNM tk53 rfl rfl rfl (at_get hx4) rfl ?_
        refine RunR.move rfl rfl rfl ?_
        refine RunR.move rfl rfl rfl ?_
        refine RunR.indexA se23 rfl rfl rfl rfl rfl hx5 rfl ?_
        refine RunR.loadNM tk53 rfl rfl rfl (at_get hx5) rfl ?_
        refine RunR.neAgg eqs53 rfl rfl rfl rfl (q_Side x4 x5) ?_
        refine RunR.doneQ (.cons rfl (.cons rfl (.cons rfl (.cons rfl (.cons rfl .nil))))) ?_
        refine Wp.condM h rfl (fun hc4 h => ?_) (fun hc4 h => ?_)
        · refine Wp.seq ?_
          refine Wp.text [4] rfl rfl ?_ -- region 7
          refine TextR.assign rfl ?_
          refine TextR.done (.cons rfl .nil) ?_
          refine Wp.ret ?_
          exact ⟨_, (Option.some.inj h).symm, Ret.one rfl (resV_tmp rfl) rfl⟩
        · refine Wp.skip ?_
          refine Wp.text [0, 1, 12, 13] rfl rfl ?_ -- region 8
          refine TextR.int rfl rfl rfl ?_
          refine TextR.move rfl ?_
          refine TextR.done (.cons rfl (.cons rfl (.cons rfl (.cons rfl .nil)))) ?_
          exact ⟨m1, Nat.lt_succ_self _, _, (keepW (live := [0, 1, 12, 13]) (.cons rfl (.cons rfl (.cons rfl (.cons rfl .nil))))), _, h, rfl⟩
      · refine Wp.exit ?_
        exact ⟨_, (Option.some.inj h).symm, _, (keepW (live := []) .nil), rfl⟩
    · rintro _ ⟨z3, rfl, _, hw, rfl⟩
      dsimp only at h
      clear hz1
      refine Wp.weak hw ?_
      refine Wp.seq ?_
      refine Wp.text [4] rfl rfl ?_ -- region 9
      refine TextR.assign rfl ?_
      refine TextR.done (.cons rfl .nil) ?_
      refine Wp.ret ?_
      obtain rfl := Option.some.inj h
      exact Ret.one rfl (resV_tmp rfl) rfl
    · rintro S' ⟨r2, rfl, hR⟩
      dsimp only at h
      obtain rfl := Option.some.inj h
      exact hR
theorem c_slices_Equal_Side (N : Nat) (a0 : List TSide) (a1 : List TSide) (r : Bool) (h : slices_Equal_Side N a0 a1 = some r) (H : List Ob) : DCall Try.prog 58 [.c (.slv (a0.map eSide)), .c (.slv (a1.map eSide))] H (.c (B r)) := DCall.lift (by first | rfl | simp [-List.map_set]) (by first | rfl | simp [-List.map_set]) (fun _ => by simp [-List.map_set]) (w_slices_Equal_Side N a0 a1 r h) H
-- narthex/dine.Same
theorem w_dine_Same (N : Nat) (a0 : TDiner) (a1 : TDiner) (r : Bool) (h : dine_Same N a0 a1 = some r) : Nx.Call Try.prog 32 [.agg (eDiner a0), .agg (eDiner a1)] [] fun r' _ => r' = .c (B r) := by
  refine Nx.Call.of_body Try.func32 rfl en32 Try.ntmps32 rfl (fun Γ hok => ?_)
  unfold dine_Same at h
  refine Wp.seq ?_
  refine Wp.text [2, 3] rfl rfl ?_ -- region 0
  refine TextR.box (cs := [I a0.ID, I a0.Phase, .slv (a0.Sides.map eSide)]) 0 rfl rfl rfl rfl .nil ?_
  refine TextR.box (cs := [I a1.ID, I a1.Phase, .slv (a1.Sides.map eSide)]) 1 rfl rfl rfl rfl (.cons .nil) ?_
  refine TextR.assign rfl ?_
  refine TextR.done (.cons rfl (.cons rfl .nil)) ?_
  refine Wp.seq ?_
  obtain ⟨y1, hy1, h⟩ := bind_some h
  refine Wp.go false none [[], [], [], [], [], [], [(10, true)], [(10, true)], [(10, true)], [(10, true)], [(10, true)], [], [], [(17, true)], [(17, true)], [(17, true)], [(17, true)], [(17, true)], [], []] [] [4] mixed rfl rfl (by kernel_rfl) ?_ -- region 1
  refine RunR.fieldAddr fo25_0 rfl rfl rfl rfl rfl ?_
  refine RunR.load1 tk3 rfl rfl rfl rfl ?_
  refine RunR.fieldAddr fo25_0 rfl rfl rfl rfl rfl ?_
  refine RunR.load1 tk3 rfl rfl rfl rfl ?_
  refine RunR.int rfl rfl rfl rfl rfl ?_
  refine RunR.move rfl rfl rfl ?_
  refine RunR.fieldAddr fo25_1 rfl rfl rfl rfl rfl ?_
  refine RunR.load1 tk22 rfl rfl rfl rfl ?_
  refine RunR.fieldAddr fo25_1 rfl rfl rfl rfl rfl ?_
  refine RunR.load1 tk22 rfl rfl rfl rfl ?_
  refine RunR.int rfl rfl rfl rfl rfl ?_
  refine RunR.pickAnd rfl rfl rfl rfl ?_
  refine RunR.move rfl rfl rfl ?_
  refine RunR.fieldAddr fo25_2 rfl rfl rfl rfl rfl ?_
  refine RunR.load1 tk23 rfl rfl rfl rfl ?_
  refine RunR.fieldAddr fo25_2 rfl rfl rfl rfl rfl ?_
  refine RunR.load1 tk23 rfl rfl rfl rfl ?_
  refine RunR.callG rfl rfl rfl (fun hb H => c_slices_Equal_Side N a0.Sides a1.Sides y1 (ifT hy1 gT hb) H) ?_
  refine RunR.pickAnd rfl rfl rfl rfl ?_
  refine RunR.assign rfl rfl rfl ?_
  refine RunR.doneQ (.cons rfl .nil) ?_
  refine Wp.ret ?_
  obtain rfl := Option.some.inj h
  exact Ret.one rfl (resV_tmp rfl) rfl
theorem c_dine_Same (N : Nat) (a0 : TDiner) (a1 : TDiner) (r : Bool) (h : dine_Same N a0 a1 = some r) (H : List Ob) : DCall Try.prog 32 [.agg (eDiner a0), .agg (eDiner a1)] H (.c (B r)) := DCall.lift (by first | rfl | simp [-List.map_set]) (by first | rfl | simp [-List.map_set]) (fun _ => by simp [-List.map_set]) (w_dine_Same N a0 a1 r h) H
-- slices.Equal[[]int,int]
theorem w_slices_Equal_int (N : Nat) (a0 : List Int) (a1 : List Int) (r : Bool) (h : slices_Equal_int N a0 a1 = some r) : Nx.Call Try.prog 33 [.c (.slv (a0.map eI)), .c (.slv (a1.map eI))] [] fun r' _ => r' = .c (B r) := by
  refine Nx.Call.of_body Try.func33 rfl en33 Try.ntmps33 rfl (fun Γ hok => ?_)
  unfold slices_Equal_int at h
  refine Wp.seq ?_
  refine Wp.text [0, 1] rfl rfl ?_ -- region 0
  refine TextR.assign rfl ?_
  refine TextR.done (.cons rfl (.cons rfl .nil)) ?_
  refine Wp.seq ?_
  refine Wp.seq ?_
  refine Wp.text [0, 1, 10] rfl rfl ?_ -- region 1
  refine TextR.move rfl ?_
  refine TextR.lenM us27 rfl rfl ?_
  refine TextR.move rfl ?_
  refine TextR.lenM us27 rfl rfl ?_
  refine TextR.int rfl rfl rfl ?_
  refine TextR.done (.cons rfl (.cons rfl (.cons rfl .nil))) ?_
  refine Wp.condM h rfl (fun hc1 h => ?_) (fun hc1 h => ?_)
  · refine Wp.seq ?_
    refine Wp.text [4] rfl rfl ?_ -- region 2
    refine TextR.assign rfl ?_
    refine TextR.done (.cons rfl .nil) ?_
    refine Wp.ret ?_
    obtain rfl := Option.some.inj h
    exact Ret.one rfl (resV_tmp rfl) rfl
  · refine Wp.skip ?_
    refine Wp.seq ?_
    refine Wp.seq ?_
    refine Wp.text [0, 1, 12, 13] rfl rfl ?_ -- region 3
    refine TextR.move rfl ?_
    refine TextR.lenM us27 rfl rfl ?_
    refine TextR.move rfl ?_
    refine TextR.done (.cons rfl (.cons rfl (.cons rfl (.cons rfl .nil)))) ?_
    obtain ⟨z1, hz1, h⟩ := bind_some h
    refine Wp.fragR (fun S => ∃ z3, z1 = .inr z3 ∧ ∃ S', St.Weak ⟨Try.prog, 26, Γ⟩ S S' ∧ S' = ⟨[], []⟩) (fun S => ∃ v, z1 = .inl v ∧ Ret Try.prog Try.f33 (fun r' _ => r' = .c (B v)) .ret S) ?_ ?_ ?_
    · replace h := hz1
      refine Wp.block ?_
      refine Wp.weak (keepW (live := [0, 1, 12, 13]) (.cons rfl (.cons rfl (.cons rfl (.cons rfl .nil))))) ?_
      refine Wp.loop (fun m S => ∃ s13_1, slices_Equal_int_L1 N a0 a1 m s13_1 = some z1 ∧ S = ⟨[(0, .c (.slv (a0.map eI))), (1, .c (.slv (a1.map eI))), (12, .c (I (a0.length : Int))), (13, .c (I s13_1))], []⟩) N ⟨_, h, rfl⟩ ?_
      rintro m1 _ ⟨s13_1, h, rfl⟩
      cases m1 with
      | zero => rw [slices_Equal_int_L1.eq_1] at h; cases h
      | succ m1 =>
      rw [slices_Equal_int_L1.eq_2] at h
      refine Wp.seq ?_
      refine Wp.text [0, 1, 12, 13, 14] rfl rfl ?_ -- region 4
      refine TextR.int rfl rfl rfl ?_
      refine TextR.done (.cons rfl (.cons rfl (.cons rfl (.cons rfl (.cons rfl .nil))))) ?_
      refine Wp.seq ?_
      refine Wp.condM h rfl (fun hc3 h => ?_) (fun hc3 h => ?_)
      · refine Wp.skip ?_
        refine Wp.seq ?_
        refine Wp.block ?_
        refine Wp.seq ?_
        refine Wp.text [0, 1, 5, 12, 13] rfl rfl ?_ -- region 5
        refine TextR.move rfl ?_
        refine TextR.assign rfl ?_
        refine TextR.done (.cons rfl (.cons rfl (.cons rfl (.cons rfl (.cons rfl .nil))))) ?_
        refine Wp.seq ?_
        obtain ⟨x4, hx4, h⟩ := bind_some h
        obtain ⟨x5, hx5, h⟩ := bind_some h
        refine Wp.go true (some ⟨[], []⟩) [] [] [0, 1, 12, 13, 24] mixed rfl rfl (by kernel_rfl) ?_ -- region 6
        refine RunR.move rfl rfl rfl ?_
        refine RunR.move rfl rfl rfl ?_
        refine RunR.indexA se27 rfl rfl rfl rfl rfl hx4 rfl ?_
        refine RunR.load1M tk3 rfl rfl rfl (at_get hx4) rfl ?_
        refine RunR.move rfl rfl rfl ?_
        refine RunR.move rfl rfl rfl ?_
        refine RunR.indexA se27 rfl rfl rfl rfl rfl hx5 rfl ?_
        refine RunR.load1M tk3 rfl rfl rfl (at_get hx5) rfl ?_
        refine RunR.int rfl rfl rfl rfl rfl ?_
        refine RunR.doneQ (.cons rfl (.cons rfl (.cons rfl (.cons rfl (.cons rfl .nil))))) ?_
        refine Wp.condM h rfl (fun hc4 h => ?_) (fun hc4 h => ?_)
        · refine Wp.seq ?_
          refine Wp.text [4] rfl rfl ?_ -- region 7
          refine TextR.assign rfl ?_
          refine TextR.done (.cons rfl .nil) ?_
          refine Wp.ret ?_
          exact ⟨_, (Option.some.inj h).symm, Ret.one rfl (resV_tmp rfl) rfl⟩
        · refine Wp.skip ?_
          refine Wp.text [0, 1, 12, 13] rfl rfl ?_ -- region 8
          refine TextR.int rfl rfl rfl ?_
          refine TextR.move rfl ?_
          refine TextR.done (.cons rfl (.cons rfl (.cons rfl (.cons rfl .nil)))) ?_
          exact ⟨m1, Nat.lt_succ_self _, _, (keepW (live := [0, 1, 12, 13]) (.cons rfl (.cons rfl (.cons rfl (.cons rfl .nil))))), _, h, rfl⟩
      · refine Wp.exit ?_
        exact ⟨_, (Option.some.inj h).symm, _, (keepW (live := []) .nil), rfl⟩
    · rintro _ ⟨z3, rfl, _, hw, rfl⟩
      dsimp only at h
      clear hz1
      refine Wp.weak hw ?_
      refine Wp.seq ?_
      refine Wp.text [4] rfl rfl ?_ -- region 9
      refine TextR.assign rfl ?_
      refine TextR.done (.cons rfl .nil) ?_
      refine Wp.ret ?_
      obtain rfl := Option.some.inj h
      exact Ret.one rfl (resV_tmp rfl) rfl
    · rintro S' ⟨r2, rfl, hR⟩
      dsimp only at h
      obtain rfl := Option.some.inj h
      exact hR
theorem c_slices_Equal_int (N : Nat) (a0 : List Int) (a1 : List Int) (r : Bool) (h : slices_Equal_int N a0 a1 = some r) (H : List Ob) : DCall Try.prog 33 [.c (.slv (a0.map eI)), .c (.slv (a1.map eI))] H (.c (B r)) := DCall.lift (by first | rfl | simp [-List.map_set]) (by first | rfl | simp [-List.map_set]) (fun _ => by simp [-List.map_set]) (w_slices_Equal_int N a0 a1 r h) H
-- narthex/drink.Same
theorem w_drink_Same (N : Nat) (a0 : TDrinker) (a1 : TDrinker) (r : Bool) (h : drink_Same N a0 a1 = some r) : Nx.Call Try.prog 14 [.agg (eDrinker a0), .agg (eDrinker a1)] [] fun r' _ => r' = .c (B r) := by
  refine Nx.Call.of_body Try.func14 rfl en14 Try.ntmps14 rfl (fun Γ hok => ?_)
  unfold drink_Same at h
  refine Wp.seq ?_
  refine Wp.text [2, 3] rfl rfl ?_ -- region 0
  refine TextR.box (cs := [I a0.Diner.ID, I a0.Diner.Phase, .slv (a0.Diner.Sides.map eSide), I a0.Thirst, .slv (a0.Need.map eI)]) 0 rfl rfl rfl rfl .nil ?_
  refine TextR.box (cs := [I a1.Diner.ID, I a1.Diner.Phase, .slv (a1.Diner.Sides.map eSide), I a1.Thirst, .slv (a1.Need.map eI)]) 1 rfl rfl rfl rfl (.cons .nil) ?_
  refine TextR.assign rfl ?_
  refine TextR.done (.cons rfl (.cons rfl .nil)) ?_
  refine Wp.seq ?_
  obtain ⟨y1, hy1, h⟩ := bind_some h
  obtain ⟨y2, hy2, h⟩ := bind_some h
  refine Wp.go false none [[], [], [], [], [], [], [(10, true)], [(10, true)], [(10, true)], [(10, true)], [(10, true)], [], [], [(17, true)], [(17, true)], [(17, true)], [(17, true)], [(17, true)], [], []] [] [4] mixed rfl rfl (by kernel_rfl) ?_ -- region 1
  refine RunR.fieldAddr fo29_0 rfl rfl rfl rfl rfl ?_
  refine RunR.loadN (cs := [I a0.Diner.ID, I a0.Diner.Phase, .slv (a0.Diner.Sides.map eSide)]) tk25 rfl rfl rfl rfl ?_
  refine RunR.fieldAddr fo29_0 rfl rfl rfl rfl rfl ?_
  refine RunR.loadN (cs := [I a1.Diner.ID, I a1.Diner.Phase, .slv (a1.Diner.Sides.map eSide)]) tk25 rfl rfl rfl rfl ?_
  refine RunR.call rfl rfl rfl (fun H => c_dine_Same N a0.Diner a1.Diner y1 hy1 H) ?_
  refine RunR.move rfl rfl rfl ?_
  refine RunR.fieldAddr fo29_1 rfl rfl rfl rfl rfl ?_
  refine RunR.load1 tk26 rfl rfl rfl rfl ?_
  refine RunR.fieldAddr fo29_1 rfl rfl rfl rfl rfl ?_
  refine RunR.load1 tk26 rfl rfl rfl rfl ?_
  refine RunR.int rfl rfl rfl rfl rfl ?_
  refine RunR.pickAnd rfl rfl rfl rfl ?_
  refine RunR.move rfl rfl rfl ?_
  refine RunR.fieldAddr fo29_2 rfl rfl rfl rfl rfl ?_
  refine RunR.load1 tk27 rfl rfl rfl rfl ?_
  refine RunR.fieldAddr fo29_2 rfl rfl rfl rfl rfl ?_
  refine RunR.load1 tk27 rfl rfl rfl rfl ?_
  refine RunR.callG rfl rfl rfl (fun hb H => c_slices_Equal_int N a0.Need a1.Need y2 (ifT hy2 gT hb) H) ?_
  refine RunR.pickAnd rfl rfl rfl rfl ?_
  refine RunR.assign rfl rfl rfl ?_
  refine RunR.doneQ (.cons rfl .nil) ?_
  refine Wp.ret ?_
  obtain rfl := Option.some.inj h
  exact Ret.one rfl (resV_tmp rfl) rfl
theorem c_drink_Same (N : Nat) (a0 : TDrinker) (a1 : TDrinker) (r : Bool) (h : drink_Same N a0 a1 = some r) (H : List Ob) : DCall Try.prog 14 [.agg (eDrinker a0), .agg (eDrinker a1)] H (.c (B r)) := DCall.lift (by first | rfl | simp [-List.map_set]) (by first | rfl | simp [-List.map_set]) (fun _ => by simp [-List.map_set]) (w_drink_Same N a0 a1 r h) H
-- (*narthex/drink.drinker).send
theorem w_drink_drinker_send_3 (N : Nat) (a1 : TSide) (a2 : Int) (c0_0 : Int) (c0_1 : Int) (c0_3 : Int) (c1_0 : Int) (c1_1 : Int) (c1_3 : Int) (c1_4 : List Int) (l2 : List TMail) (c3_0 : Int) (c3_1 : Int) (c3_2 : List TSide) (c3_3 : Int) (c3_4 : List Int) (l4 : List TSide) (c5_0 : Int) (c5_1 : Int) {w2 : Nat} {w4 : Nat} (r : (List TMail)) (h : drink_drinker_send_3 N a1 a2 c0_0 c0_1 c0_3 c1_0 c1_1 c1_3 c1_4 l2 c3_0 c3_1 c3_2 c3_3 c3_4 l4 c5_0 c5_1 = some r) : Nx.Call Try.prog 69 [.c (.ptr 1 0 0 0), .agg (eSide a1), .c (I a2)] [.live 0 5 [[I c0_0, I c0_1, nilS, I c0_3, nilS]], .live 0 6 [[I c1_0, I c1_1, .sl 4 w4 0 l4.length, I c1_3, .slv (c1_4.map eI), .sl 2 w2 0 l2.length]], .live w2 5 (l2.map eMail), .live 0 5 [[I c3_0, I c3_1, .slv (c3_2.map eSide), I c3_3, .slv (c3_4.map eI)]], .live w4 8 (l4.map eSide), .live 0 3 [[I c5_0, I c5_1, .sl 4 w4 0 l4.length]]] fun r' H' => r' = .tup [] ∧ ∃ junk, H' = [.live 0 5 [[I c0_0, I c0_1, nilS, I c0_3, nilS]], .live 0 6 [[I c1_0, I c1_1, .sl 4 w4 0 l4.length, I c1_3, .slv (c1_4.map eI), .sl 2 (w2 + 1) 0 r.length]], .live (w2 + 1) 5 (r.map eMail), .live 0 5 [[I c3_0, I c3_1, .slv (c3_2.map eSide), I c3_3, .slv (c3_4.map eI)]], .live w4 8 (l4.map eSide), .live 0 3 [[I c5_0, I c5_1, .sl 4 w4 0 l4.length]]] ++ junk := by
  refine Nx.Call.of_body Try.func69 rfl en69 Try.ntmps69 rfl (fun Γ hok => ?_)
  unfold drink_drinker_send_3 at h
  refine Wp.seq ?_
  refine Wp.text [0, 2, 4] rfl rfl ?_ -- region 0
  refine TextR.box (cs := [I a1.Peer, I a1.Epoch, I a1.State, B a1.Fork, B a1.Dirty, B a1.Token, B a1.Bottle, B a1.Ask]) 6 rfl rfl rfl rfl (.cons (.cons (.cons (.cons (.cons (.cons .nil)))))) ?_
  refine TextR.done (.cons rfl (.cons rfl (.cons rfl .nil))) ?_
  obtain ⟨x1, hx1, h⟩ := bind_some h
  refine Wp.go true (some ⟨[2, 7], []⟩) [] [true, true, true, true, true, false, false, false, false, false, false, false, false, false, false, false, false, false, false, false, false, false, true] [] mixed rfl rfl (by kernel_rfl) ?_ -- region 1
  refine RunR.move rfl rfl rfl ?_
  refine RunR.move rfl rfl rfl ?_
  refine RunR.nilCheck rfl rfl rfl rfl ?_
  refine RunR.fieldAddr fo64_1 rfl rfl rfl rfl rfl ?_
  refine RunR.load1 tk32 rfl rfl rfl rfl ?_
  refine RunR.move rfl rfl rfl ?_
  refine RunR.nilCheck rfl rfl rfl rfl ?_
  refine RunR.fieldAddr fo64_0 rfl rfl rfl rfl rfl ?_
  refine RunR.fieldAddr fo29_0 rfl rfl rfl rfl rfl ?_
  refine RunR.fieldAddr fo25_0 rfl rfl rfl rfl rfl ?_
  refine RunR.load1 tk3 rfl rfl rfl rfl ?_
  refine RunR.fieldAddr fo53_0 rfl rfl rfl rfl rfl ?_
  refine RunR.load1 tk3 rfl rfl rfl rfl ?_
  refine RunR.move rfl rfl rfl ?_
  refine RunR.fieldAddr fo53_1 rfl rfl rfl rfl rfl ?_
  refine RunR.load1 tk3 rfl rfl rfl rfl ?_
  refine RunR.build cm44 rfl rfl rfl ?_
  refine RunR.build cm61 rfl rfl rfl ?_
  refine RunR.buildSlice (rows := [(⟨c1_0, a1.Peer, (⟨a2, a1.Epoch, 0⟩ : TMsg)⟩ : TMail)].map eMail) 7 se32 rfl rfl rfl rfl rfl (.cons (.cons (.cons (.cons (.cons (.cons (.cons .nil))))))) ?_
  refine RunR.appendM eMail l2 [(⟨c1_0, a1.Peer, (⟨a2, a1.Epoch, 0⟩ : TMsg)⟩ : TMail)] x1 (app_eq hx1) se32 rfl rfl rfl (obj_of rfl) rfl (view_whole (f := eMail) (xs := [(⟨c1_0, a1.Peer, (⟨a2, a1.Epoch, 0⟩ : TMsg)⟩ : TMail)]) rfl) (fun _ => rfl) rfl (app_len hx1) (.succ (.succ .zero)) ?_
  refine RunR.nilCheck rfl rfl rfl rfl ?_
  refine RunR.fieldAddr fo64_1 rfl rfl rfl rfl rfl ?_
  refine RunR.storeF (r' := [I c1_0, I c1_1, .sl 4 w4 0 l4.length, I c1_3, .slv (c1_4.map eI), .sl 2 (w2 + 1) 0 x1.length]) tk32 rfl rfl rfl rfl rfl rfl rfl rfl rfl (.succ .zero) ?_
  refine RunR.doneQ .nil ?_
  obtain rfl := Option.some.inj h
  exact Ret.zeroN rfl  ⟨rfl, _, rfl⟩
theorem c_drink_drinker_send_3 (N : Nat) (a1 : TSide) (a2 : Int) (c0_0 : Int) (c0_1 : Int) (c0_3 : Int) (c1_0 : Int) (c1_1 : Int) (c1_3 : Int) (c1_4 : List Int) (l2 : List TMail) (c3_0 : Int) (c3_1 : Int) (c3_2 : List TSide) (c3_3 : Int) (c3_4 : List Int) (l4 : List TSide) (c5_0 : Int) (c5_1 : Int) {w2 : Nat} {w4 : Nat} (r : (List TMail)) (h : drink_drinker_send_3 N a1 a2 c0_0 c0_1 c0_3 c1_0 c1_1 c1_3 c1_4 l2 c3_0 c3_1 c3_2 c3_3 c3_4 l4 c5_0 c5_1 = some r) : Nx.Call Try.prog 69 [.c (.ptr 1 0 0 0), .agg (eSide a1), .c (I a2)] [.live 0 5 [[I c0_0, I c0_1, nilS, I c0_3, nilS]], .live 0 6 [[I c1_0, I c1_1, .sl 4 w4 0 l4.length, I c1_3, .slv (c1_4.map eI), .sl 2 w2 0 l2.length]], .live w2 5 (l2.map eMail), .live 0 5 [[I c3_0, I c3_1, .slv (c3_2.map eSide), I c3_3, .slv (c3_4.map eI)]], .live w4 8 (l4.map eSide), .live 0 3 [[I c5_0, I c5_1, .sl 4 w4 0 l4.length]]] fun r' H' => r' = .tup [] ∧ H' = [.live 0 5 [[I c0_0, I c0_1, nilS, I c0_3, nilS]], .live 0 6 [[I c1_0, I c1_1, .sl 4 w4 0 l4.length, I c1_3, .slv (c1_4.map eI), .sl 2 (w2 + 1) 0 r.length]], .live (w2 + 1) 5 (r.map eMail), .live 0 5 [[I c3_0, I c3_1, .slv (c3_2.map eSide), I c3_3, .slv (c3_4.map eI)]], .live w4 8 (l4.map eSide), .live 0 3 [[I c5_0, I c5_1, .sl 4 w4 0 l4.length]]] := Call.trim (by simp) (by first | rfl | simp [-List.map_set]) (by first | rfl | simp [-List.map_set]) (w_drink_drinker_send_3 N a1 a2 c0_0 c0_1 c0_3 c1_0 c1_1 c1_3 c1_4 l2 c3_0 c3_1 c3_2 c3_3 c3_4 l4 c5_0 c5_1 r h)
-- (*narthex/drink.drinker).bottles
theorem w_drink_drinker_bottles_3 (N : Nat) (c0_0 : Int) (c0_1 : Int) (c0_3 : Int) (c1_0 : Int) (c1_1 : Int) (c1_3 : Int) (c1_4 : List Int) (l2 : List TMail) (c3_0 : Int) (c3_1 : Int) (c3_2 : List TSide) (c3_3 : Int) (c3_4 : List Int) (l4 : List TSide) (c5_0 : Int) (c5_1 : Int) {w2 : Nat} {w4 : Nat} (r : Int × (List TMail) × (List TSide)) (h : drink_drinker_bottles_3 N c0_0 c0_1 c0_3 c1_0 c1_1 c1_3 c1_4 l2 c3_0 c3_1 c3_2 c3_3 c3_4 l4 c5_0 c5_1 = some r) : Nx.Call Try.prog 57 [.c (.ptr 1 0 0 0)] [.live 0 5 [[I c0_0, I c0_1, nilS, I c0_3, nilS]], .live 0 6 [[I c1_0, I c1_1, .sl 4 w4 0 l4.length, I c1_3, .slv (c1_4.map eI), .sl 2 w2 0 l2.length]], .live w2 5 (l2.map eMail), .live 0 5 [[I c3_0, I c3_1, .slv (c3_2.map eSide), I c3_3, .slv (c3_4.map eI)]], .live w4 8 (l4.map eSide), .live 0 3 [[I c5_0, I c5_1, .sl 4 w4 0 l4.length]]] fun r' H' => ∃ u : Nat, r' = .tup [] ∧ ∃ junk, H' = [.live 0 5 [[I c0_0, I c0_1, nilS, I c0_3, nilS]], .live 0 6 [[I c1_0, I c1_1, .sl 4 w4 0 r.2.2.length, I r.1, .slv (c1_4.map eI), .sl 2 u 0 r.2.1.length]], .live u 5 (r.2.1.map eMail), .live 0 5 [[I c3_0, I c3_1, .slv (c3_2.map eSide), I c3_3, .slv (c3_4.map eI)]], .live w4 8 (r.2.2.map eSide), .live 0 3 [[I c5_0, I c5_1, .sl 4 w4 0 r.2.2.length]]] ++ junk := by
  refine Nx.Call.of_body Try.func57 rfl en57 Try.ntmps57 rfl (fun Γ hok => ?_)
  unfold drink_drinker_bottles_3 at h
  refine Wp.seq ?_
  refine Wp.text [0, 2] rfl rfl ?_ -- region 0
  refine TextR.assign rfl ?_
  refine TextR.done (.cons rfl (.cons rfl .nil)) ?_
  refine Wp.seq ?_
  refine Wp.seq ?_
  refine Wp.text [0, 2, 13, 14] rfl rfl ?_ -- region 1
  refine TextR.move rfl ?_
  refine TextR.nilCheck rfl rfl ?_
  refine TextR.fieldAddr fo64_0 rfl rfl rfl ?_
  refine TextR.fieldAddr fo29_0 rfl rfl rfl ?_
  refine TextR.fieldAddr fo25_2 rfl rfl rfl ?_
  refine TextR.load1 tk23 rfl rfl ?_
  refine TextR.len us23 rfl rfl ?_
  refine TextR.move rfl ?_
  refine TextR.done (.cons rfl (.cons rfl (.cons rfl (.cons rfl .nil)))) ?_
  obtain ⟨z1, hz1, h⟩ := bind_some h
  refine Wp.fragN (fun S => ∃ wz1_2, ∃ S', St.Weak ⟨Try.prog, 135, Γ⟩ S S' ∧ S' = ⟨[(0, .c (.ptr 1 0 0 0)), (2, .c (B z1.2.2))], [.live 0 5 [[I c0_0, I c0_1, nilS, I c0_3, nilS]], .live 0 6 [[I c1_0, I c1_1, .sl 4 w4 0 z1.2.1.length, I c1_3, .slv (c1_4.map eI), .sl 2 wz1_2 0 z1.1.length]], .live wz1_2 5 (z1.1.map eMail), .live 0 5 [[I c3_0, I c3_1, .slv (c3_2.map eSide), I c3_3, .slv (c3_4.map eI)]], .live w4 8 (z1.2.1.map eSide), .live 0 3 [[I c5_0, I c5_1, .sl 4 w4 0 z1.2.1.length]]]⟩) ?_ ?_
  · replace h := hz1
    refine Wp.block ?_
    refine Wp.weak (keepW (live := [0, 2, 13, 14]) (.cons rfl (.cons rfl (.cons rfl (.cons rfl .nil))))) ?_
    refine Wp.loop (fun m S => ∃ l2_1, ∃ l4_1, ∃ s2_1, ∃ s14_1, ∃ wh2_1, drink_drinker_bottles_3_L1 N c0_0 c0_1 c0_3 c1_0 c1_1 c1_3 c1_4 c3_0 c3_1 c3_2 c3_3 c3_4 l4 c5_0 c5_1 m l2_1 l4_1 s2_1 s14_1 = some z1 ∧ S = ⟨[(0, .c (.ptr 1 0 0 0)), (2, .c (B s2_1)), (13, .c (I (l4.length : Int))), (14, .c (I s14_1))], [.live 0 5 [[I c0_0, I c0_1, nilS, I c0_3, nilS]], .live 0 6 [[I c1_0, I c1_1, .sl 4 w4 0 l4_1.length, I c1_3, .slv (c1_4.map eI), .sl 2 wh2_1 0 l2_1.length]], .live wh2_1 5 (l2_1.map eMail), .live 0 5 [[I c3_0, I c3_1, .slv (c3_2.map eSide), I c3_3, .slv (c3_4.map eI)]], .live w4 8 (l4_1.map eSide), .live 0 3 [[I c5_0, I c5_1, .sl 4 w4 0 l4_1.length]]]⟩) N ⟨_, _, _, _, _, h, rfl⟩ ?_
    rintro m1 _ ⟨l2_1, l4_1, s2_1, s14_1, wh2_1, h, rfl⟩
    cases m1 with
    | zero => rw [drink_drinker_bottles_3_L1.eq_1] at h; cases h
    | succ m1 =>
    rw [drink_drinker_bottles_3_L1.eq_2] at h
    refine Wp.seq ?_
    refine Wp.text [0, 2, 13, 14, 15] rfl rfl ?_ -- region 2
    refine TextR.int rfl rfl rfl ?_
    refine TextR.done (.cons rfl (.cons rfl (.cons rfl (.cons rfl (.cons rfl .nil))))) ?_
    refine Wp.seq ?_
    refine Wp.condM h rfl (fun hc2 h => ?_) (fun hc2 h => ?_)
    · refine Wp.skip ?_
      refine Wp.seq ?_
      refine Wp.block ?_
      refine Wp.seq ?_
      refine Wp.text [0, 2, 3, 13, 14] rfl rfl ?_ -- region 3
      refine TextR.move rfl ?_
      refine TextR.assign rfl ?_
      refine TextR.done (.cons rfl (.cons rfl (.cons rfl (.cons rfl (.cons rfl .nil))))) ?_
      refine Wp.seq ?_
      obtain ⟨x2, hx2, h⟩ := bind_some h
      refine Wp.text [0, 2, 4, 13, 14] rfl rfl ?_ -- region 4
      refine TextR.move rfl ?_
      refine TextR.nilCheck rfl rfl ?_
      refine TextR.fieldAddr fo64_0 rfl rfl rfl ?_
      refine TextR.fieldAddr fo29_0 rfl rfl rfl ?_
      refine TextR.fieldAddr fo25_2 rfl rfl rfl ?_
      refine TextR.load1 tk23 rfl rfl ?_
      refine TextR.move rfl ?_
      refine TextR.indexOA se23 rfl rfl (obj_of rfl) hx2 ?_
      refine TextR.assign rfl ?_
      refine TextR.done (.cons rfl (.cons rfl (.cons rfl (.cons rfl (.cons rfl .nil))))) ?_
      refine Wp.seq ?_
      obtain ⟨y3, hy3, h⟩ := bind_some h
      refine Wp.go true (some ⟨[], []⟩) [] [] [0, 2, 4, 5, 13, 14] mixed rfl rfl (by kernel_rfl) ?_ -- region 5
      refine RunR.move rfl rfl rfl ?_
      refine RunR.nilCheck rfl rfl rfl rfl ?_
      refine RunR.fieldAddr fo64_0 rfl rfl rfl rfl rfl ?_
      refine RunR.fieldAddr fo29_2 rfl rfl rfl rfl rfl ?_
      refine RunR.load1 tk27 rfl rfl rfl rfl ?_
      refine RunR.move rfl rfl rfl ?_
      refine RunR.nilCheck rfl rfl rfl (by simp [alive, obj]) ?_
      refine RunR.fieldAddr (l := .ptr 4 w4 s14_1.toNat 0) fo53_0 rfl rfl rfl rfl (by simp [fieldL, obj]) ?_
      refine RunR.load1O tk3 rfl rfl rfl (obj_of rfl) (at_get hx2) rfl ?_
      refine RunR.call rfl rfl rfl (fun H => c_set_Has N c1_4 x2.Peer y3 hy3 H) ?_
      refine RunR.assign rfl rfl rfl ?_
      refine RunR.doneQ (.cons rfl (.cons rfl (.cons rfl (.cons rfl (.cons rfl (.cons rfl .nil)))))) ?_
      refine Wp.seq ?_
      refine Wp.go false none [[], [], [(36, true)], [(36, true)], [(36, true)], [(36, true)], [(36, true)], [(36, true)], [(36, true)], [(43, false), (36, true)], [(43, false), (36, true)], [(43, false), (36, true)], [(43, false), (36, true)], [(43, false), (36, true)], [(43, false), (36, true)], [(43, false), (36, true)], [(50, true), (43, false), (36, true)], [(50, true), (43, false), (36, true)], [(50, true), (43, false), (36, true)], [(50, true), (43, false), (36, true)], [(43, false), (36, true)], [(36, true)], [], []] [] [0, 2, 4, 5, 6, 13, 14] mixed rfl rfl (by kernel_rfl) ?_ -- region 6
      refine RunR.move rfl rfl rfl ?_
      refine RunR.move rfl rfl rfl ?_
      refine RunR.move rfl rfl rfl ?_
      refine RunR.nilCheck rfl rfl rfl rfl ?_
      refine RunR.fieldAddr fo64_0 rfl rfl rfl rfl rfl ?_
      refine RunR.fieldAddr fo29_1 rfl rfl rfl rfl rfl ?_
      refine RunR.load1 tk26 rfl rfl rfl rfl ?_
      refine RunR.int rfl rfl rfl rfl rfl ?_
      refine RunR.move rfl rfl rfl ?_
      refine RunR.move rfl rfl rfl ?_
      refine RunR.nilCheck rfl rfl rfl rfl ?_
      refine RunR.fieldAddr fo64_0 rfl rfl rfl rfl rfl ?_
      refine RunR.fieldAddr fo29_1 rfl rfl rfl rfl rfl ?_
      refine RunR.load1 tk26 rfl rfl rfl rfl ?_
      refine RunR.int rfl rfl rfl rfl rfl ?_
      refine RunR.move rfl rfl rfl ?_
      refine RunR.move rfl rfl rfl ?_
      refine RunR.nilCheck rfl rfl rfl (by simp [alive, obj]) ?_
      refine RunR.fieldAddr (l := .ptr 4 w4 s14_1.toNat 3) fo53_3 rfl rfl rfl rfl (by simp [fieldL, obj]) ?_
      refine RunR.load1O tk4 rfl rfl rfl (obj_of rfl) (at_get hx2) rfl ?_
      refine RunR.pickAnd rfl rfl rfl rfl ?_
      refine RunR.pickOr rfl rfl rfl rfl ?_
      refine RunR.pickAnd rfl rfl rfl rfl ?_
      refine RunR.assign rfl rfl rfl ?_
      refine RunR.doneQ (.cons rfl (.cons rfl (.cons rfl (.cons rfl (.cons rfl (.cons rfl (.cons rfl .nil))))))) ?_
      refine Wp.seq ?_
      refine Wp.seq ?_
      refine Wp.go false none [[], [], [], [], [], [(62, true)], [(62, true)], [(62, true)], [(62, true)], [], [], [(68, true)], [(68, true)], []] [] [0, 2, 4, 5, 13, 14, 71] mixed rfl rfl (by kernel_rfl) ?_ -- region 7
      refine RunR.move rfl rfl rfl ?_
      refine RunR.nilCheck rfl rfl rfl (by simp [alive, obj]) ?_
      refine RunR.fieldAddr (l := .ptr 4 w4 s14_1.toNat 6) fo53_6 rfl rfl rfl rfl (by simp [fieldL, obj]) ?_
      refine RunR.load1O tk4 rfl rfl rfl (obj_of rfl) (at_get hx2) rfl ?_
      refine RunR.move rfl rfl rfl ?_
      refine RunR.move rfl rfl rfl ?_
      refine RunR.nilCheck rfl rfl rfl (by simp [alive, obj]) ?_
      refine RunR.fieldAddr (l := .ptr 4 w4 s14_1.toNat 7) fo53_7 rfl rfl rfl rfl (by simp [fieldL, obj]) ?_
      refine RunR.load1O tk4 rfl rfl rfl (obj_of rfl) (at_get hx2) rfl ?_
      refine RunR.pickAnd rfl rfl rfl rfl ?_
      refine RunR.move rfl rfl rfl ?_
      refine RunR.move rfl rfl rfl ?_
      refine RunR.not rfl rfl rfl ?_
      refine RunR.pickAnd rfl rfl rfl rfl ?_
      refine RunR.doneQ (.cons rfl (.cons rfl (.cons rfl (.cons rfl (.cons rfl (.cons rfl (.cons rfl .nil))))))) ?_
      obtain ⟨z4, hz4, h⟩ := bind_some h
      refine Wp.fragN (fun S => ∃ wz4_2, ∃ S', St.Weak ⟨Try.prog, 135, Γ⟩ S S' ∧ S' = ⟨[(0, .c (.ptr 1 0 0 0)), (2, .c (B s2_1)), (4, .c (.ptr 4 w4 s14_1.toNat 0)), (5, .c (B y3)), (13, .c (I (l4.length : Int))), (14, .c (I s14_1))], [.live 0 5 [[I c0_0, I c0_1, nilS, I c0_3, nilS]], .live 0 6 [[I c1_0, I c1_1, .sl 4 w4 0 z4.2.length, I c1_3, .slv (c1_4.map eI), .sl 2 wz4_2 0 z4.1.length]], .live wz4_2 5 (z4.1.map eMail), .live 0 5 [[I c3_0, I c3_1, .slv (c3_2.map eSide), I c3_3, .slv (c3_4.map eI)]], .live w4 8 (z4.2.map eSide), .live 0 3 [[I c5_0, I c5_1, .sl 4 w4 0 z4.2.length]]]⟩) ?_ ?_
      · replace h := hz4
        refine Wp.condM h rfl (fun hc4 h => ?_) (fun hc4 h => ?_)
        · refine Wp.seq ?_
          refine Wp.text [0, 2, 4, 5, 13, 14] rfl rfl ?_ -- region 8
          refine TextR.move rfl ?_
          refine TextR.nilCheck rfl (by simp [alive, obj]) ?_
          refine TextR.fieldAddr (l := .ptr 4 w4 s14_1.toNat 6) fo53_6 rfl rfl (by simp [fieldL, obj]) ?_
          refine TextR.storeO { x2 with Bottle := false } tk4 rfl rfl rfl (obj_of rfl) rfl (at_get hx2) rfl rfl (.succ (.succ (.succ (.succ .zero)))) ?_
          refine TextR.done (.cons rfl (.cons rfl (.cons rfl (.cons rfl (.cons rfl (.cons rfl .nil)))))) ?_
          refine Wp.weak (eqW (S' := ⟨[(0, .c (.ptr 1 0 0 0)), (2, .c (B s2_1)), (4, .c (.ptr 4 w4 s14_1.toNat 0)), (5, .c (B y3)), (13, .c (I (l4.length : Int))), (14, .c (I s14_1))], [.live 0 5 [[I c0_0, I c0_1, nilS, I c0_3, nilS]], .live 0 6 [[I c1_0, I c1_1, .sl 4 w4 0 (l4_1.set s14_1.toNat { x2 with Bottle := false }).length, I c1_3, .slv (c1_4.map eI), .sl 2 wh2_1 0 l2_1.length]], .live wh2_1 5 (l2_1.map eMail), .live 0 5 [[I c3_0, I c3_1, .slv (c3_2.map eSide), I c3_3, .slv (c3_4.map eI)]], .live w4 8 ((l4_1.set s14_1.toNat { x2 with Bottle := false }).map eSide), .live 0 3 [[I c5_0, I c5_1, .sl 4 w4 0 (l4_1.set s14_1.toNat { x2 with Bottle := false }).length]]]⟩) (by first | rfl | (simp only [List.length_set]; done) | (simp only [List.length_set]; rfl))) ?_
          obtain ⟨y5, hy5, h⟩ := bind_some h
          refine Wp.text [0, 2, 4, 5, 13, 14] rfl rfl ?_ -- region 9
          refine TextR.move rfl ?_
          refine TextR.move rfl ?_
          refine TextR.nilCheck rfl (by simp [alive, obj]) ?_
          refine TextR.loadNO tk53 rfl (obj_of rfl) (at_set (at_get hx2)) rfl ?_
          refine TextR.call rfl rfl (by exact c_drink_drinker_send_3 N { x2 with Bottle := false } 3 c0_0 c0_1 c0_3 c1_0 c1_1 c1_3 c1_4 l2_1 c3_0 c3_1 c3_2 c3_3 c3_4 (l4_1.set s14_1.toNat { x2 with Bottle := false }) c5_0 c5_1 y5 hy5) (fun x H' hk => ?_)
          obtain ⟨rfl, rfl⟩ := hk
          refine TextR.done (.cons rfl (.cons rfl (.cons rfl (.cons rfl (.cons rfl (.cons rfl .nil)))))) ?_
          obtain rfl := Option.some.inj h
          exact ⟨_, _, (keepW (live := [0, 2, 4, 5, 13, 14]) (.cons rfl (.cons rfl (.cons rfl (.cons rfl (.cons rfl (.cons rfl .nil))))))), rfl⟩
        · refine Wp.skip ?_
          obtain rfl := Option.some.inj h
          exact ⟨_, _, (keepW (live := [0, 2, 4, 5, 13, 14]) (.cons rfl (.cons rfl (.cons rfl (.cons rfl (.cons rfl (.cons rfl .nil))))))), rfl⟩
      rintro _ ⟨wz4_2, S', hw, rfl⟩
      clear hz4
      refine Wp.weak hw ?_
      refine Wp.seq ?_
      refine Wp.seq ?_
      obtain ⟨x6, hx6, h⟩ := bind_some h
      obtain ⟨x7, hx7, h⟩ := bind_some h
      refine Wp.go false none [[], [], [], [], [], [], [], [(86, true)], [], [], [(89, true)], [(89, true)], [(89, true)], [(89, true)], [], [], [(95, true)], [(95, true)], [(95, true)], [(95, true)], [(95, true)], []] [] [0, 2, 4, 5, 13, 14, 101] mixed rfl rfl (by kernel_rfl) ?_ -- region 10
      refine RunR.move rfl rfl rfl ?_
      refine RunR.nilCheck rfl rfl rfl rfl ?_
      refine RunR.fieldAddr fo64_0 rfl rfl rfl rfl rfl ?_
      refine RunR.fieldAddr fo29_1 rfl rfl rfl rfl rfl ?_
      refine RunR.load1 tk26 rfl rfl rfl rfl ?_
      refine RunR.int rfl rfl rfl rfl rfl ?_
      refine RunR.move rfl rfl rfl ?_
      refine RunR.move rfl rfl rfl ?_
      refine RunR.pickAnd rfl rfl rfl rfl ?_
      refine RunR.move rfl rfl rfl ?_
      refine RunR.move rfl rfl rfl ?_
      refine RunR.nilCheck rfl rfl rfl (by simp [alive, obj]) ?_
      refine RunR.fieldAddr (l := .ptr 4 w4 s14_1.toNat 7) fo53_7 rfl rfl rfl rfl (by simp [fieldL, obj]) ?_
      refine RunR.load1OG tk4 rfl rfl rfl (obj_of rfl) (ifT hx6 gT) rfl ?_
      refine RunR.pickAnd rfl rfl rfl rfl ?_
      refine RunR.move rfl rfl rfl ?_
      refine RunR.move rfl rfl rfl ?_
      refine RunR.nilCheck rfl rfl rfl (by simp [alive, obj]) ?_
      refine RunR.fieldAddr (l := .ptr 4 w4 s14_1.toNat 6) fo53_6 rfl rfl rfl rfl (by simp [fieldL, obj]) ?_
      refine RunR.load1OG tk4 rfl rfl rfl (obj_of rfl) (ifT hx7 gT) rfl ?_
      refine RunR.not rfl rfl rfl ?_
      refine RunR.pickAnd rfl rfl rfl rfl ?_
      refine RunR.doneQ (.cons rfl (.cons rfl (.cons rfl (.cons rfl (.cons rfl (.cons rfl (.cons rfl .nil))))))) ?_
      refine Wp.condM h rfl (fun hc3 h => ?_) (fun hc3 h => ?_)
      · refine Wp.seq ?_
        obtain ⟨x8, hx8, h⟩ := bind_some h
        refine Wp.text [0, 2, 4, 5, 13, 14] rfl rfl ?_ -- region 11
        refine TextR.move rfl ?_
        refine TextR.nilCheck rfl (by simp [alive, obj]) ?_
        refine TextR.fieldAddr (l := .ptr 4 w4 s14_1.toNat 7) fo53_7 rfl rfl (by simp [fieldL, obj]) ?_
        refine TextR.storeO { x8 with Ask := false } tk4 rfl rfl rfl (obj_of rfl) rfl hx8 rfl rfl (.succ (.succ (.succ (.succ .zero)))) ?_
        refine TextR.done (.cons rfl (.cons rfl (.cons rfl (.cons rfl (.cons rfl (.cons rfl .nil)))))) ?_
        refine Wp.weak (eqW (S' := ⟨[(0, .c (.ptr 1 0 0 0)), (2, .c (B s2_1)), (4, .c (.ptr 4 w4 s14_1.toNat 0)), (5, .c (B y3)), (13, .c (I (l4.length : Int))), (14, .c (I s14_1))], [.live 0 5 [[I c0_0, I c0_1, nilS, I c0_3, nilS]], .live 0 6 [[I c1_0, I c1_1, .sl 4 w4 0 (z4.2.set s14_1.toNat { x8 with Ask := false }).length, I c1_3, .slv (c1_4.map eI), .sl 2 wz4_2 0 z4.1.length]], .live wz4_2 5 (z4.1.map eMail), .live 0 5 [[I c3_0, I c3_1, .slv (c3_2.map eSide), I c3_3, .slv (c3_4.map eI)]], .live w4 8 ((z4.2.set s14_1.toNat { x8 with Ask := false }).map eSide), .live 0 3 [[I c5_0, I c5_1, .sl 4 w4 0 (z4.2.set s14_1.toNat { x8 with Ask := false }).length]]]⟩) (by first | rfl | (simp only [List.length_set]; done) | (simp only [List.length_set]; rfl))) ?_
        obtain ⟨y9, hy9, h⟩ := bind_some h
        refine Wp.text [0, 2, 4, 5, 13, 14] rfl rfl ?_ -- region 12
        refine TextR.move rfl ?_
        refine TextR.move rfl ?_
        refine TextR.nilCheck rfl (by simp [alive, obj]) ?_
        refine TextR.loadNO tk53 rfl (obj_of rfl) (at_set hx8) rfl ?_
        refine TextR.call rfl rfl (by exact c_drink_drinker_send_3 N { x8 with Ask := false } 4 c0_0 c0_1 c0_3 c1_0 c1_1 c1_3 c1_4 z4.1 c3_0 c3_1 c3_2 c3_3 c3_4 (z4.2.set s14_1.toNat { x8 with Ask := false }) c5_0 c5_1 y9 hy9) (fun x H' hk => ?_)
        obtain ⟨rfl, rfl⟩ := hk
        refine TextR.done (.cons rfl (.cons rfl (.cons rfl (.cons rfl (.cons rfl (.cons rfl .nil)))))) ?_
        refine Wp.go false none [[], [], [(111, true)], [(111, true)], [(111, true)], [(114, false), (111, true)], [(114, false), (111, true)], [(114, false), (111, true)], [(114, false), (111, true)], [(111, true)], [], []] [] [0, 2, 13, 14] mixed rfl rfl (by kernel_rfl) ?_ -- region 13
        refine RunR.move rfl rfl rfl ?_
        refine RunR.move rfl rfl rfl ?_
        refine RunR.move rfl rfl rfl ?_
        refine RunR.not rfl rfl rfl ?_
        refine RunR.move rfl rfl rfl ?_
        refine RunR.move rfl rfl rfl ?_
        refine RunR.nilCheck rfl rfl rfl (by simp [alive, obj]) ?_
        refine RunR.fieldAddr (l := .ptr 4 w4 s14_1.toNat 6) fo53_6 rfl rfl rfl rfl (by simp [fieldL, obj]) ?_
        refine RunR.load1O tk4 rfl rfl rfl (obj_of rfl) (at_set hx8) rfl ?_
        refine RunR.pickOr rfl rfl rfl rfl ?_
        refine RunR.pickAnd rfl rfl rfl rfl ?_
        refine RunR.assign rfl rfl rfl ?_
        refine RunR.doneQ (.cons rfl (.cons rfl (.cons rfl (.cons rfl .nil)))) ?_
        refine Wp.text [0, 2, 13, 14] rfl rfl ?_ -- region 14
        refine TextR.int rfl rfl rfl ?_
        refine TextR.move rfl ?_
        refine TextR.done (.cons rfl (.cons rfl (.cons rfl (.cons rfl .nil)))) ?_
        exact ⟨m1, Nat.lt_succ_self _, _, (keepW (live := [0, 2, 13, 14]) (.cons rfl (.cons rfl (.cons rfl (.cons rfl .nil))))), _, _, _, _, _, h, rfl⟩
      · refine Wp.skip ?_
        obtain ⟨x10, hx10, h⟩ := bind_some h
        refine Wp.go false none [[], [], [(111, true)], [(111, true)], [(111, true)], [(114, false), (111, true)], [(114, false), (111, true)], [(114, false), (111, true)], [(114, false), (111, true)], [(111, true)], [], []] [] [0, 2, 13, 14] mixed rfl rfl (by kernel_rfl) ?_ -- region 13
        refine RunR.move rfl rfl rfl ?_
        refine RunR.move rfl rfl rfl ?_
        refine RunR.move rfl rfl rfl ?_
        refine RunR.not rfl rfl rfl ?_
        refine RunR.move rfl rfl rfl ?_
        refine RunR.move rfl rfl rfl ?_
        refine RunR.nilCheck rfl rfl rfl (by simp [alive, obj]) ?_
        refine RunR.fieldAddr (l := .ptr 4 w4 s14_1.toNat 6) fo53_6 rfl rfl rfl rfl (by simp [fieldL, obj]) ?_
        refine RunR.load1OG tk4 rfl rfl rfl (obj_of rfl) (ifT hx10 (fun hb => (gAnd (gT (gN hb)) (gF hb)))) rfl ?_
        refine RunR.pickOr rfl rfl rfl rfl ?_
        refine RunR.pickAnd rfl rfl rfl rfl ?_
        refine RunR.assign rfl rfl rfl ?_
        refine RunR.doneQ (.cons rfl (.cons rfl (.cons rfl (.cons rfl .nil)))) ?_
        refine Wp.text [0, 2, 13, 14] rfl rfl ?_ -- region 14
        refine TextR.int rfl rfl rfl ?_
        refine TextR.move rfl ?_
        refine TextR.done (.cons rfl (.cons rfl (.cons rfl (.cons rfl .nil)))) ?_
        exact ⟨m1, Nat.lt_succ_self _, _, (keepW (live := [0, 2, 13, 14]) (.cons rfl (.cons rfl (.cons rfl (.cons rfl .nil))))), _, _, _, _, _, h, rfl⟩
    · refine Wp.exit ?_
      obtain rfl := Option.some.inj h
      exact ⟨_, _, (keepW (live := [0, 2]) (.cons rfl (.cons rfl .nil))), rfl⟩
  rintro _ ⟨wz1_2, S', hw, rfl⟩
  clear hz1
  refine Wp.weak hw ?_
  refine Wp.seq ?_
  refine Wp.go false none [[], [], [], [], [], [], [], [(128, true)], []] [] [0, 130] mixed rfl rfl (by kernel_rfl) ?_ -- region 15
  refine RunR.move rfl rfl rfl ?_
  refine RunR.nilCheck rfl rfl rfl rfl ?_
  refine RunR.fieldAddr fo64_0 rfl rfl rfl rfl rfl ?_
  refine RunR.fieldAddr fo29_1 rfl rfl rfl rfl rfl ?_
  refine RunR.load1 tk26 rfl rfl rfl rfl ?_
  refine RunR.int rfl rfl rfl rfl rfl ?_
  refine RunR.move rfl rfl rfl ?_
  refine RunR.move rfl rfl rfl ?_
  refine RunR.pickAnd rfl rfl rfl rfl ?_
  refine RunR.doneQ (.cons rfl (.cons rfl .nil)) ?_
  refine Wp.condM h rfl (fun hc1 h => ?_) (fun hc1 h => ?_)
  · refine Wp.text [] rfl rfl ?_ -- region 16
    refine TextR.move rfl ?_
    refine TextR.nilCheck rfl rfl ?_
    refine TextR.fieldAddr fo64_0 rfl rfl rfl ?_
    refine TextR.fieldAddr fo29_1 rfl rfl rfl ?_
    refine TextR.storeF (r' := [I c1_0, I c1_1, .sl 4 w4 0 z1.2.1.length, I 2, .slv (c1_4.map eI), .sl 2 wz1_2 0 z1.1.length]) tk26 rfl rfl rfl rfl rfl rfl rfl (.succ .zero) ?_
    refine TextR.done .nil ?_
    obtain rfl := Option.some.inj h
    exact Ret.zeroN rfl  ⟨wz1_2, rfl, _, rfl⟩
  · refine Wp.skip ?_
    obtain rfl := Option.some.inj h
    exact Ret.zeroN rfl  ⟨wz1_2, rfl, _, rfl⟩
theorem c_drink_drinker_bottles_3 (N : Nat) (c0_0 : Int) (c0_1 : Int) (c0_3 : Int) (c1_0 : Int) (c1_1 : Int) (c1_3 : Int) (c1_4 : List Int) (l2 : List TMail) (c3_0 : Int) (c3_1 : Int) (c3_2 : List TSide) (c3_3 : Int) (c3_4 : List Int) (l4 : List TSide) (c5_0 : Int) (c5_1 : Int) {w2 : Nat} {w4 : Nat} (r : Int × (List TMail) × (List TSide)) (h : drink_drinker_bottles_3 N c0_0 c0_1 c0_3 c1_0 c1_1 c1_3 c1_4 l2 c3_0 c3_1 c3_2 c3_3 c3_4 l4 c5_0 c5_1 = some r) : Nx.Call Try.prog 57 [.c (.ptr 1 0 0 0)] [.live 0 5 [[I c0_0, I c0_1, nilS, I c0_3, nilS]], .live 0 6 [[I c1_0, I c1_1, .sl 4 w4 0 l4.length, I c1_3, .slv (c1_4.map eI), .sl 2 w2 0 l2.length]], .live w2 5 (l2.map eMail), .live 0 5 [[I c3_0, I c3_1, .slv (c3_2.map eSide), I c3_3, .slv (c3_4.map eI)]], .live w4 8 (l4.map eSide), .live 0 3 [[I c5_0, I c5_1, .sl 4 w4 0 l4.length]]] fun r' H' => ∃ u : Nat, r' = .tup [] ∧ H' = [.live 0 5 [[I c0_0, I c0_1, nilS, I c0_3, nilS]], .live 0 6 [[I c1_0, I c1_1, .sl 4 w4 0 r.2.2.length, I r.1, .slv (c1_4.map eI), .sl 2 u 0 r.2.1.length]], .live u 5 (r.2.1.map eMail), .live 0 5 [[I c3_0, I c3_1, .slv (c3_2.map eSide), I c3_3, .slv (c3_4.map eI)]], .live w4 8 (r.2.2.map eSide), .live 0 3 [[I c5_0, I c5_1, .sl 4 w4 0 r.2.2.length]]] := Call.trimE (R := fun u : Nat => .tup []) (G := fun u : Nat => [.live 0 5 [[I c0_0, I c0_1, nilS, I c0_3, nilS]], .live 0 6 [[I c1_0, I c1_1, .sl 4 w4 0 r.2.2.length, I r.1, .slv (c1_4.map eI), .sl 2 u 0 r.2.1.length]], .live u 5 (r.2.1.map eMail), .live 0 5 [[I c3_0, I c3_1, .slv (c3_2.map eSide), I c3_3, .slv (c3_4.map eI)]], .live w4 8 (r.2.2.map eSide), .live 0 3 [[I c5_0, I c5_1, .sl 4 w4 0 r.2.2.length]]]) (fun _ => by simp) (fun _ => (by first | rfl | simp [-List.map_set])) (fun _ => (by first | rfl | simp [-List.map_set])) (w_drink_drinker_bottles_3 N c0_0 c0_1 c0_3 c1_0 c1_1 c1_3 c1_4 l2 c3_0 c3_1 c3_2 c3_3 c3_4 l4 c5_0 c5_1 r h)
-- (*narthex/drink.drinker).once
theorem w_drink_drinker_once_2 (N : Nat) (c0_0 : Int) (c0_1 : Int) (c0_3 : Int) (c1_0 : Int) (c1_1 : Int) (c1_2 : List TSide) (c1_3 : Int) (c1_4 : List Int) (l2 : List TMail) (c3_0 : Int) (c3_1 : Int) (c3_2 : List TSide) (c3_3 : Int) (c3_4 : List Int) {w2 : Nat} (r : Int × Int × (List TSide) × Int × (List TMail)) (h : drink_drinker_once_2 N c0_0 c0_1 c0_3 c1_0 c1_1 c1_2 c1_3 c1_4 l2 c3_0 c3_1 c3_2 c3_3 c3_4 = some r) : Nx.Call Try.prog 30 [.c (.ptr 1 0 0 0)] [.live 0 5 [[I c0_0, I c0_1, nilS, I c0_3, nilS]], .live 0 6 [[I c1_0, I c1_1, .slv (c1_2.map eSide), I c1_3, .slv (c1_4.map eI), .sl 2 w2 0 l2.length]], .live w2 5 (l2.map eMail), .live 0 5 [[I c3_0, I c3_1, .slv (c3_2.map eSide), I c3_3, .slv (c3_4.map eI)]]] fun r' H' => ∃ u : Nat, r' = .tup [] ∧ ∃ junk, H' = [.live 0 5 [[I c0_0, I c0_1, nilS, I c0_3, nilS]], .live 0 6 [[I r.1, I r.2.1, .slv (r.2.2.1.map eSide), I r.2.2.2.1, .slv (c1_4.map eI), .sl 2 u 0 r.2.2.2.2.length]], .live u 5 (r.2.2.2.2.map eMail), .live 0 5 [[I c3_0, I c3_1, .slv (c3_2.map eSide), I c3_3, .slv (c3_4.map eI)]]] ++ junk := by
  refine Nx.Call.of_body Try.func30 rfl en30 Try.ntmps30 rfl (fun Γ hok => ?_)
  refine Wp.atEnd ?_
  unfold drink_drinker_once_2 at h
  refine Wp.seq ?_
  refine Wp.text [0, 2] rfl rfl ?_ -- region 0
  refine TextR.assign rfl ?_
  refine TextR.done (.cons rfl (.cons rfl .nil)) ?_
  refine Wp.seq ?_
  obtain ⟨z1, hz1, h⟩ := bind_some h
  refine Wp.fragN (fun S => ∃ S', St.Weak ⟨Try.prog, 85, Γ⟩ S S' ∧ S' = ⟨[(0, .c (.ptr 1 0 0 0))], [.live 0 5 [[I c0_0, I c0_1, nilS, I c0_3, nilS]], .live 0 6 [[I c1_0, I z1, .slv (c1_2.map eSide), I c1_3, .slv (c1_4.map eI), .sl 2 w2 0 l2.length]], .live w2 5 (l2.map eMail), .live 0 5 [[I c3_0, I c3_1, .slv (c3_2.map eSide), I c3_3, .slv (c3_4.map eI)]]]⟩) ?_ ?_
  · replace h := hz1
    refine Wp.block ?_
    refine Wp.seq ?_
    refine Wp.go false none [[], [], [], [], [], [], [], [(13, true)], [(13, true)], [(13, true)], [(13, true)], [(13, true)], [(13, true)], [(13, true)], [], []] [] [0, 2, 6] mixed rfl rfl (by kernel_rfl) ?_ -- region 1
    refine RunR.move rfl rfl rfl ?_
    refine RunR.nilCheck rfl rfl rfl rfl ?_
    refine RunR.fieldAddr fo64_0 rfl rfl rfl rfl rfl ?_
    refine RunR.fieldAddr fo29_1 rfl rfl rfl rfl rfl ?_
    refine RunR.load1 tk26 rfl rfl rfl rfl ?_
    refine RunR.int rfl rfl rfl rfl rfl ?_
    refine RunR.move rfl rfl rfl ?_
    refine RunR.move rfl rfl rfl ?_
    refine RunR.nilCheck rfl rfl rfl rfl ?_
    refine RunR.fieldAddr fo64_0 rfl rfl rfl rfl rfl ?_
    refine RunR.fieldAddr fo29_0 rfl rfl rfl rfl rfl ?_
    refine RunR.fieldAddr fo25_1 rfl rfl rfl rfl rfl ?_
    refine RunR.load1 tk22 rfl rfl rfl rfl ?_
    refine RunR.int rfl rfl rfl rfl rfl ?_
    refine RunR.pickAnd rfl rfl rfl rfl ?_
    refine RunR.assign rfl rfl rfl ?_
    refine RunR.doneQ (.cons rfl (.cons rfl (.cons rfl .nil))) ?_
    refine Wp.condM h rfl (fun hc2 h => ?_) (fun hc2 h => ?_)
    · refine Wp.text [0] rfl rfl ?_ -- region 2
      refine TextR.move rfl ?_
      refine TextR.nilCheck rfl rfl ?_
      refine TextR.fieldAddr fo64_0 rfl rfl rfl ?_
      refine TextR.fieldAddr fo29_0 rfl rfl rfl ?_
      refine TextR.fieldAddr fo25_1 rfl rfl rfl ?_
      refine TextR.storeF (r' := [I c1_0, I 1, .slv (c1_2.map eSide), I c1_3, .slv (c1_4.map eI), .sl 2 w2 0 l2.length]) tk22 rfl rfl rfl rfl rfl rfl rfl (.succ .zero) ?_
      refine TextR.done (.cons rfl .nil) ?_
      obtain rfl := Option.some.inj h
      exact ⟨_, (keepW (live := [0]) (.cons rfl .nil)), rfl⟩
    · refine Wp.seq ?_
      obtain ⟨y2, hy2, h⟩ := bind_some h
      refine Wp.go false none [[], [], [], [], [], [], [], [], [(35, true)], [(35, true)], [(35, true)], [(35, true)], [(35, true)], [(35, true)], [], [], [(43, true)], [(43, true)], [(43, true)], [(43, true)], [(43, true)], [(43, true)], [(43, true)], [(43, true)], [(43, true)], [], []] [] [0, 27] mixed rfl rfl (by kernel_rfl) ?_ -- region 3
      refine RunR.move rfl rfl rfl ?_
      refine RunR.nilCheck rfl rfl rfl rfl ?_
      refine RunR.fieldAddr fo64_0 rfl rfl rfl rfl rfl ?_
      refine RunR.fieldAddr fo29_0 rfl rfl rfl rfl rfl ?_
      refine RunR.fieldAddr fo25_1 rfl rfl rfl rfl rfl ?_
      refine RunR.load1 tk22 rfl rfl rfl rfl ?_
      refine RunR.int rfl rfl rfl rfl rfl ?_
      refine RunR.move rfl rfl rfl ?_
      refine RunR.move rfl rfl rfl ?_
      refine RunR.nilCheck rfl rfl rfl rfl ?_
      refine RunR.fieldAddr fo64_0 rfl rfl rfl rfl rfl ?_
      refine RunR.fieldAddr fo29_1 rfl rfl rfl rfl rfl ?_
      refine RunR.load1 tk26 rfl rfl rfl rfl ?_
      refine RunR.int rfl rfl rfl rfl rfl ?_
      refine RunR.pickAnd rfl rfl rfl rfl ?_
      refine RunR.move rfl rfl rfl ?_
      refine RunR.move rfl rfl rfl ?_
      refine RunR.nilCheck rfl rfl rfl rfl ?_
      refine RunR.fieldAddr fo64_0 rfl rfl rfl rfl rfl ?_
      refine RunR.fieldAddr fo29_0 rfl rfl rfl rfl rfl ?_
      refine RunR.fieldAddr fo25_2 rfl rfl rfl rfl rfl ?_
      refine RunR.load1 tk23 rfl rfl rfl rfl ?_
      refine RunR.move rfl rfl rfl ?_
      refine RunR.callG rfl rfl rfl (fun hb H => c_slices_ContainsFunc_Side_4 N c1_2 y2 (ifT hy2 gT hb) H) ?_
      refine RunR.not rfl rfl rfl ?_
      refine RunR.pickAnd rfl rfl rfl rfl ?_
      refine RunR.assign rfl rfl rfl ?_
      refine RunR.doneQ (.cons rfl (.cons rfl .nil)) ?_
      refine Wp.condM h rfl (fun hc3 h => ?_) (fun hc3 h => ?_)
      · refine Wp.text [0] rfl rfl ?_ -- region 4
        refine TextR.move rfl ?_
        refine TextR.nilCheck rfl rfl ?_
        refine TextR.fieldAddr fo64_0 rfl rfl rfl ?_
        refine TextR.fieldAddr fo29_0 rfl rfl rfl ?_
        refine TextR.fieldAddr fo25_1 rfl rfl rfl ?_
        refine TextR.storeF (r' := [I c1_0, I 0, .slv (c1_2.map eSide), I c1_3, .slv (c1_4.map eI), .sl 2 w2 0 l2.length]) tk22 rfl rfl rfl rfl rfl rfl rfl (.succ .zero) ?_
        refine TextR.done (.cons rfl .nil) ?_
        obtain rfl := Option.some.inj h
        exact ⟨_, (keepW (live := [0]) (.cons rfl .nil)), rfl⟩
      · refine Wp.skip ?_
        obtain rfl := Option.some.inj h
        exact ⟨_, (keepW (live := [0]) (.cons rfl .nil)), rfl⟩
  rintro _ ⟨S', hw, rfl⟩
  clear hz1
  refine Wp.weak hw ?_
  refine Wp.seq ?_
  obtain ⟨y3, hy3, h⟩ := bind_some h
  refine Wp.text [0, 3, 4] rfl rfl ?_ -- region 5
  refine TextR.move rfl ?_
  refine TextR.nilCheck rfl rfl ?_
  refine TextR.fieldAddr fo64_0 rfl rfl rfl ?_
  refine TextR.fieldAddr fo29_0 rfl rfl rfl ?_
  refine TextR.loadN (cs := [I c1_0, I z1, .slv (c1_2.map eSide)]) tk25 rfl rfl ?_
  refine TextR.call rfl rfl (by exact o_dine_Fire N (⟨c1_0, z1, c1_2⟩ : TDiner) y3 hy3 (H1 := [.live 0 5 [[I c0_0, I c0_1, nilS, I c0_3, nilS]], .live 0 6 [[I c1_0, I z1, .slv (c1_2.map eSide), I c1_3, .slv (c1_4.map eI), .sl 2 w2 0 l2.length]], .live w2 5 (l2.map eMail), .live 0 5 [[I c3_0, I c3_1, .slv (c3_2.map eSide), I c3_3, .slv (c3_4.map eI)]], .live 0 8 (y3.1.Sides.map eSide)]) 4 rfl rfl) (fun x H' hk => ?_)
  obtain ⟨rfl, rfl⟩ := hk
  refine TextR.move rfl ?_
  refine TextR.extract rfl rfl ?_
  refine TextR.extract rfl rfl ?_
  refine TextR.extract rfl rfl ?_
  refine TextR.alloc 5 zc25 rfl rfl (.cons (.cons (.cons (.cons (.cons .nil))))) ?_
  refine TextR.store1 tk25 rfl rfl rfl rfl rfl rfl (.succ (.succ (.succ (.succ (.succ .zero))))) ?_
  refine TextR.assign rfl ?_
  refine TextR.assign rfl ?_
  refine TextR.done (.cons rfl (.cons rfl (.cons rfl .nil))) ?_
  refine Wp.seq ?_
  refine Wp.text [0, 4] rfl rfl ?_ -- region 6
  refine TextR.move rfl ?_
  refine TextR.loadN (cs := [I y3.1.ID, I y3.1.Phase, .sl 4 0 0 y3.1.Sides.length]) tk25 rfl rfl ?_
  refine TextR.nilCheck rfl rfl ?_
  refine TextR.fieldAddr fo64_0 rfl rfl rfl ?_
  refine TextR.fieldAddr fo29_0 rfl rfl rfl ?_
  refine TextR.storeF (r' := [I y3.1.ID, I y3.1.Phase, .sl 4 0 0 y3.1.Sides.length, I c1_3, .slv (c1_4.map eI), .sl 2 w2 0 l2.length]) tk25 rfl rfl rfl rfl rfl rfl rfl (.succ .zero) ?_
  refine TextR.done (.cons rfl (.cons rfl .nil)) ?_
  refine Wp.seq ?_
  obtain ⟨x4, hx4, h⟩ := bind_some h
  refine Wp.text [0] rfl rfl ?_ -- region 7
  refine TextR.move rfl ?_
  refine TextR.move rfl ?_
  refine TextR.nilCheck rfl rfl ?_
  refine TextR.fieldAddr fo64_1 rfl rfl rfl ?_
  refine TextR.load1 tk32 rfl rfl ?_
  refine TextR.move rfl ?_
  refine TextR.appendM eMail l2 y3.2.1 x4 (app_eq hx4) se32 rfl (obj_of rfl) rfl rfl (fun _ => rfl) rfl (app_len hx4) (.succ (.succ .zero)) ?_
  refine TextR.nilCheck rfl rfl ?_
  refine TextR.fieldAddr fo64_1 rfl rfl rfl ?_
  refine TextR.storeF (r' := [I y3.1.ID, I y3.1.Phase, .sl 4 0 0 y3.1.Sides.length, I c1_3, .slv (c1_4.map eI), .sl 2 (w2 + 1) 0 x4.length]) tk32 rfl rfl rfl rfl rfl rfl rfl (.succ .zero) ?_
  refine TextR.done (.cons rfl .nil) ?_
  obtain ⟨y5, hy5, h⟩ := bind_some h
  refine Wp.text [] rfl rfl ?_ -- region 8
  refine TextR.move rfl ?_
  refine TextR.call rfl rfl (by exact c_drink_drinker_bottles_3 N c0_0 c0_1 c0_3 y3.1.ID y3.1.Phase c1_3 c1_4 x4 c3_0 c3_1 c3_2 c3_3 c3_4 y3.1.Sides y3.1.ID y3.1.Phase y5 hy5) (fun x H' hk => ?_)
  obtain ⟨u6, rfl, rfl⟩ := hk
  refine TextR.done .nil ?_
  refine Endw.step (keepW (live := [] ) .nil) ?_
  refine Endw.step (freezeW (h := 4) (ver := 0) (rows := y5.2.2.map eSide) (e' := []) (H' := [.live 0 5 [[I c0_0, I c0_1, nilS, I c0_3, nilS]], .live 0 6 [[I y3.1.ID, I y3.1.Phase, .slv (y5.2.2.map eSide), I y5.1, .slv (c1_4.map eI), .sl 2 u6 0 y5.2.1.length]], .live u6 5 (y5.2.1.map eMail), .live 0 5 [[I c3_0, I c3_1, .slv (c3_2.map eSide), I c3_3, .slv (c3_4.map eI)]], .dead, .live 0 3 [[I y3.1.ID, I y3.1.Phase, .slv (y5.2.2.map eSide)]]]) rfl (by first | rfl | simp [-List.map_set]) (by first | rfl | simp [-List.map_set])) ?_
  refine Endw.done ?_
  obtain rfl := Option.some.inj h
  exact Ret.zeroN rfl  ⟨u6, rfl, _, rfl⟩
theorem c_drink_drinker_once_2 (N : Nat) (c0_0 : Int) (c0_1 : Int) (c0_3 : Int) (c1_0 : Int) (c1_1 : Int) (c1_2 : List TSide) (c1_3 : Int) (c1_4 : List Int) (l2 : List TMail) (c3_0 : Int) (c3_1 : Int) (c3_2 : List TSide) (c3_3 : Int) (c3_4 : List Int) {w2 : Nat} (r : Int × Int × (List TSide) × Int × (List TMail)) (h : drink_drinker_once_2 N c0_0 c0_1 c0_3 c1_0 c1_1 c1_2 c1_3 c1_4 l2 c3_0 c3_1 c3_2 c3_3 c3_4 = some r) : Nx.Call Try.prog 30 [.c (.ptr 1 0 0 0)] [.live 0 5 [[I c0_0, I c0_1, nilS, I c0_3, nilS]], .live 0 6 [[I c1_0, I c1_1, .slv (c1_2.map eSide), I c1_3, .slv (c1_4.map eI), .sl 2 w2 0 l2.length]], .live w2 5 (l2.map eMail), .live 0 5 [[I c3_0, I c3_1, .slv (c3_2.map eSide), I c3_3, .slv (c3_4.map eI)]]] fun r' H' => ∃ u : Nat, r' = .tup [] ∧ H' = [.live 0 5 [[I c0_0, I c0_1, nilS, I c0_3, nilS]], .live 0 6 [[I r.1, I r.2.1, .slv (r.2.2.1.map eSide), I r.2.2.2.1, .slv (c1_4.map eI), .sl 2 u 0 r.2.2.2.2.length]], .live u 5 (r.2.2.2.2.map eMail), .live 0 5 [[I c3_0, I c3_1, .slv (c3_2.map eSide), I c3_3, .slv (c3_4.map eI)]]] := Call.trimE (R := fun u : Nat => .tup []) (G := fun u : Nat => [.live 0 5 [[I c0_0, I c0_1, nilS, I c0_3, nilS]], .live 0 6 [[I r.1, I r.2.1, .slv (r.2.2.1.map eSide), I r.2.2.2.1, .slv (c1_4.map eI), .sl 2 u 0 r.2.2.2.2.length]], .live u 5 (r.2.2.2.2.map eMail), .live 0 5 [[I c3_0, I c3_1, .slv (c3_2.map eSide), I c3_3, .slv (c3_4.map eI)]]]) (fun _ => by simp) (fun _ => (by first | rfl | simp [-List.map_set])) (fun _ => (by first | rfl | simp [-List.map_set])) (w_drink_drinker_once_2 N c0_0 c0_1 c0_3 c1_0 c1_1 c1_2 c1_3 c1_4 l2 c3_0 c3_1 c3_2 c3_3 c3_4 r h)
-- narthex/drink.Fire
theorem w_drink_Fire (N : Nat) (a0 : TDrinker) (r : TDrinker × (List TMail) × Int) (h : drink_Fire N a0 = some r) : Nx.Call Try.prog 12 [.agg (eDrinker a0)] [] fun r' _ => r' = .tup [.agg (eDrinker r.1), .c (.slv (r.2.1.map eMail)), .c (I r.2.2)] := by
  refine Nx.Call.of_body Try.func12 rfl en12 Try.ntmps12 rfl (fun Γ hok => ?_)
  unfold drink_Fire at h
  refine Wp.seq ?_
  refine Wp.text [1, 2] rfl rfl ?_ -- region 0
  refine TextR.box (cs := [I a0.Diner.ID, I a0.Diner.Phase, .slv (a0.Diner.Sides.map eSide), I a0.Thirst, .slv (a0.Need.map eI)]) 0 rfl rfl rfl rfl .nil ?_
  refine TextR.alloc 1 zc29 rfl rfl (.cons .nil) ?_
  refine TextR.assign rfl ?_
  refine TextR.assign rfl ?_
  refine TextR.done (.cons rfl (.cons rfl .nil)) ?_
  refine Wp.seq ?_
  refine Wp.seq ?_
  obtain ⟨y1, hy1, h⟩ := bind_some h
  refine Wp.text [1, 2, 5] rfl rfl ?_ -- region 1
  refine TextR.loadN (cs := [I a0.Diner.ID, I a0.Diner.Phase, .slv (a0.Diner.Sides.map eSide), I a0.Thirst, .slv (a0.Need.map eI)]) tk29 rfl rfl ?_
  refine TextR.dcall rfl rfl (c_drink_Check N a0 y1 hy1 _) ?_
  refine TextR.assign rfl ?_
  refine TextR.done (.cons rfl (.cons rfl (.cons rfl .nil))) ?_
  refine Wp.seq ?_
  refine Wp.text [1, 2, 5, 11] rfl rfl ?_ -- region 2
  refine TextR.move rfl ?_
  refine TextR.int rfl rfl rfl ?_
  refine TextR.done (.cons rfl (.cons rfl (.cons rfl (.cons rfl .nil)))) ?_
  refine Wp.condM h rfl (fun hc1 h => ?_) (fun hc1 h => ?_)
  · refine Wp.seq ?_
    refine Wp.text [2, 3, 4] rfl rfl ?_ -- region 3
    refine TextR.build cm29 rfl ?_
    refine TextR.move rfl ?_
    refine TextR.store1 tk29 rfl rfl rfl rfl rfl rfl (.succ .zero) ?_
    refine TextR.assign rfl ?_
    refine TextR.assign rfl ?_
    refine TextR.done (.cons rfl (.cons rfl (.cons rfl .nil))) ?_
    refine Wp.weak (keepW (live := [2, 3, 4] ) (.cons rfl (.cons rfl (.cons rfl .nil)))) ?_
    refine Wp.weak (nzT (e' := [(2, .c (.ptr 1 0 0 0)), (3, .c (.slv ([].map eMail))), (4, .c (I y1))]) (H' := [.live 0 5 [[I a0.Diner.ID, I a0.Diner.Phase, .slv (a0.Diner.Sides.map eSide), I a0.Thirst, .slv (a0.Need.map eI)]], .live 0 5 [[I 0, I 0, .slv ([].map eSide), I 0, .slv ([].map eI)]]]) (by first | rfl | simp [-List.map_set]) (by first | rfl | simp [-List.map_set])) ?_
    refine Wp.ret ?_
    obtain rfl := Option.some.inj h
    exact Ret.three rfl (resV_cellN tk29 rfl rfl) (resV_tmp rfl) (resV_tmp rfl) rfl
  · refine Wp.skip ?_
    refine Wp.seq ?_
    obtain ⟨y2, hy2, h⟩ := bind_some h
    refine Wp.text [2, 6] rfl rfl ?_ -- region 4
    refine TextR.loadN (cs := [I a0.Diner.ID, I a0.Diner.Phase, .slv (a0.Diner.Sides.map eSide), I a0.Thirst, .slv (a0.Need.map eI)]) tk29 rfl rfl ?_
    refine TextR.dcall rfl rfl (c_drink_own N a0 y2 hy2 _) ?_
    refine TextR.build cm64 rfl ?_
    refine TextR.box (cs := [I y2.Diner.ID, I y2.Diner.Phase, .slv (y2.Diner.Sides.map eSide), I y2.Thirst, .slv (y2.Need.map eI), nilS]) 2 rfl rfl rfl rfl (.cons (.cons .nil)) ?_
    refine TextR.assign rfl ?_
    refine TextR.done (.cons rfl (.cons rfl .nil)) ?_
    obtain ⟨z3, hz3, h⟩ := bind_some h
    refine Wp.fragR (fun _ => False) (fun S => ∃ v, z3 = v ∧ Ret Try.prog Try.f12 (fun r' _ => r' = .tup [.agg (eDrinker v.1), .c (.slv (v.2.1.map eMail)), .c (I v.2.2)]) .ret S) ?_ ?_ ?_
    · replace h := hz3
      refine Wp.block ?_
      refine Wp.weak (St.Weak.trans (keepW (live := [2, 6]) (.cons rfl (.cons rfl .nil))) (St.Weak.trans (pickT (e' := [(2, .c (.ptr 0 0 0 0)), (6, .c (.ptr 1 0 0 0))]) (H' := [.live 0 5 [[I 0, I 0, nilS, I 0, nilS]], .live 0 6 [[I y2.Diner.ID, I y2.Diner.Phase, .slv (y2.Diner.Sides.map eSide), I y2.Thirst, .slv (y2.Need.map eI), nilS]]]) [1, 2] [0, 0, 1] 0 hok.len.symm rfl rfl (by decide) (by first | rfl | simp [-List.map_set]) (by first | rfl | simp [-List.map_set]) (by first | rfl | simp [-List.map_set]) (by first | rfl | simp [-List.map_set])) (St.Weak.trans (nilCellW (H := [.live 0 5 [[I 0, I 0, nilS, I 0, nilS]], .live 0 6 [[I y2.Diner.ID, I y2.Diner.Phase, .slv (y2.Diner.Sides.map eSide), I y2.Thirst, .slv (y2.Need.map eI), nilS]]]) (ver := 0) (g := 1) (i := 0) (k := 5) 5 2 rfl rfl rfl rfl rfl (.cons (.cons .nil)) (.succ .zero)) (keepW (live := [2, 6]) (.cons rfl (.cons rfl .nil)))))) ?_
      refine Wp.loop (fun m S => ∃ l2_1, ∃ c1_0_1, ∃ c1_1_1, ∃ c1_2_1, ∃ c1_3_1, ∃ wh2_1, drink_Fire_L1 N y2 m l2_1 c1_0_1 c1_1_1 c1_2_1 c1_3_1 = some z3 ∧ S = ⟨[(2, .c (.ptr 0 0 0 0)), (6, .c (.ptr 1 0 0 0))], [.live 0 5 [[I 0, I 0, nilS, I 0, nilS]], .live 0 6 [[I c1_0_1, I c1_1_1, .slv (c1_2_1.map eSide), I c1_3_1, .slv (y2.Need.map eI), .sl 2 wh2_1 0 l2_1.length]], .live wh2_1 5 (l2_1.map eMail)]⟩) N ⟨_, _, _, _, _, _, h, rfl⟩ ?_
      rintro m1 _ ⟨l2_1, c1_0_1, c1_1_1, c1_2_1, c1_3_1, wh2_1, h, rfl⟩
      cases m1 with
      | zero => rw [drink_Fire_L1.eq_1] at h; cases h
      | succ m1 =>
      rw [drink_Fire_L1.eq_2] at h
      refine Wp.block ?_
      refine Wp.seq ?_
      obtain ⟨y4, hy4, h⟩ := bind_some h
      refine Wp.text [2, 6, 7] rfl rfl ?_ -- region 5
      refine TextR.move rfl ?_
      refine TextR.nilCheck rfl rfl ?_
      refine TextR.fieldAddr fo64_0 rfl rfl rfl ?_
      refine TextR.loadN (cs := [I c1_0_1, I c1_1_1, .slv (c1_2_1.map eSide), I c1_3_1, .slv (y2.Need.map eI)]) tk29 rfl rfl ?_
      refine TextR.dcall rfl rfl (c_drink_own N (⟨(⟨c1_0_1, c1_1_1, c1_2_1⟩ : TDiner), c1_3_1, y2.Need⟩ : TDrinker) y4 hy4 _) ?_
      refine TextR.alloc 3 zc29 rfl rfl (.cons (.cons (.cons .nil))) ?_
      refine TextR.store1 tk29 rfl rfl rfl rfl rfl rfl (.succ (.succ (.succ .zero))) ?_
      refine TextR.done (.cons rfl (.cons rfl (.cons rfl .nil))) ?_
      refine Wp.seq ?_
      obtain ⟨y5, hy5, h⟩ := bind_some h
      refine Wp.text [2, 6, 7] rfl rfl ?_ -- region 6
      refine TextR.move rfl ?_
      refine TextR.call rfl rfl (by exact c_drink_drinker_once_2 N 0 0 0 c1_0_1 c1_1_1 c1_2_1 c1_3_1 y2.Need l2_1 y4.Diner.ID y4.Diner.Phase y4.Diner.Sides y4.Thirst y4.Need y5 hy5) (fun x H' hk => ?_)
      obtain ⟨u6, rfl, rfl⟩ := hk
      refine TextR.done (.cons rfl (.cons rfl (.cons rfl .nil))) ?_
      refine Wp.seq ?_
      obtain ⟨y7, hy7, h⟩ := bind_some h
      refine Wp.go true (some ⟨[], []⟩) [] [] [2, 6, 30] mixed rfl rfl (by kernel_rfl) ?_ -- region 7
      refine RunR.loadN (cs := [I y4.Diner.ID, I y4.Diner.Phase, .slv (y4.Diner.Sides.map eSide), I y4.Thirst, .slv (y4.Need.map eI)]) tk29 rfl rfl rfl rfl ?_
      refine RunR.move rfl rfl rfl ?_
      refine RunR.nilCheck rfl rfl rfl rfl ?_
      refine RunR.fieldAddr fo64_0 rfl rfl rfl rfl rfl ?_
      refine RunR.loadN (cs := [I y5.1, I y5.2.1, .slv (y5.2.2.1.map eSide), I y5.2.2.2.1, .slv (y2.Need.map eI)]) tk29 rfl rfl rfl rfl ?_
      refine RunR.call rfl rfl rfl (fun H => c_drink_Same N y4 (⟨(⟨y5.1, y5.2.1, y5.2.2.1⟩ : TDiner), y5.2.2.2.1, y2.Need⟩ : TDrinker) y7 hy7 H) ?_
      refine RunR.doneQ (.cons rfl (.cons rfl (.cons rfl .nil))) ?_
      refine Wp.condM h rfl (fun hc3 h => ?_) (fun hc3 h => ?_)
      · refine Wp.seq ?_
        refine Wp.go true (some ⟨[0], []⟩) [] [false, false, false, false, true, true, true, true, false, false, false] [2, 3, 4] mixed rfl rfl (by kernel_rfl) ?_ -- region 8
        refine RunR.move rfl rfl rfl ?_
        refine RunR.nilCheck rfl rfl rfl rfl ?_
        refine RunR.fieldAddr fo64_0 rfl rfl rfl rfl rfl ?_
        refine RunR.loadN (cs := [I y5.1, I y5.2.1, .slv (y5.2.2.1.map eSide), I y5.2.2.2.1, .slv (y2.Need.map eI)]) tk29 rfl rfl rfl rfl ?_
        refine RunR.move rfl rfl rfl ?_
        refine RunR.nilCheck rfl rfl rfl rfl ?_
        refine RunR.fieldAddr fo64_1 rfl rfl rfl rfl rfl ?_
        refine RunR.load1 tk32 rfl rfl rfl rfl ?_
        refine RunR.store1 tk29 rfl rfl rfl rfl rfl rfl rfl rfl .zero ?_
        refine RunR.assign rfl rfl rfl ?_
        refine RunR.assign rfl rfl rfl ?_
        refine RunR.doneQ (.cons rfl (.cons rfl (.cons rfl .nil))) ?_
        refine Wp.weak (keepW (live := [2, 3, 4] ) (.cons rfl (.cons rfl (.cons rfl .nil)))) ?_
        refine Wp.weak (freezeW (h := 2) (ver := u6) (rows := y5.2.2.2.2.map eMail) (e' := [(2, .c (.ptr 0 0 0 0)), (3, .c (.slv (y5.2.2.2.2.map eMail))), (4, .c (I 0))]) (H' := [.live 0 5 [[I y5.1, I y5.2.1, .slv (y5.2.2.1.map eSide), I y5.2.2.2.1, .slv (y2.Need.map eI)]], .live 0 6 [[I y5.1, I y5.2.1, .slv (y5.2.2.1.map eSide), I y5.2.2.2.1, .slv (y2.Need.map eI), .slv (y5.2.2.2.2.map eMail)]], .dead, .live 0 5 [[I y4.Diner.ID, I y4.Diner.Phase, .slv (y4.Diner.Sides.map eSide), I y4.Thirst, .slv (y4.Need.map eI)]]]) (obj_of rfl) (by first | rfl | simp [-List.map_set]) (by first | rfl | simp [-List.map_set])) ?_
        refine Wp.ret ?_
        exact ⟨_, (Option.some.inj h).symm, Ret.three rfl (resV_cellN tk29 rfl rfl) (resV_tmp rfl) (resV_tmp rfl) rfl⟩
      · refine Wp.skip ?_
        exact ⟨m1, Nat.lt_succ_self _, _, (St.Weak.trans (keepW (live := [2, 6]) (.cons rfl (.cons rfl .nil))) (pickT (e' := [(2, .c (.ptr 0 0 0 0)), (6, .c (.ptr 1 0 0 0))]) (H' := [.live 0 5 [[I 0, I 0, nilS, I 0, nilS]], .live 0 6 [[I y5.1, I y5.2.1, .slv (y5.2.2.1.map eSide), I y5.2.2.2.1, .slv (y2.Need.map eI), .sl 2 u6 0 y5.2.2.2.2.length]], .live u6 5 (y5.2.2.2.2.map eMail)]) [0, 1, 2] [0, 1, 2, 0] 0 hok.len.symm rfl rfl (by decide) (by first | rfl | simp [-List.map_set]) (by first | rfl | simp [-List.map_set]) (by first | rfl | simp [-List.map_set]) (by first | rfl | simp [-List.map_set]))), _, _, _, _, _, _, h, rfl⟩
    · exact fun _ h => h.elim
    · rintro S' ⟨z3, rfl, hR⟩
      obtain rfl := Option.some.inj h
      exact hR
theorem c_drink_Fire (N : Nat) (a0 : TDrinker) (r : TDrinker × (List TMail) × Int) (h : drink_Fire N a0 = some r) (H : List Ob) : DCall Try.prog 12 [.agg (eDrinker a0)] H (.tup [.agg (eDrinker r.1), .c (.slv (r.2.1.map eMail)), .c (I r.2.2)]) := DCall.lift (by first | rfl | simp [-List.map_set]) (by first | rfl | simp [-List.map_set]) (fun _ => by simp [-List.map_set]) (w_drink_Fire N a0 r h) H
-- narthex/dine.Get$1
theorem w_dine_Get_1 (N : Nat) (a0 : TSide) (c0_0 : Int) (c0_1 : Int) (c0_2 : List TSide) (c1_0 : Int) (c2_0 : Int) (c2_1 : Int) (c2_2 : Int) (c3_0 : Int) (c3_1 : Int) (r : Bool) (h : dine_Get_1 N a0 c0_0 c0_1 c0_2 c1_0 c2_0 c2_1 c2_2 c3_0 c3_1 = some r) : Nx.Call Try.prog 63 [.agg (eSide a0), .c (.ptr 1 0 0 0), .c (.ptr 2 0 0 0)] [.live 0 3 [[I c0_0, I c0_1, .slv (c0_2.map eSide)]], .live 0 1 [[I c1_0]], .live 0 3 [[I c2_0, I c2_1, I c2_2]], .live 0 3 [[I c3_0, I c3_1, nilS]]] fun r' H' => r' = .c (B r) ∧ ∃ junk, H' = [.live 0 3 [[I c0_0, I c0_1, .slv (c0_2.map eSide)]], .live 0 1 [[I c1_0]], .live 0 3 [[I c2_0, I c2_1, I c2_2]], .live 0 3 [[I c3_0, I c3_1, nilS]]] ++ junk := by
  refine Nx.Call.of_body Try.func63 rfl en63 Try.ntmps63 rfl (fun Γ hok => ?_)
  unfold dine_Get_1 at h
  refine Wp.seq ?_
  refine Wp.text [1, 2, 3] rfl rfl ?_ -- region 0
  refine TextR.box (cs := [I a0.Peer, I a0.Epoch, I a0.State, B a0.Fork, B a0.Dirty, B a0.Token, B a0.Bottle, B a0.Ask]) 4 rfl rfl rfl rfl (.cons (.cons (.cons (.cons .nil)))) ?_
  refine TextR.assign rfl ?_
  refine TextR.done (.cons rfl (.cons rfl (.cons rfl .nil))) ?_
  refine Wp.seq ?_
  refine Wp.go false none [[], [], [], [], [], [(9, true)], [(9, true)], [(9, true)], [(9, true)], [(9, true)], [], []] [] [4] mixed rfl rfl (by kernel_rfl) ?_ -- region 1
  refine RunR.fieldAddr fo53_0 rfl rfl rfl rfl rfl ?_
  refine RunR.load1 tk3 rfl rfl rfl rfl ?_
  refine RunR.load1 tk3 rfl rfl rfl rfl ?_
  refine RunR.int rfl rfl rfl rfl rfl ?_
  refine RunR.move rfl rfl rfl ?_
  refine RunR.fieldAddr fo53_1 rfl rfl rfl rfl rfl ?_
  refine RunR.load1 tk3 rfl rfl rfl rfl ?_
  refine RunR.fieldAddr fo44_1 rfl rfl rfl rfl rfl ?_
  refine RunR.load1 tk3 rfl rfl rfl rfl ?_
  refine RunR.int rfl rfl rfl rfl rfl ?_
  refine RunR.pickAnd rfl rfl rfl rfl ?_
  refine RunR.assign rfl rfl rfl ?_
  refine RunR.doneQ (.cons rfl .nil) ?_
  refine Wp.ret ?_
  obtain rfl := Option.some.inj h
  exact Ret.one rfl (resV_tmp rfl) ⟨rfl, _, rfl⟩
theorem c_dine_Get_1 (N : Nat) (a0 : TSide) (c0_0 : Int) (c0_1 : Int) (c0_2 : List TSide) (c1_0 : Int) (c2_0 : Int) (c2_1 : Int) (c2_2 : Int) (c3_0 : Int) (c3_1 : Int) (r : Bool) (h : dine_Get_1 N a0 c0_0 c0_1 c0_2 c1_0 c2_0 c2_1 c2_2 c3_0 c3_1 = some r) : DCall Try.prog 63 [.agg (eSide a0), .c (.ptr 1 0 0 0), .c (.ptr 2 0 0 0)] [.live 0 3 [[I c0_0, I c0_1, .slv (c0_2.map eSide)]], .live 0 1 [[I c1_0]], .live 0 3 [[I c2_0, I c2_1, I c2_2]], .live 0 3 [[I c3_0, I c3_1, nilS]]] (.c (B r)) := Call.trim (by simp) (by first | rfl | simp [-List.map_set]) (by first | rfl | simp [-List.map_set]) (w_dine_Get_1 N a0 c0_0 c0_1 c0_2 c1_0 c2_0 c2_1 c2_2 c3_0 c3_1 r h)
end Go.Proofs.Ytcdjfellhgdgoaa
