/- The functions do what their models say. -/
import Derived.Test.YtcdjfellhgdgoaaWkb
namespace Go.Proofs.Ytcdjfellhgdgoaa
open Go Go.Nx
set_option linter.unusedVariables false
set_option linter.unusedSimpArgs false
set_option linter.unnecessarySimpa false
set_option maxRecDepth 8000
attribute [local simp] putSeg List.map_take List.map_drop rvL rvK bwL hfVs hfV hfL hfAll hfRows mvV mvL mv0 sh0 mvO mpE mpV mpVs mpO fzL rnL rn0 ok0 nzI nzB nzN nzF nzP nzO nzQ nzC shL shV shO okV okL okO List.take_of_length_le h_Side hm_Side ok_eSide okR_eSide fx_eSide fxR_eSide h_I hm_I ok_eI okR_eI fx_eI fxR_eI h_Diner hm_Diner ok_eDiner okR_eDiner fx_eDiner fxR_eDiner h_Drinker hm_Drinker ok_eDrinker okR_eDrinker fx_eDrinker fxR_eDrinker h_Mail hm_Mail ok_eMail okR_eMail fx_eMail fxR_eMail h_Msg hm_Msg ok_eMsg okR_eMsg fx_eMsg fxR_eMsg
-- narthex/narthexref15.Get
theorem w_narthexref15_Get (N : Nat) (a0 : TDrinker) (a1 : Int) (a2 : TMsg) (r : TDrinker × Int) (h : narthexref15_Get N a0 a1 a2 = some r) : Nx.Call Try.prog 21 [.agg (eDrinker a0), .c (I a1), .agg (eMsg a2)] [] fun r' _ => r' = .tup [.agg (eDrinker r.1), .c (I r.2)] := by
  refine Nx.Call.of_body Try.func21 rfl en21 Try.ntmps21 rfl (fun Γ hok => ?_)
  unfold narthexref15_Get at h
  refine Wp.seq ?_
  refine Wp.text [1, 3, 5, 6] rfl rfl ?_ -- region 0
  refine TextR.box (cs := [I a0.Diner.ID, I a0.Diner.Phase, .slv (a0.Diner.Sides.map eSide), I a0.Thirst, .slv (a0.Need.map eI)]) 0 rfl rfl rfl rfl .nil ?_
  refine TextR.box (cs := [I a2.Kind, I a2.Epoch, I a2.Num]) 1 rfl rfl rfl rfl (.cons .nil) ?_
  refine TextR.alloc 2 zc29 rfl rfl (.cons (.cons .nil)) ?_
  refine TextR.assign rfl ?_
  refine TextR.done (.cons rfl (.cons rfl (.cons rfl (.cons rfl .nil)))) ?_
  refine Wp.seq ?_
  refine Wp.seq ?_
  obtain ⟨y1, hy1, h⟩ := bind_some h
  refine Wp.text [1, 3, 5, 6, 14] rfl rfl ?_ -- region 1
  refine TextR.loadN (cs := [I a0.Diner.ID, I a0.Diner.Phase, .slv (a0.Diner.Sides.map eSide), I a0.Thirst, .slv (a0.Need.map eI)]) tk29 rfl rfl ?_
  refine TextR.dcall rfl rfl (c_narthexref15_Check N a0 y1 hy1 _) ?_
  refine TextR.not rfl ?_
  refine TextR.done (.cons rfl (.cons rfl (.cons rfl (.cons rfl (.cons rfl .nil))))) ?_
  refine Wp.condM h rfl (fun hc1 h => ?_) (fun hc1 h => ?_)
  · refine Wp.seq ?_
    refine Wp.text [6, 7] rfl rfl ?_ -- region 2
    refine TextR.build cm29 rfl ?_
    refine TextR.store1 tk29 rfl rfl rfl rfl rfl rfl (.succ (.succ .zero)) ?_
    refine TextR.assign rfl ?_
    refine TextR.done (.cons rfl (.cons rfl .nil)) ?_
    refine Wp.weak (keepW (live := [6, 7] ) (.cons rfl (.cons rfl .nil))) ?_
    refine Wp.weak (nzT (e' := [(6, .c (.ptr 2 0 0 0)), (7, .c (I 150))]) (H' := [.live 0 5 [[I a0.Diner.ID, I a0.Diner.Phase, .slv (a0.Diner.Sides.map eSide), I a0.Thirst, .slv (a0.Need.map eI)]], .live 0 3 [[I a2.Kind, I a2.Epoch, I a2.Num]], .live 0 5 [[I 0, I 0, .slv ([].map eSide), I 0, .slv ([].map eI)]]]) (by first | rfl | simp [-List.map_set]) (by first | rfl | simp [-List.map_set])) ?_
    refine Wp.ret ?_
    obtain rfl := Option.some.inj h
    exact Ret.two rfl (resV_cellN tk29 rfl rfl) (resV_tmp rfl) rfl
  · refine Wp.skip ?_
    refine Wp.seq ?_
    obtain ⟨y2, hy2, h⟩ := bind_some h
    refine Wp.text [1, 3, 5, 6, 8] rfl rfl ?_ -- region 3
    refine TextR.loadN (cs := [I a0.Diner.ID, I a0.Diner.Phase, .slv (a0.Diner.Sides.map eSide), I a0.Thirst, .slv (a0.Need.map eI)]) tk29 rfl rfl ?_
    refine TextR.move rfl ?_
    refine TextR.dcall rfl rfl (c_narthexref15_side N a0 a1 y2 hy2 _) ?_
    refine TextR.assign rfl ?_
    refine TextR.done (.cons rfl (.cons rfl (.cons rfl (.cons rfl (.cons rfl .nil))))) ?_
    refine Wp.seq ?_
    refine Wp.seq ?_
    obtain ⟨x3, hx3, h⟩ := bind_some h
    refine Wp.go true (some ⟨[], []⟩) [[], [], [], [(21, false)], [(21, false)], [(21, false)], [(21, false)], [(21, false)], [(21, false)], [(21, false)], [(21, false)], [(21, false)], [(21, false)], []] [] [1, 3, 5, 6, 8, 32] mixed rfl rfl (by kernel_rfl) ?_ -- region 4
    refine RunR.move rfl rfl rfl ?_
    refine RunR.int rfl rfl rfl rfl rfl ?_
    refine RunR.move rfl rfl rfl ?_
    refine RunR.fieldAddr fo29_0 rfl rfl rfl rfl rfl ?_
    refine RunR.fieldAddr fo25_2 rfl rfl rfl rfl rfl ?_
    refine RunR.load1 tk23 rfl rfl rfl rfl ?_
    refine RunR.move rfl rfl rfl ?_
    refine RunR.indexAG se23 rfl rfl rfl rfl rfl (ifPos hx3 gF) (ifAt hx3 gF) rfl ?_
    refine RunR.fieldAddr fo53_1 rfl rfl rfl rfl rfl ?_
    refine RunR.load1G tk3 rfl rfl rfl (ifAt hx3 gF) rfl ?_
    refine RunR.fieldAddr fo44_1 rfl rfl rfl rfl rfl ?_
    refine RunR.load1 tk3 rfl rfl rfl rfl ?_
    refine RunR.int rfl rfl rfl rfl rfl ?_
    refine RunR.pickOr rfl rfl rfl rfl ?_
    refine RunR.doneQ (.cons rfl (.cons rfl (.cons rfl (.cons rfl (.cons rfl (.cons rfl .nil)))))) ?_
    refine Wp.condM h rfl (fun hc2 h => ?_) (fun hc2 h => ?_)
    · refine Wp.seq ?_
      refine Wp.text [6, 7] rfl rfl ?_ -- region 5
      refine TextR.build cm29 rfl ?_
      refine TextR.store1 tk29 rfl rfl rfl rfl rfl rfl (.succ (.succ .zero)) ?_
      refine TextR.assign rfl ?_
      refine TextR.done (.cons rfl (.cons rfl .nil)) ?_
      refine Wp.weak (keepW (live := [6, 7] ) (.cons rfl (.cons rfl .nil))) ?_
      refine Wp.weak (nzT (e' := [(6, .c (.ptr 2 0 0 0)), (7, .c (I 131))]) (H' := [.live 0 5 [[I a0.Diner.ID, I a0.Diner.Phase, .slv (a0.Diner.Sides.map eSide), I a0.Thirst, .slv (a0.Need.map eI)]], .live 0 3 [[I a2.Kind, I a2.Epoch, I a2.Num]], .live 0 5 [[I 0, I 0, .slv ([].map eSide), I 0, .slv ([].map eI)]]]) (by first | rfl | simp [-List.map_set]) (by first | rfl | simp [-List.map_set])) ?_
      refine Wp.ret ?_
      obtain rfl := Option.some.inj h
      exact Ret.two rfl (resV_cellN tk29 rfl rfl) (resV_tmp rfl) rfl
    · refine Wp.skip ?_
      refine Wp.seq ?_
      obtain ⟨x4, hx4, h⟩ := bind_some h
      refine Wp.text [1, 3, 5, 6, 8, 9] rfl rfl ?_ -- region 6
      refine TextR.fieldAddr fo29_0 rfl rfl rfl ?_
      refine TextR.fieldAddr fo25_2 rfl rfl rfl ?_
      refine TextR.load1 tk23 rfl rfl ?_
      refine TextR.move rfl ?_
      refine TextR.indexA se23 rfl rfl rfl hx4 rfl ?_
      refine TextR.loadNM tk53 rfl (at_get hx4) rfl ?_
      refine TextR.alloc 3 zc53 rfl rfl (.cons (.cons (.cons .nil))) ?_
      refine TextR.store1 tk53 rfl rfl rfl rfl rfl rfl (.succ (.succ (.succ .zero))) ?_
      refine TextR.done (.cons rfl (.cons rfl (.cons rfl (.cons rfl (.cons rfl (.cons rfl .nil)))))) ?_
      refine Wp.seq ?_
      refine Wp.seq ?_
      refine Wp.go false none [[], [], [], [], [(43, true)], [(43, true)], [(43, true)], []] [] [1, 3, 5, 6, 8, 9, 47] mixed rfl rfl (by kernel_rfl) ?_ -- region 7
      refine RunR.fieldAddr fo44_2 rfl rfl rfl rfl rfl ?_
      refine RunR.load1 tk3 rfl rfl rfl rfl ?_
      refine RunR.int rfl rfl rfl rfl rfl ?_
      refine RunR.move rfl rfl rfl ?_
      refine RunR.fieldAddr fo44_0 rfl rfl rfl rfl rfl ?_
      refine RunR.load1 tk42 rfl rfl rfl rfl ?_
      refine RunR.int rfl rfl rfl rfl rfl ?_
      refine RunR.pickAnd rfl rfl rfl rfl ?_
      refine RunR.doneQ (.cons rfl (.cons rfl (.cons rfl (.cons rfl (.cons rfl (.cons rfl (.cons rfl .nil))))))) ?_
      refine Wp.condM h rfl (fun hc3 h => ?_) (fun hc3 h => ?_)
      · refine Wp.seq ?_
        refine Wp.seq ?_
        refine Wp.text [3, 6, 8, 9, 49] rfl rfl ?_ -- region 8
        refine TextR.fieldAddr fo53_6 rfl rfl rfl ?_
        refine TextR.load1 tk4 rfl rfl ?_
        refine TextR.done (.cons rfl (.cons rfl (.cons rfl (.cons rfl (.cons rfl .nil))))) ?_
        refine Wp.condM h rfl (fun hc4 h => ?_) (fun hc4 h => ?_)
        · refine Wp.seq ?_
          refine Wp.text [6, 7] rfl rfl ?_ -- region 9
          refine TextR.build cm29 rfl ?_
          refine TextR.store1 tk29 rfl rfl rfl rfl rfl rfl (.succ (.succ .zero)) ?_
          refine TextR.assign rfl ?_
          refine TextR.done (.cons rfl (.cons rfl .nil)) ?_
          refine Wp.weak (keepW (live := [6, 7] ) (.cons rfl (.cons rfl .nil))) ?_
          refine Wp.weak (nzT (e' := [(6, .c (.ptr 2 0 0 0)), (7, .c (I 132))]) (H' := [.live 0 5 [[I a0.Diner.ID, I a0.Diner.Phase, .slv (a0.Diner.Sides.map eSide), I a0.Thirst, .slv (a0.Need.map eI)]], .live 0 3 [[I a2.Kind, I a2.Epoch, I a2.Num]], .live 0 5 [[I 0, I 0, .slv ([].map eSide), I 0, .slv ([].map eI)]], .live 0 8 [[I x4.Peer, I x4.Epoch, I x4.State, B x4.Fork, B x4.Dirty, B x4.Token, B x4.Bottle, B x4.Ask]]]) (by first | rfl | simp [-List.map_set]) (by first | rfl | simp [-List.map_set])) ?_
          refine Wp.ret ?_
          obtain rfl := Option.some.inj h
          exact Ret.two rfl (resV_cellN tk29 rfl rfl) (resV_tmp rfl) rfl
        · refine Wp.skip ?_
          refine Wp.seq ?_
          refine Wp.text [3, 6, 8, 9] rfl rfl ?_ -- region 10
          refine TextR.fieldAddr fo53_6 rfl rfl rfl ?_
          refine TextR.storeF (r' := [I x4.Peer, I x4.Epoch, I x4.State, B x4.Fork, B x4.Dirty, B x4.Token, B true, B x4.Ask]) tk4 rfl rfl rfl rfl rfl rfl rfl (.succ (.succ (.succ .zero))) ?_
          refine TextR.done (.cons rfl (.cons rfl (.cons rfl (.cons rfl .nil)))) ?_
          refine Wp.seq ?_
          obtain ⟨y5, hy5, h⟩ := bind_some h
          refine Wp.text [3, 6] rfl rfl ?_ -- region 11
          refine TextR.fieldAddr fo29_0 rfl rfl rfl ?_
          refine TextR.loadN (cs := [I a0.Diner.ID, I a0.Diner.Phase, .slv (a0.Diner.Sides.map eSide)]) tk25 rfl rfl ?_
          refine TextR.move rfl ?_
          refine TextR.loadN (cs := [I x4.Peer, I x4.Epoch, I x4.State, B x4.Fork, B x4.Dirty, B x4.Token, B true, B x4.Ask]) tk53 rfl rfl ?_
          refine TextR.dcall rfl rfl (c_narthexref13_Set N a0.Diner y2 { x4 with Bottle := true } y5 hy5 _) ?_
          refine TextR.fieldAddr fo29_0 rfl rfl rfl ?_
          refine TextR.storeF (r' := [I y5.ID, I y5.Phase, .slv (y5.Sides.map eSide), I a0.Thirst, .slv (a0.Need.map eI)]) tk25 rfl rfl rfl rfl rfl rfl rfl .zero ?_
          refine TextR.done (.cons rfl (.cons rfl .nil)) ?_
          refine Wp.seq ?_
          refine Wp.text [6, 7] rfl rfl ?_ -- region 12
          refine TextR.loadN (cs := [I y5.ID, I y5.Phase, .slv (y5.Sides.map eSide), I a0.Thirst, .slv (a0.Need.map eI)]) tk29 rfl rfl ?_
          refine TextR.store1 tk29 rfl rfl rfl rfl rfl rfl (.succ (.succ .zero)) ?_
          refine TextR.assign rfl ?_
          refine TextR.done (.cons rfl (.cons rfl .nil)) ?_
          refine Wp.ret ?_
          obtain rfl := Option.some.inj h
          exact Ret.two rfl (resV_cellN tk29 rfl rfl) (resV_tmp rfl) rfl
      · refine Wp.skip ?_
        refine Wp.seq ?_
        refine Wp.seq ?_
        refine Wp.go false none [[], [], [], [], [(62, true)], [(62, true)], [(62, true)], []] [] [1, 3, 5, 6, 8, 9, 66] mixed rfl rfl (by kernel_rfl) ?_ -- region 13
        refine RunR.fieldAddr fo44_2 rfl rfl rfl rfl rfl ?_
        refine RunR.load1 tk3 rfl rfl rfl rfl ?_
        refine RunR.int rfl rfl rfl rfl rfl ?_
        refine RunR.move rfl rfl rfl ?_
        refine RunR.fieldAddr fo44_0 rfl rfl rfl rfl rfl ?_
        refine RunR.load1 tk42 rfl rfl rfl rfl ?_
        refine RunR.int rfl rfl rfl rfl rfl ?_
        refine RunR.pickAnd rfl rfl rfl rfl ?_
        refine RunR.doneQ (.cons rfl (.cons rfl (.cons rfl (.cons rfl (.cons rfl (.cons rfl (.cons rfl .nil))))))) ?_
        refine Wp.condM h rfl (fun hc4 h => ?_) (fun hc4 h => ?_)
        · refine Wp.seq ?_
          refine Wp.seq ?_
          refine Wp.text [3, 6, 8, 9, 68] rfl rfl ?_ -- region 14
          refine TextR.fieldAddr fo53_7 rfl rfl rfl ?_
          refine TextR.load1 tk4 rfl rfl ?_
          refine TextR.done (.cons rfl (.cons rfl (.cons rfl (.cons rfl (.cons rfl .nil))))) ?_
          refine Wp.condM h rfl (fun hc5 h => ?_) (fun hc5 h => ?_)
          · refine Wp.seq ?_
            refine Wp.text [6, 7] rfl rfl ?_ -- region 15
            refine TextR.build cm29 rfl ?_
            refine TextR.store1 tk29 rfl rfl rfl rfl rfl rfl (.succ (.succ .zero)) ?_
            refine TextR.assign rfl ?_
            refine TextR.done (.cons rfl (.cons rfl .nil)) ?_
            refine Wp.weak (keepW (live := [6, 7] ) (.cons rfl (.cons rfl .nil))) ?_
            refine Wp.weak (nzT (e' := [(6, .c (.ptr 2 0 0 0)), (7, .c (I 132))]) (H' := [.live 0 5 [[I a0.Diner.ID, I a0.Diner.Phase, .slv (a0.Diner.Sides.map eSide), I a0.Thirst, .slv (a0.Need.map eI)]], .live 0 3 [[I a2.Kind, I a2.Epoch, I a2.Num]], .live 0 5 [[I 0, I 0, .slv ([].map eSide), I 0, .slv ([].map eI)]], .live 0 8 [[I x4.Peer, I x4.Epoch, I x4.State, B x4.Fork, B x4.Dirty, B x4.Token, B x4.Bottle, B x4.Ask]]]) (by first | rfl | simp [-List.map_set]) (by first | rfl | simp [-List.map_set])) ?_
            refine Wp.ret ?_
            obtain rfl := Option.some.inj h
            exact Ret.two rfl (resV_cellN tk29 rfl rfl) (resV_tmp rfl) rfl
          · refine Wp.skip ?_
            refine Wp.seq ?_
            refine Wp.text [3, 6, 8, 9] rfl rfl ?_ -- region 16
            refine TextR.fieldAddr fo53_7 rfl rfl rfl ?_
            refine TextR.storeF (r' := [I x4.Peer, I x4.Epoch, I x4.State, B x4.Fork, B x4.Dirty, B x4.Token, B x4.Bottle, B true]) tk4 rfl rfl rfl rfl rfl rfl rfl (.succ (.succ (.succ .zero))) ?_
            refine TextR.done (.cons rfl (.cons rfl (.cons rfl (.cons rfl .nil)))) ?_
            refine Wp.seq ?_
            obtain ⟨y6, hy6, h⟩ := bind_some h
            refine Wp.text [3, 6] rfl rfl ?_ -- region 17
            refine TextR.fieldAddr fo29_0 rfl rfl rfl ?_
            refine TextR.loadN (cs := [I a0.Diner.ID, I a0.Diner.Phase, .slv (a0.Diner.Sides.map eSide)]) tk25 rfl rfl ?_
            refine TextR.move rfl ?_
            refine TextR.loadN (cs := [I x4.Peer, I x4.Epoch, I x4.State, B x4.Fork, B x4.Dirty, B x4.Token, B x4.Bottle, B true]) tk53 rfl rfl ?_
            refine TextR.dcall rfl rfl (c_narthexref13_Set N a0.Diner y2 { x4 with Ask := true } y6 hy6 _) ?_
            refine TextR.fieldAddr fo29_0 rfl rfl rfl ?_
            refine TextR.storeF (r' := [I y6.ID, I y6.Phase, .slv (y6.Sides.map eSide), I a0.Thirst, .slv (a0.Need.map eI)]) tk25 rfl rfl rfl rfl rfl rfl rfl .zero ?_
            refine TextR.done (.cons rfl (.cons rfl .nil)) ?_
            refine Wp.seq ?_
            refine Wp.text [6, 7] rfl rfl ?_ -- region 18
            refine TextR.loadN (cs := [I y6.ID, I y6.Phase, .slv (y6.Sides.map eSide), I a0.Thirst, .slv (a0.Need.map eI)]) tk29 rfl rfl ?_
            refine TextR.store1 tk29 rfl rfl rfl rfl rfl rfl (.succ (.succ .zero)) ?_
            refine TextR.assign rfl ?_
            refine TextR.done (.cons rfl (.cons rfl .nil)) ?_
            refine Wp.ret ?_
            obtain rfl := Option.some.inj h
            exact Ret.two rfl (resV_cellN tk29 rfl rfl) (resV_tmp rfl) rfl
        · refine Wp.skip ?_
          refine Wp.seq ?_
          obtain ⟨y7, hy7, h⟩ := bind_some h
          refine Wp.text [3, 6, 10, 11] rfl rfl ?_ -- region 19
          refine TextR.fieldAddr fo29_0 rfl rfl rfl ?_
          refine TextR.loadN (cs := [I a0.Diner.ID, I a0.Diner.Phase, .slv (a0.Diner.Sides.map eSide)]) tk25 rfl rfl ?_
          refine TextR.move rfl ?_
          refine TextR.loadN (cs := [I a2.Kind, I a2.Epoch, I a2.Num]) tk44 rfl rfl ?_
          refine TextR.dcall rfl rfl (c_narthexref13_Get N a0.Diner a1 a2 y7 hy7 _) ?_
          refine TextR.move rfl ?_
          refine TextR.extract rfl rfl ?_
          refine TextR.extract rfl rfl ?_
          refine TextR.alloc 4 zc25 rfl rfl (.cons (.cons (.cons (.cons .nil)))) ?_
          refine TextR.store1 tk25 rfl rfl rfl rfl rfl rfl (.succ (.succ (.succ (.succ .zero)))) ?_
          refine TextR.assign rfl ?_
          refine TextR.done (.cons rfl (.cons rfl (.cons rfl (.cons rfl .nil)))) ?_
          refine Wp.seq ?_
          refine Wp.seq ?_
          refine Wp.text [3, 6, 10, 11, 87] rfl rfl ?_ -- region 20
          refine TextR.move rfl ?_
          refine TextR.int rfl rfl rfl ?_
          refine TextR.done (.cons rfl (.cons rfl (.cons rfl (.cons rfl (.cons rfl .nil))))) ?_
          refine Wp.condM h rfl (fun hc5 h => ?_) (fun hc5 h => ?_)
          · refine Wp.seq ?_
            refine Wp.text [6, 7] rfl rfl ?_ -- region 21
            refine TextR.build cm29 rfl ?_
            refine TextR.move rfl ?_
            refine TextR.store1 tk29 rfl rfl rfl rfl rfl rfl (.succ (.succ .zero)) ?_
            refine TextR.assign rfl ?_
            refine TextR.done (.cons rfl (.cons rfl .nil)) ?_
            refine Wp.weak (keepW (live := [6, 7] ) (.cons rfl (.cons rfl .nil))) ?_
            refine Wp.weak (nzT (e' := [(6, .c (.ptr 2 0 0 0)), (7, .c (I y7.2))]) (H' := [.live 0 5 [[I a0.Diner.ID, I a0.Diner.Phase, .slv (a0.Diner.Sides.map eSide), I a0.Thirst, .slv (a0.Need.map eI)]], .live 0 3 [[I a2.Kind, I a2.Epoch, I a2.Num]], .live 0 5 [[I 0, I 0, .slv ([].map eSide), I 0, .slv ([].map eI)]], .live 0 8 [[I x4.Peer, I x4.Epoch, I x4.State, B x4.Fork, B x4.Dirty, B x4.Token, B x4.Bottle, B x4.Ask]], .live 0 3 [[I y7.1.ID, I y7.1.Phase, .slv (y7.1.Sides.map eSide)]]]) (by first | rfl | simp [-List.map_set]) (by first | rfl | simp [-List.map_set])) ?_
            refine Wp.ret ?_
            obtain rfl := Option.some.inj h
            exact Ret.two rfl (resV_cellN tk29 rfl rfl) (resV_tmp rfl) rfl
          · refine Wp.skip ?_
            refine Wp.seq ?_
            refine Wp.text [3, 6] rfl rfl ?_ -- region 22
            refine TextR.loadN (cs := [I y7.1.ID, I y7.1.Phase, .slv (y7.1.Sides.map eSide)]) tk25 rfl rfl ?_
            refine TextR.fieldAddr fo29_0 rfl rfl rfl ?_
            refine TextR.storeF (r' := [I y7.1.ID, I y7.1.Phase, .slv (y7.1.Sides.map eSide), I a0.Thirst, .slv (a0.Need.map eI)]) tk25 rfl rfl rfl rfl rfl rfl rfl .zero ?_
            refine TextR.done (.cons rfl (.cons rfl .nil)) ?_
            refine Wp.seq ?_
            refine Wp.text [6, 7] rfl rfl ?_ -- region 23
            refine TextR.loadN (cs := [I y7.1.ID, I y7.1.Phase, .slv (y7.1.Sides.map eSide), I a0.Thirst, .slv (a0.Need.map eI)]) tk29 rfl rfl ?_
            refine TextR.store1 tk29 rfl rfl rfl rfl rfl rfl (.succ (.succ .zero)) ?_
            refine TextR.assign rfl ?_
            refine TextR.done (.cons rfl (.cons rfl .nil)) ?_
            refine Wp.ret ?_
            obtain rfl := Option.some.inj h
            exact Ret.two rfl (resV_cellN tk29 rfl rfl) (resV_tmp rfl) rfl
theorem c_narthexref15_Get (N : Nat) (a0 : TDrinker) (a1 : Int) (a2 : TMsg) (r : TDrinker × Int) (h : narthexref15_Get N a0 a1 a2 = some r) (H : List Ob) : DCall Try.prog 21 [.agg (eDrinker a0), .c (I a1), .agg (eMsg a2)] H (.tup [.agg (eDrinker r.1), .c (I r.2)]) := DCall.lift (by first | rfl | simp [-List.map_set]) (by first | rfl | simp [-List.map_set]) (fun _ => by simp [-List.map_set]) (w_narthexref15_Get N a0 a1 a2 r h) H
-- narthex/narthexlaw15.DrinkGets
theorem w_narthexlaw15_DrinkGets (N : Nat) (a0 : TDrinker) (a1 : Int) (a2 : TMsg) (r : Bool) (h : narthexlaw15_DrinkGets N a0 a1 a2 = some r) : Nx.Call Try.prog 4 [.agg (eDrinker a0), .c (I a1), .agg (eMsg a2)] [] fun r' _ => r' = .c (B r) := by
  refine Nx.Call.of_body Try.func4 rfl en4 Try.ntmps4 rfl (fun Γ hok => ?_)
  unfold narthexlaw15_DrinkGets at h
  refine Wp.seq ?_
  refine Wp.text [1, 3, 5] rfl rfl ?_ -- region 0
  refine TextR.box (cs := [I a0.Diner.ID, I a0.Diner.Phase, .slv (a0.Diner.Sides.map eSide), I a0.Thirst, .slv (a0.Need.map eI)]) 0 rfl rfl rfl rfl .nil ?_
  refine TextR.box (cs := [I a2.Kind, I a2.Epoch, I a2.Num]) 1 rfl rfl rfl rfl (.cons .nil) ?_
  refine TextR.assign rfl ?_
  refine TextR.done (.cons rfl (.cons rfl (.cons rfl .nil))) ?_
  refine Wp.seq ?_
  refine Wp.seq ?_
  obtain ⟨y1, hy1, h⟩ := bind_some h
  obtain ⟨y2, hy2, h⟩ := bind_some h
  refine Wp.go false none [[], [], [], [(13, false)], [(13, false)], [(13, false)], []] [] [1, 3, 5, 17] mixed rfl rfl (by kernel_rfl) ?_ -- region 1
  refine RunR.call rfl rfl rfl (fun H => c_narthexlaw15_awake N y1 hy1 H) ?_
  refine RunR.not rfl rfl rfl ?_
  refine RunR.move rfl rfl rfl ?_
  refine RunR.loadN (cs := [I a0.Diner.ID, I a0.Diner.Phase, .slv (a0.Diner.Sides.map eSide), I a0.Thirst, .slv (a0.Need.map eI)]) tk29 rfl rfl rfl rfl ?_
  refine RunR.callG rfl rfl rfl (fun hb H => c_narthexlaw15_few N a0 y2 (ifT hy2 gF hb) H) ?_
  refine RunR.not rfl rfl rfl ?_
  refine RunR.pickOr rfl rfl rfl rfl ?_
  refine RunR.doneQ (.cons rfl (.cons rfl (.cons rfl (.cons rfl .nil)))) ?_
  refine Wp.condM h rfl (fun hc1 h => ?_) (fun hc1 h => ?_)
  · refine Wp.seq ?_
    obtain ⟨y3, hy3, h⟩ := bind_some h
    refine Wp.text [6] rfl rfl ?_ -- region 2
    refine TextR.dcall rfl rfl (c_narthexlaw15_awake N y3 hy3 _) ?_
    refine TextR.assign rfl ?_
    refine TextR.done (.cons rfl .nil) ?_
    refine Wp.ret ?_
    obtain rfl := Option.some.inj h
    exact Ret.one rfl (resV_tmp rfl) rfl
  · refine Wp.skip ?_
    refine Wp.seq ?_
    obtain ⟨y4, hy4, h⟩ := bind_some h
    obtain ⟨y5, hy5, h⟩ := bind_some h
    refine Wp.go true (some ⟨[2], []⟩) [] [true, true, true, true, true, true, true, true, false, false, false] [1, 3, 5, 7, 8] mixed rfl rfl (by kernel_rfl) ?_ -- region 3
    refine RunR.loadN (cs := [I a0.Diner.ID, I a0.Diner.Phase, .slv (a0.Diner.Sides.map eSide), I a0.Thirst, .slv (a0.Need.map eI)]) tk29 rfl rfl rfl rfl ?_
    refine RunR.call rfl rfl rfl (fun H => c_narthexlaw15_Own N a0 y4 hy4 H) ?_
    refine RunR.move rfl rfl rfl ?_
    refine RunR.loadN (cs := [I a2.Kind, I a2.Epoch, I a2.Num]) tk44 rfl rfl rfl rfl ?_
    refine RunR.call rfl rfl rfl (fun H => c_drink_Get N y4 a1 a2 y5 hy5 H) ?_
    refine RunR.move rfl rfl rfl ?_
    refine RunR.extract rfl rfl rfl rfl ?_
    refine RunR.extract rfl rfl rfl rfl ?_
    refine RunR.alloc 2 zc29 rfl rfl rfl rfl (.cons (.cons .nil)) ?_
    refine RunR.store1 tk29 rfl rfl rfl rfl rfl rfl rfl rfl (.succ (.succ .zero)) ?_
    refine RunR.assign rfl rfl rfl ?_
    refine RunR.doneQ (.cons rfl (.cons rfl (.cons rfl (.cons rfl (.cons rfl .nil))))) ?_
    refine Wp.seq ?_
    obtain ⟨y6, hy6, h⟩ := bind_some h
    refine Wp.text [7, 8, 9, 10] rfl rfl ?_ -- region 4
    refine TextR.loadN (cs := [I a0.Diner.ID, I a0.Diner.Phase, .slv (a0.Diner.Sides.map eSide), I a0.Thirst, .slv (a0.Need.map eI)]) tk29 rfl rfl ?_
    refine TextR.move rfl ?_
    refine TextR.loadN (cs := [I a2.Kind, I a2.Epoch, I a2.Num]) tk44 rfl rfl ?_
    refine TextR.dcall rfl rfl (c_narthexref15_Get N a0 a1 a2 y6 hy6 _) ?_
    refine TextR.move rfl ?_
    refine TextR.extract rfl rfl ?_
    refine TextR.extract rfl rfl ?_
    refine TextR.alloc 3 zc29 rfl rfl (.cons (.cons (.cons .nil))) ?_
    refine TextR.store1 tk29 rfl rfl rfl rfl rfl rfl (.succ (.succ (.succ .zero))) ?_
    refine TextR.assign rfl ?_
    refine TextR.done (.cons rfl (.cons rfl (.cons rfl (.cons rfl .nil)))) ?_
    refine Wp.seq ?_
    obtain ⟨y7, hy7, h⟩ := bind_some h
    refine Wp.go false none [[], [], [], [], [(37, true)], [(37, true)], [(37, true)], [], []] [] [6] mixed rfl rfl (by kernel_rfl) ?_ -- region 5
    refine RunR.loadN (cs := [I y5.1.Diner.ID, I y5.1.Diner.Phase, .slv (y5.1.Diner.Sides.map eSide), I y5.1.Thirst, .slv (y5.1.Need.map eI)]) tk29 rfl rfl rfl rfl ?_
    refine RunR.loadN (cs := [I y6.1.Diner.ID, I y6.1.Diner.Phase, .slv (y6.1.Diner.Sides.map eSide), I y6.1.Thirst, .slv (y6.1.Need.map eI)]) tk29 rfl rfl rfl rfl ?_
    refine RunR.call rfl rfl rfl (fun H => c_narthexref15_Same N y5.1 y6.1 y7 hy7 H) ?_
    refine RunR.move rfl rfl rfl ?_
    refine RunR.move rfl rfl rfl ?_
    refine RunR.move rfl rfl rfl ?_
    refine RunR.int rfl rfl rfl rfl rfl ?_
    refine RunR.pickAnd rfl rfl rfl rfl ?_
    refine RunR.assign rfl rfl rfl ?_
    refine RunR.doneQ (.cons rfl .nil) ?_
    refine Wp.ret ?_
    obtain rfl := Option.some.inj h
    exact Ret.one rfl (resV_tmp rfl) rfl
-- narthex/narthexref01.Place
theorem w_narthexref01_Place (N : Nat) (a0 : List Int) (a1 : Int) (r : Int) (h : narthexref01_Place N a0 a1 = some r) : Nx.Call Try.prog 66 [.c (.slv (a0.map eI)), .c (I a1)] [] fun r' _ => r' = .c (I r) := by
  refine Nx.Call.of_body Try.func66 rfl en66 Try.ntmps66 rfl (fun Γ hok => ?_)
  unfold narthexref01_Place at h
  refine Wp.seq ?_
  refine Wp.text [0, 1] rfl rfl ?_ -- region 0
  refine TextR.assign rfl ?_
  refine TextR.done (.cons rfl (.cons rfl .nil)) ?_
  refine Wp.seq ?_
  refine Wp.text [0, 1, 5] rfl rfl ?_ -- region 1
  refine TextR.assign rfl ?_
  refine TextR.done (.cons rfl (.cons rfl (.cons rfl .nil))) ?_
  refine Wp.seq ?_
  refine Wp.seq ?_
  refine Wp.text [0, 1, 5, 6] rfl rfl ?_ -- region 2
  refine TextR.assign rfl ?_
  refine TextR.done (.cons rfl (.cons rfl (.cons rfl (.cons rfl .nil)))) ?_
  obtain ⟨z1, hz1, h⟩ := bind_some h
  refine Wp.fragN (fun S => ∃ S', St.Weak ⟨Try.prog, 33, Γ⟩ S S' ∧ S' = ⟨[(5, .c (I z1))], []⟩) ?_ ?_
  · replace h := hz1
    refine Wp.block ?_
    refine Wp.weak (keepW (live := [0, 1, 5, 6]) (.cons rfl (.cons rfl (.cons rfl (.cons rfl .nil))))) ?_
    refine Wp.loop (fun m S => ∃ s5_1, ∃ s6_1, narthexref01_Place_L1 N a0 a1 m s5_1 s6_1 = some z1 ∧ S = ⟨[(0, .c (.slv (a0.map eI))), (1, .c (I a1)), (5, .c (I s5_1)), (6, .c (I s6_1))], []⟩) N ⟨_, _, h, rfl⟩ ?_
    rintro m1 _ ⟨s5_1, s6_1, h, rfl⟩
    cases m1 with
    | zero => rw [narthexref01_Place_L1.eq_1] at h; cases h
    | succ m1 =>
    rw [narthexref01_Place_L1.eq_2] at h
    refine Wp.seq ?_
    refine Wp.seq ?_
    refine Wp.text [0, 1, 5, 6, 10] rfl rfl ?_ -- region 3
    refine TextR.move rfl ?_
    refine TextR.move rfl ?_
    refine TextR.lenM us27 rfl rfl ?_
    refine TextR.int rfl rfl rfl ?_
    refine TextR.done (.cons rfl (.cons rfl (.cons rfl (.cons rfl (.cons rfl .nil))))) ?_
    refine Wp.condM h rfl (fun hc2 h => ?_) (fun hc2 h => ?_)
    · refine Wp.skip ?_
      refine Wp.seq ?_
      refine Wp.block ?_
      refine Wp.seq ?_
      obtain ⟨x2, hx2, h⟩ := bind_some h
      obtain ⟨x3, hx3, h⟩ := bind_some h
      obtain ⟨x4, hx4, h⟩ := bind_some h
      obtain ⟨y5, hy5, h⟩ := bind_some h
      refine Wp.go true (some ⟨[], []⟩) [[], [], [], [], [], [], [], [(19, true)], [(19, true)], [(19, true)], [(19, true)], [(19, true)], [(19, true)], [(19, true)], [(19, true)], [(19, true)], []] [] [0, 1, 5, 6, 29] mixed rfl rfl (by kernel_rfl) ?_ -- region 5
      refine RunR.move rfl rfl rfl ?_
      refine RunR.move rfl rfl rfl ?_
      refine RunR.indexA se27 rfl rfl rfl rfl rfl hx2 rfl ?_
      refine RunR.load1M tk3 rfl rfl rfl (at_get hx2) rfl ?_
      refine RunR.move rfl rfl rfl ?_
      refine RunR.int rfl rfl rfl rfl rfl ?_
      refine RunR.move rfl rfl rfl ?_
      refine RunR.move rfl rfl rfl ?_
      refine RunR.move rfl rfl rfl ?_
      refine RunR.sliceMG se27 rfl rfl rfl rfl rfl rfl rfl (ifT hx3 gT) (fun _ => rfl) ?_
      refine RunR.move rfl rfl rfl ?_
      refine RunR.move rfl rfl rfl ?_
      refine RunR.indexAG se27 rfl rfl rfl rfl rfl (ifPos hx4 gT) (ifAt hx4 gT) rfl ?_
      refine RunR.load1G tk3 rfl rfl rfl (ifAt hx4 gT) rfl ?_
      refine RunR.callG rfl rfl rfl (fun hb H => c_narthexref01_Has N x3 x4 y5 (ifT hy5 gT hb) H) ?_
      refine RunR.not rfl rfl rfl ?_
      refine RunR.pickAnd rfl rfl rfl rfl ?_
      refine RunR.doneQ (.cons rfl (.cons rfl (.cons rfl (.cons rfl (.cons rfl .nil))))) ?_
      refine Wp.condM h rfl (fun hc3 h => ?_) (fun hc3 h => ?_)
      · refine Wp.text [0, 1, 5, 6] rfl rfl ?_ -- region 6
        refine TextR.move rfl ?_
        refine TextR.int rfl rfl rfl ?_
        refine TextR.assign rfl ?_
        refine TextR.done (.cons rfl (.cons rfl (.cons rfl (.cons rfl .nil)))) ?_
        refine Wp.text [0, 1, 5, 6] rfl rfl ?_ -- region 4
        refine TextR.move rfl ?_
        refine TextR.int rfl rfl rfl ?_
        refine TextR.assign rfl ?_
        refine TextR.done (.cons rfl (.cons rfl (.cons rfl (.cons rfl .nil)))) ?_
        exact ⟨m1, Nat.lt_succ_self _, _, (keepW (live := [0, 1, 5, 6]) (.cons rfl (.cons rfl (.cons rfl (.cons rfl .nil))))), _, _, h, rfl⟩
      · refine Wp.skip ?_
        refine Wp.text [0, 1, 5, 6] rfl rfl ?_ -- region 4
        refine TextR.move rfl ?_
        refine TextR.int rfl rfl rfl ?_
        refine TextR.assign rfl ?_
        refine TextR.done (.cons rfl (.cons rfl (.cons rfl (.cons rfl .nil)))) ?_
        exact ⟨m1, Nat.lt_succ_self _, _, (keepW (live := [0, 1, 5, 6]) (.cons rfl (.cons rfl (.cons rfl (.cons rfl .nil))))), _, _, h, rfl⟩
    · refine Wp.exit ?_
      obtain rfl := Option.some.inj h
      exact ⟨_, (keepW (live := [5]) (.cons rfl .nil)), rfl⟩
  rintro _ ⟨S', hw, rfl⟩
  clear hz1
  refine Wp.weak hw ?_
  refine Wp.seq ?_
  refine Wp.text [4] rfl rfl ?_ -- region 7
  refine TextR.move rfl ?_
  refine TextR.assign rfl ?_
  refine TextR.done (.cons rfl .nil) ?_
  refine Wp.ret ?_
  obtain rfl := Option.some.inj h
  exact Ret.one rfl (resV_tmp rfl) rfl
-- narthex/narthexref01.Of
theorem w_narthexref01_Of (N : Nat) (a0 : List Int) (r : (List Int)) (h : narthexref01_Of N a0 = some r) : Nx.Call Try.prog 52 [.c (.slv (a0.map eI))] [] fun r' _ => r' = .c (.slv (r.map eI)) := by
  refine Nx.Call.of_body Try.func52 rfl en52 Try.ntmps52 rfl (fun Γ hok => ?_)
  unfold narthexref01_Of at h
  refine Wp.seq ?_
  refine Wp.text [0] rfl rfl ?_ -- region 0
  refine TextR.assign rfl ?_
  refine TextR.done (.cons rfl .nil) ?_
  refine Wp.seq ?_
  refine Wp.text [0, 3] rfl rfl ?_ -- region 1
  refine TextR.buildSlice  0 se27 rfl rfl rfl .nil ?_
  refine TextR.assign rfl ?_
  refine TextR.done (.cons rfl (.cons rfl .nil)) ?_
  refine Wp.seq ?_
  refine Wp.seq ?_
  refine Wp.text [0, 3, 4] rfl rfl ?_ -- region 2
  refine TextR.assign rfl ?_
  refine TextR.done (.cons rfl (.cons rfl (.cons rfl .nil))) ?_
  obtain ⟨z1, hz1, h⟩ := bind_some h
  refine Wp.fragN (fun S => ∃ wz1_0, ∃ S', St.Weak ⟨Try.prog, 41, Γ⟩ S S' ∧ S' = ⟨[(3, .c (.sl 0 wz1_0 0 z1.length))], [.live wz1_0 1 (z1.map eI)]⟩) ?_ ?_
  · replace h := hz1
    refine Wp.block ?_
    refine Wp.weak (keepW (live := [0, 3, 4]) (.cons rfl (.cons rfl (.cons rfl .nil)))) ?_
    refine Wp.loop (fun m S => ∃ l0_1, ∃ s4_1, ∃ wh0_1, narthexref01_Of_L1 N a0 m l0_1 s4_1 = some z1 ∧ S = ⟨[(0, .c (.slv (a0.map eI))), (3, .c (.sl 0 wh0_1 0 l0_1.length)), (4, .c (I s4_1))], [.live wh0_1 1 (l0_1.map eI)]⟩) N ⟨_, _, _, h, rfl⟩ ?_
    rintro m1 _ ⟨l0_1, s4_1, wh0_1, h, rfl⟩
    cases m1 with
    | zero => rw [narthexref01_Of_L1.eq_1] at h; cases h
    | succ m1 =>
    rw [narthexref01_Of_L1.eq_2] at h
    refine Wp.seq ?_
    refine Wp.seq ?_
    refine Wp.text [0, 3, 4, 10] rfl rfl ?_ -- region 3
    refine TextR.move rfl ?_
    refine TextR.move rfl ?_
    refine TextR.lenM us27 rfl rfl ?_
    refine TextR.int rfl rfl rfl ?_
    refine TextR.done (.cons rfl (.cons rfl (.cons rfl (.cons rfl .nil)))) ?_
    refine Wp.condM h rfl (fun hc2 h => ?_) (fun hc2 h => ?_)
    · refine Wp.skip ?_
      refine Wp.seq ?_
      refine Wp.block ?_
      refine Wp.seq ?_
      refine Wp.seq ?_
      obtain ⟨x2, hx2, h⟩ := bind_some h
      obtain ⟨y3, hy3, h⟩ := bind_some h
      refine Wp.text [0, 3, 4, 18] rfl rfl ?_ -- region 5
      refine TextR.move rfl ?_
      refine TextR.move rfl ?_
      refine TextR.move rfl ?_
      refine TextR.indexA se27 rfl rfl rfl hx2 rfl ?_
      refine TextR.load1M tk3 rfl (at_get hx2) rfl ?_
      refine TextR.dcall rfl rfl (DCall.borrow (fs := [.c (.slv (l0_1.map eI)), .c (I x2)]) (by simp [-List.map_set, obj, List.take_of_length_le]) (by first | rfl | simp [-List.map_set]) rfl (w_narthexref01_Has N l0_1 x2 y3 hy3)) ?_
      refine TextR.done (.cons rfl (.cons rfl (.cons rfl (.cons rfl .nil)))) ?_
      refine Wp.condM h rfl (fun hc3 h => ?_) (fun hc3 h => ?_)
      · refine Wp.exit ?_
        refine Wp.text [0, 3, 4] rfl rfl ?_ -- region 4
        refine TextR.move rfl ?_
        refine TextR.int rfl rfl rfl ?_
        refine TextR.assign rfl ?_
        refine TextR.done (.cons rfl (.cons rfl (.cons rfl .nil))) ?_
        exact ⟨m1, Nat.lt_succ_self _, _, (keepW (live := [0, 3, 4]) (.cons rfl (.cons rfl (.cons rfl .nil)))), _, _, _, h, rfl⟩
      · refine Wp.skip ?_
        refine Wp.seq ?_
        obtain ⟨x4, hx4, h⟩ := bind_some h
        obtain ⟨y5, hy5, h⟩ := bind_some h
        refine Wp.text [0, 3, 4, 5] rfl rfl ?_ -- region 6
        refine TextR.move rfl ?_
        refine TextR.move rfl ?_
        refine TextR.move rfl ?_
        refine TextR.indexA se27 rfl rfl rfl hx4 rfl ?_
        refine TextR.load1M tk3 rfl (at_get hx4) rfl ?_
        refine TextR.dcall rfl rfl (DCall.borrow (fs := [.c (.slv (l0_1.map eI)), .c (I x4)]) (by simp [-List.map_set, obj, List.take_of_length_le]) (by first | rfl | simp [-List.map_set]) rfl (w_narthexref01_Place N l0_1 x4 y5 hy5)) ?_
        refine TextR.assign rfl ?_
        refine TextR.done (.cons rfl (.cons rfl (.cons rfl (.cons rfl .nil)))) ?_
        obtain ⟨x6, hx6, h⟩ := bind_some h
        obtain ⟨x7, hx7, h⟩ := bind_some h
        obtain ⟨x8, hx8, h⟩ := bind_some h
        obtain ⟨x9, hx9, h⟩ := bind_some h
        obtain ⟨x10, hx10, h⟩ := bind_some h
        obtain ⟨x11, hx11, h⟩ := bind_some h
        refine Wp.ways (S0 := ⟨[(0, .c (.slv (a0.map eI))), (3, .c (.sl 1 3 0 x11.length)), (4, .c (I s4_1))], [.live wh0_1 1 (l0_1.map eI), .live 3 1 (x11.map eI), .live 0 1 ([x8].map eI)]⟩) mixed ?_ ?_ -- region 7 WAYS
        · refine RegAny.fork 9 4 [0, 1, 2, 3, 4, 5, 6, 7, 8, 9, 10, 11, 12, 13, 14, 15] [0, 1, 2, 3, 5, 6, 7, 8, 9, 4, 10, 11, 12, 13, 14, 15] rfl rfl rfl rfl ?_ ?_
          · refine RegAny.leaf ⟨[1, 2], []⟩ [[], [], [], [], [], [], [], [], [], [], [], [], [], [], [], []] [false, true, true, true, false, true, true, true, true, false, false, true, true, true, false, false] [0, 3, 4] rfl (by kernel_rfl) rfl ?_
            refine RunR.buildSlice  1 se27 rfl rfl rfl rfl rfl (.cons .nil) ?_
            refine RunR.move rfl rfl rfl ?_
            refine RunR.move rfl rfl rfl ?_
            refine RunR.sliceOM se27 rfl rfl rfl rfl rfl (obj_of rfl) rfl rfl hx6 ?_
            refine RunR.appendM eI ([] : List Int) ((l0_1.drop 0).take x6.length) x7 (app_eq hx7) se27 rfl rfl rfl rfl rfl (view_piece (f := eI) (xs := l0_1) (obj_of rfl) (by have q0 := sub_le hx6; first | exact q0 | (simp only [List.length_set, List.length_take, List.length_drop, length_cpy, length_clr] at *; omega))) (fun _ => rfl) rfl (app_len hx7) (.succ .zero) ?_
            refine RunR.move rfl rfl rfl ?_
            refine RunR.move rfl rfl rfl ?_
            refine RunR.indexA se27 rfl rfl rfl rfl rfl hx8 rfl ?_
            refine RunR.load1M tk3 rfl rfl rfl (at_get hx8) rfl ?_
            refine RunR.buildSlice (rows := [x8].map eI) 2 se27 rfl rfl rfl rfl rfl (.cons (.cons .nil)) ?_
            refine RunR.appendM eI x7 [x8] x9 (app_eq hx9) se27 rfl rfl rfl rfl rfl (view_whole (f := eI) (xs := [x8]) rfl) (fun _ => rfl) rfl (app_len hx9) (.succ .zero) ?_
            refine RunR.move rfl rfl rfl ?_
            refine RunR.move rfl rfl rfl ?_
            refine RunR.sliceOM se27 rfl rfl rfl rfl rfl (obj_of rfl) rfl rfl hx10 ?_
            refine RunR.appendM eI x9 ((l0_1.drop (Int.toNat y5)).take x10.length) x11 (app_eq hx11) se27 rfl rfl rfl rfl rfl (view_piece (f := eI) (xs := l0_1) (obj_of rfl) (by have q0 := sub_le hx10; first | exact q0 | (simp only [List.length_set, List.length_take, List.length_drop, length_cpy, length_clr] at *; omega))) (fun _ => rfl) rfl (app_len hx11) (.succ .zero) ?_
            refine RunR.assign rfl rfl rfl ?_
            refine RunR.nil ⟨_, (.cons rfl (.cons rfl (.cons rfl .nil))), .refl⟩
          · refine RegAny.fork 8 0 [0, 1, 2, 3, 4, 5, 6, 7, 8, 9, 10, 11, 12, 13, 14, 15] [1, 2, 3, 4, 5, 6, 7, 8, 0, 9, 10, 11, 12, 13, 14, 15] rfl rfl rfl rfl ?_ ?_
            · refine RegAny.leaf ⟨[1, 2], []⟩ [[], [], [], [], [], [], [], [], [], [], [], [], [], [], [], []] [false, true, true, true, true, true, true, true, false, false, false, true, true, true, false, false] [0, 3, 4] rfl (by kernel_rfl) rfl ?_
              refine RunR.buildSlice  1 se27 rfl rfl rfl rfl rfl (.cons .nil) ?_
              refine RunR.move rfl rfl rfl ?_
              refine RunR.move rfl rfl rfl ?_
              refine RunR.sliceOM se27 rfl rfl rfl rfl rfl (obj_of rfl) rfl rfl hx6 ?_
              refine RunR.move rfl rfl rfl ?_
              refine RunR.move rfl rfl rfl ?_
              refine RunR.indexA se27 rfl rfl rfl rfl rfl hx8 rfl ?_
              refine RunR.load1M tk3 rfl rfl rfl (at_get hx8) rfl ?_
              refine RunR.buildSlice (rows := [x8].map eI) 2 se27 rfl rfl rfl rfl rfl (.cons (.cons .nil)) ?_
              refine RunR.appendM eI ([] : List Int) ((l0_1.drop 0).take x6.length) x7 (app_eq hx7) se27 rfl rfl rfl rfl rfl (view_piece (f := eI) (xs := l0_1) (obj_of rfl) (by have q0 := sub_le hx6; first | exact q0 | (simp only [List.length_set, List.length_take, List.length_drop, length_cpy, length_clr] at *; omega))) (fun _ => rfl) rfl (app_len hx7) (.succ .zero) ?_
              refine RunR.appendM eI x7 [x8] x9 (app_eq hx9) se27 rfl rfl rfl rfl rfl (view_whole (f := eI) (xs := [x8]) rfl) (fun _ => rfl) rfl (app_len hx9) (.succ .zero) ?_
              refine RunR.move rfl rfl rfl ?_
              refine RunR.move rfl rfl rfl ?_
              refine RunR.sliceOM se27 rfl rfl rfl rfl rfl (obj_of rfl) rfl rfl hx10 ?_
              refine RunR.appendM eI x9 ((l0_1.drop (Int.toNat y5)).take x10.length) x11 (app_eq hx11) se27 rfl rfl rfl rfl rfl (view_piece (f := eI) (xs := l0_1) (obj_of rfl) (by have q0 := sub_le hx10; first | exact q0 | (simp only [List.length_set, List.length_take, List.length_drop, length_cpy, length_clr] at *; omega))) (fun _ => rfl) rfl (app_len hx11) (.succ .zero) ?_
              refine RunR.assign rfl rfl rfl ?_
              refine RunR.nil ⟨_, (.cons rfl (.cons rfl (.cons rfl .nil))), .refl⟩
            · refine RegAny.leaf ⟨[1, 2], []⟩ [[], [], [], [], [], [], [], [], [], [], [], [], [], [], [], []] [true, true, true, false, false, false, false, false, false, false, false, true, true, true, false, false] [0, 3, 4] rfl (by kernel_rfl) rfl ?_
              refine RunR.move rfl rfl rfl ?_
              refine RunR.move rfl rfl rfl ?_
              refine RunR.sliceOM se27 rfl rfl rfl rfl rfl (obj_of rfl) rfl rfl hx6 ?_
              refine RunR.move rfl rfl rfl ?_
              refine RunR.move rfl rfl rfl ?_
              refine RunR.indexA se27 rfl rfl rfl rfl rfl hx8 rfl ?_
              refine RunR.load1M tk3 rfl rfl rfl (at_get hx8) rfl ?_
              refine RunR.buildSlice (rows := [x8].map eI) 1 se27 rfl rfl rfl rfl rfl (.cons .nil) ?_
              refine RunR.buildSlice  2 se27 rfl rfl rfl rfl rfl (.cons (.cons .nil)) ?_
              refine RunR.appendM eI ([] : List Int) ((l0_1.drop 0).take x6.length) x7 (app_eq hx7) se27 rfl rfl rfl rfl rfl (view_piece (f := eI) (xs := l0_1) (obj_of rfl) (by have q0 := sub_le hx6; first | exact q0 | (simp only [List.length_set, List.length_take, List.length_drop, length_cpy, length_clr] at *; omega))) (fun _ => rfl) rfl (app_len hx7) (.succ (.succ .zero)) ?_
              refine RunR.appendM eI x7 [x8] x9 (app_eq hx9) se27 rfl rfl rfl rfl rfl (view_whole (f := eI) (xs := [x8]) rfl) (fun _ => rfl) rfl (app_len hx9) (.succ (.succ .zero)) ?_
              refine RunR.move rfl rfl rfl ?_
              refine RunR.move rfl rfl rfl ?_
              refine RunR.sliceOM se27 rfl rfl rfl rfl rfl (obj_of rfl) rfl rfl hx10 ?_
              refine RunR.appendM eI x9 ((l0_1.drop (Int.toNat y5)).take x10.length) x11 (app_eq hx11) se27 rfl rfl rfl rfl rfl (view_piece (f := eI) (xs := l0_1) (obj_of rfl) (by have q0 := sub_le hx10; first | exact q0 | (simp only [List.length_set, List.length_take, List.length_drop, length_cpy, length_clr] at *; omega))) (fun _ => rfl) rfl (app_len hx11) (.succ (.succ .zero)) ?_
              refine RunR.assign rfl rfl rfl ?_
              refine RunR.nil ⟨_, (.cons rfl (.cons rfl (.cons rfl .nil))), (pickT (e' := [(0, .c (.slv (a0.map eI))), (3, .c (.sl 1 3 0 x11.length)), (4, .c (I s4_1))]) (H' := [.live wh0_1 1 (l0_1.map eI), .live 3 1 (x11.map eI), .live 0 1 ([x8].map eI)]) [0, 2, 1] [0, 2, 1] 0 hok.len.symm rfl rfl (by decide) (by first | rfl | simp [-List.map_set]) (by first | rfl | simp [-List.map_set]) (by first | rfl | simp [-List.map_set]) (by first | rfl | simp [-List.map_set]))⟩
        refine Wp.text [0, 3, 4] rfl rfl ?_ -- region 4
        refine TextR.move rfl ?_
        refine TextR.int rfl rfl rfl ?_
        refine TextR.assign rfl ?_
        refine TextR.done (.cons rfl (.cons rfl (.cons rfl .nil))) ?_
        exact ⟨m1, Nat.lt_succ_self _, _, (St.Weak.trans (keepW (live := [0, 3, 4]) (.cons rfl (.cons rfl (.cons rfl .nil)))) (pickT (e' := [(0, .c (.slv (a0.map eI))), (3, .c (.sl 0 3 0 x11.length)), (4, .c (I (w64 (s4_1 + 1))))]) (H' := [.live 3 1 (x11.map eI)]) [1] [0, 0, 0] 0 hok.len.symm rfl rfl (by decide) (by first | rfl | simp [-List.map_set]) (by first | rfl | simp [-List.map_set]) (by first | rfl | simp [-List.map_set]) (by first | rfl | simp [-List.map_set]))), _, _, _, h, rfl⟩
    · refine Wp.exit ?_
      obtain rfl := Option.some.inj h
      exact ⟨_, _, (keepW (live := [3]) (.cons rfl .nil)), rfl⟩
  rintro _ ⟨wz1_0, S', hw, rfl⟩
  clear hz1
  refine Wp.weak hw ?_
  refine Wp.seq ?_
  refine Wp.text [2] rfl rfl ?_ -- region 8
  refine TextR.move rfl ?_
  refine TextR.assign rfl ?_
  refine TextR.done (.cons rfl .nil) ?_
  refine Wp.weak (keepW (live := [2] ) (.cons rfl .nil)) ?_
  refine Wp.weak (freezeW (h := 0) (ver := wz1_0) (rows := z1.map eI) (e' := [(2, .c (.slv (z1.map eI)))]) (H' := [.dead]) (obj_of rfl) (by first | rfl | simp [-List.map_set]) (by first | rfl | simp [-List.map_set])) ?_
  refine Wp.ret ?_
  obtain rfl := Option.some.inj h
  exact Ret.one rfl (resV_tmp rfl) rfl
theorem c_narthexref01_Of (N : Nat) (a0 : List Int) (r : (List Int)) (h : narthexref01_Of N a0 = some r) (H : List Ob) : DCall Try.prog 52 [.c (.slv (a0.map eI))] H (.c (.slv (r.map eI))) := DCall.lift (by first | rfl | simp [-List.map_set]) (by first | rfl | simp [-List.map_set]) (fun _ => by simp [-List.map_set]) (w_narthexref01_Of N a0 r h) H
-- narthex/narthexref15.Open
theorem w_narthexref15_Open (N : Nat) (a0 : TDrinker) (a1 : List Int) (r : TDrinker × Int) (h : narthexref15_Open N a0 a1 = some r) : Nx.Call Try.prog 23 [.agg (eDrinker a0), .c (.slv (a1.map eI))] [] fun r' _ => r' = .tup [.agg (eDrinker r.1), .c (I r.2)] := by
  refine Nx.Call.of_body Try.func23 rfl en23 Try.ntmps23 rfl (fun Γ hok => ?_)
  unfold narthexref15_Open at h
  refine Wp.seq ?_
  refine Wp.text [1, 2, 4] rfl rfl ?_ -- region 0
  refine TextR.box (cs := [I a0.Diner.ID, I a0.Diner.Phase, .slv (a0.Diner.Sides.map eSide), I a0.Thirst, .slv (a0.Need.map eI)]) 0 rfl rfl rfl rfl .nil ?_
  refine TextR.alloc 1 zc29 rfl rfl (.cons .nil) ?_
  refine TextR.assign rfl ?_
  refine TextR.done (.cons rfl (.cons rfl (.cons rfl .nil))) ?_
  refine Wp.seq ?_
  refine Wp.seq ?_
  obtain ⟨y1, hy1, h⟩ := bind_some h
  refine Wp.text [1, 2, 4, 10] rfl rfl ?_ -- region 1
  refine TextR.loadN (cs := [I a0.Diner.ID, I a0.Diner.Phase, .slv (a0.Diner.Sides.map eSide), I a0.Thirst, .slv (a0.Need.map eI)]) tk29 rfl rfl ?_
  refine TextR.dcall rfl rfl (c_narthexref15_Check N a0 y1 hy1 _) ?_
  refine TextR.not rfl ?_
  refine TextR.done (.cons rfl (.cons rfl (.cons rfl (.cons rfl .nil)))) ?_
  refine Wp.condM h rfl (fun hc1 h => ?_) (fun hc1 h => ?_)
  · refine Wp.seq ?_
    refine Wp.text [4, 5] rfl rfl ?_ -- region 2
    refine TextR.build cm29 rfl ?_
    refine TextR.store1 tk29 rfl rfl rfl rfl rfl rfl (.succ .zero) ?_
    refine TextR.assign rfl ?_
    refine TextR.done (.cons rfl (.cons rfl .nil)) ?_
    refine Wp.weak (keepW (live := [4, 5] ) (.cons rfl (.cons rfl .nil))) ?_
    refine Wp.weak (nzT (e' := [(4, .c (.ptr 1 0 0 0)), (5, .c (I 150))]) (H' := [.live 0 5 [[I a0.Diner.ID, I a0.Diner.Phase, .slv (a0.Diner.Sides.map eSide), I a0.Thirst, .slv (a0.Need.map eI)]], .live 0 5 [[I 0, I 0, .slv ([].map eSide), I 0, .slv ([].map eI)]]]) (by first | rfl | simp [-List.map_set]) (by first | rfl | simp [-List.map_set])) ?_
    refine Wp.ret ?_
    obtain rfl := Option.some.inj h
    exact Ret.two rfl (resV_cellN tk29 rfl rfl) (resV_tmp rfl) rfl
  · refine Wp.skip ?_
    refine Wp.seq ?_
    refine Wp.seq ?_
    refine Wp.text [1, 2, 4, 14] rfl rfl ?_ -- region 3
    refine TextR.fieldAddr fo29_1 rfl rfl rfl ?_
    refine TextR.load1 tk26 rfl rfl ?_
    refine TextR.int rfl rfl rfl ?_
    refine TextR.done (.cons rfl (.cons rfl (.cons rfl (.cons rfl .nil)))) ?_
    refine Wp.condM h rfl (fun hc2 h => ?_) (fun hc2 h => ?_)
    · refine Wp.seq ?_
      refine Wp.text [4, 5] rfl rfl ?_ -- region 4
      refine TextR.build cm29 rfl ?_
      refine TextR.store1 tk29 rfl rfl rfl rfl rfl rfl (.succ .zero) ?_
      refine TextR.assign rfl ?_
      refine TextR.done (.cons rfl (.cons rfl .nil)) ?_
      refine Wp.weak (keepW (live := [4, 5] ) (.cons rfl (.cons rfl .nil))) ?_
      refine Wp.weak (nzT (e' := [(4, .c (.ptr 1 0 0 0)), (5, .c (I 152))]) (H' := [.live 0 5 [[I a0.Diner.ID, I a0.Diner.Phase, .slv (a0.Diner.Sides.map eSide), I a0.Thirst, .slv (a0.Need.map eI)]], .live 0 5 [[I 0, I 0, .slv ([].map eSide), I 0, .slv ([].map eI)]]]) (by first | rfl | simp [-List.map_set]) (by first | rfl | simp [-List.map_set])) ?_
      refine Wp.ret ?_
      obtain rfl := Option.some.inj h
      exact Ret.two rfl (resV_cellN tk29 rfl rfl) (resV_tmp rfl) rfl
    · refine Wp.skip ?_
      refine Wp.seq ?_
      refine Wp.seq ?_
      refine Wp.text [1, 2, 4, 6] rfl rfl ?_ -- region 5
      refine TextR.assign rfl ?_
      refine TextR.done (.cons rfl (.cons rfl (.cons rfl (.cons rfl .nil)))) ?_
      obtain ⟨z2, hz2, h⟩ := bind_some h
      refine Wp.fragR (fun S => ∃ z4, z2 = .inr z4 ∧ ∃ S', St.Weak ⟨Try.prog, 46, Γ⟩ S S' ∧ S' = ⟨[(1, .c (.slv (a1.map eI))), (2, .c (.ptr 0 0 0 0)), (4, .c (.ptr 1 0 0 0))], [.live 0 5 [[I a0.Diner.ID, I a0.Diner.Phase, .slv (a0.Diner.Sides.map eSide), I a0.Thirst, .slv (a0.Need.map eI)]], .live 0 5 [[I 0, I 0, nilS, I 0, nilS]]]⟩) (fun S => ∃ v, z2 = .inl v ∧ Ret Try.prog Try.f23 (fun r' _ => r' = .tup [.agg (eDrinker v.1), .c (I v.2)]) .ret S) ?_ ?_ ?_
      · replace h := hz2
        refine Wp.block ?_
        refine Wp.weak (keepW (live := [1, 2, 4, 6]) (.cons rfl (.cons rfl (.cons rfl (.cons rfl .nil))))) ?_
        refine Wp.loop (fun m S => ∃ s6_1, narthexref15_Open_L1 N a0 a1 m s6_1 = some z2 ∧ S = ⟨[(1, .c (.slv (a1.map eI))), (2, .c (.ptr 0 0 0 0)), (4, .c (.ptr 1 0 0 0)), (6, .c (I s6_1))], [.live 0 5 [[I a0.Diner.ID, I a0.Diner.Phase, .slv (a0.Diner.Sides.map eSide), I a0.Thirst, .slv (a0.Need.map eI)]], .live 0 5 [[I 0, I 0, nilS, I 0, nilS]]]⟩) N ⟨_, h, rfl⟩ ?_
        rintro m1 _ ⟨s6_1, h, rfl⟩
        cases m1 with
        | zero => rw [narthexref15_Open_L1.eq_1] at h; cases h
        | succ m1 =>
        rw [narthexref15_Open_L1.eq_2] at h
        refine Wp.seq ?_
        refine Wp.seq ?_
        refine Wp.text [1, 2, 4, 6, 19] rfl rfl ?_ -- region 6
        refine TextR.move rfl ?_
        refine TextR.move rfl ?_
        refine TextR.lenM us27 rfl rfl ?_
        refine TextR.int rfl rfl rfl ?_
        refine TextR.done (.cons rfl (.cons rfl (.cons rfl (.cons rfl (.cons rfl .nil))))) ?_
        refine Wp.condM h rfl (fun hc4 h => ?_) (fun hc4 h => ?_)
        · refine Wp.skip ?_
          refine Wp.seq ?_
          refine Wp.block ?_
          refine Wp.seq ?_
          obtain ⟨x5, hx5, h⟩ := bind_some h
          obtain ⟨y6, hy6, h⟩ := bind_some h
          refine Wp.go true (some ⟨[], []⟩) [] [] [1, 2, 4, 6, 7] mixed rfl rfl (by kernel_rfl) ?_ -- region 8
          refine RunR.loadN (cs := [I a0.Diner.ID, I a0.Diner.Phase, .slv (a0.Diner.Sides.map eSide), I a0.Thirst, .slv (a0.Need.map eI)]) tk29 rfl rfl rfl rfl ?_
          refine RunR.move rfl rfl rfl ?_
          refine RunR.move rfl rfl rfl ?_
          refine RunR.indexA se27 rfl rfl rfl rfl rfl hx5 rfl ?_
          refine RunR.load1M tk3 rfl rfl rfl (at_get hx5) rfl ?_
          refine RunR.call rfl rfl rfl (fun H => c_narthexref15_side N a0 x5 y6 hy6 H) ?_
          refine RunR.assign rfl rfl rfl ?_
          refine RunR.doneQ (.cons rfl (.cons rfl (.cons rfl (.cons rfl (.cons rfl .nil))))) ?_
          refine Wp.seq ?_
          obtain ⟨x7, hx7, h⟩ := bind_some h
          refine Wp.go false none [[], [], [], [(30, false)], [(30, false)], [(30, false)], [(30, false)], [(30, false)], [(30, false)], [(30, false)], [(30, false)], []] [] [1, 2, 4, 6, 39] mixed rfl rfl (by kernel_rfl) ?_ -- region 9
          refine RunR.move rfl rfl rfl ?_
          refine RunR.int rfl rfl rfl rfl rfl ?_
          refine RunR.move rfl rfl rfl ?_
          refine RunR.fieldAddr fo29_0 rfl rfl rfl rfl rfl ?_
          refine RunR.fieldAddr fo25_2 rfl rfl rfl rfl rfl ?_
          refine RunR.load1 tk23 rfl rfl rfl rfl ?_
          refine RunR.move rfl rfl rfl ?_
          refine RunR.indexAG se23 rfl rfl rfl rfl rfl (ifPos hx7 gF) (ifAt hx7 gF) rfl ?_
          refine RunR.fieldAddr fo53_2 rfl rfl rfl rfl rfl ?_
          refine RunR.load1G tk51 rfl rfl rfl (ifAt hx7 gF) rfl ?_
          refine RunR.int rfl rfl rfl rfl rfl ?_
          refine RunR.pickOr rfl rfl rfl rfl ?_
          refine RunR.doneQ (.cons rfl (.cons rfl (.cons rfl (.cons rfl (.cons rfl .nil))))) ?_
          refine Wp.condM h rfl (fun hc5 h => ?_) (fun hc5 h => ?_)
          · refine Wp.seq ?_
            refine Wp.text [4, 5] rfl rfl ?_ -- region 10
            refine TextR.build cm29 rfl ?_
            refine TextR.store1 tk29 rfl rfl rfl rfl rfl rfl (.succ .zero) ?_
            refine TextR.assign rfl ?_
            refine TextR.done (.cons rfl (.cons rfl .nil)) ?_
            refine Wp.weak (keepW (live := [4, 5] ) (.cons rfl (.cons rfl .nil))) ?_
            refine Wp.weak (nzT (e' := [(4, .c (.ptr 1 0 0 0)), (5, .c (I 151))]) (H' := [.live 0 5 [[I a0.Diner.ID, I a0.Diner.Phase, .slv (a0.Diner.Sides.map eSide), I a0.Thirst, .slv (a0.Need.map eI)]], .live 0 5 [[I 0, I 0, .slv ([].map eSide), I 0, .slv ([].map eI)]]]) (by first | rfl | simp [-List.map_set]) (by first | rfl | simp [-List.map_set])) ?_
            refine Wp.ret ?_
            exact ⟨_, (Option.some.inj h).symm, Ret.two rfl (resV_cellN tk29 rfl rfl) (resV_tmp rfl) rfl⟩
          · refine Wp.skip ?_
            refine Wp.text [1, 2, 4, 6] rfl rfl ?_ -- region 7
            refine TextR.move rfl ?_
            refine TextR.int rfl rfl rfl ?_
            refine TextR.assign rfl ?_
            refine TextR.done (.cons rfl (.cons rfl (.cons rfl (.cons rfl .nil)))) ?_
            exact ⟨m1, Nat.lt_succ_self _, _, (keepW (live := [1, 2, 4, 6]) (.cons rfl (.cons rfl (.cons rfl (.cons rfl .nil))))), _, h, rfl⟩
        · refine Wp.exit ?_
          exact ⟨_, (Option.some.inj h).symm, _, (keepW (live := [1, 2, 4]) (.cons rfl (.cons rfl (.cons rfl .nil)))), rfl⟩
      · rintro _ ⟨z4, rfl, _, hw, rfl⟩
        dsimp only at h
        clear hz2
        refine Wp.weak hw ?_
        refine Wp.seq ?_
        obtain ⟨y8, hy8, h⟩ := bind_some h
        refine Wp.text [2, 4] rfl rfl ?_ -- region 11
        refine TextR.move rfl ?_
        refine TextR.dcall rfl rfl (c_narthexref01_Of N a1 y8 hy8 _) ?_
        refine TextR.fieldAddr fo29_1 rfl rfl rfl ?_
        refine TextR.storeF (r' := [I a0.Diner.ID, I a0.Diner.Phase, .slv (a0.Diner.Sides.map eSide), I 1, .slv (a0.Need.map eI)]) tk26 rfl rfl rfl rfl rfl rfl rfl .zero ?_
        refine TextR.fieldAddr fo29_2 rfl rfl rfl ?_
        refine TextR.storeF (r' := [I a0.Diner.ID, I a0.Diner.Phase, .slv (a0.Diner.Sides.map eSide), I 1, .slv (y8.map eI)]) tk27 rfl rfl rfl rfl rfl rfl rfl .zero ?_
        refine TextR.done (.cons rfl (.cons rfl .nil)) ?_
        refine Wp.seq ?_
        refine Wp.text [4, 5] rfl rfl ?_ -- region 12
        refine TextR.loadN (cs := [I a0.Diner.ID, I a0.Diner.Phase, .slv (a0.Diner.Sides.map eSide), I 1, .slv (y8.map eI)]) tk29 rfl rfl ?_
        refine TextR.store1 tk29 rfl rfl rfl rfl rfl rfl (.succ .zero) ?_
        refine TextR.assign rfl ?_
        refine TextR.done (.cons rfl (.cons rfl .nil)) ?_
        refine Wp.ret ?_
        obtain rfl := Option.some.inj h
        exact Ret.two rfl (resV_cellN tk29 rfl rfl) (resV_tmp rfl) rfl
      · rintro S' ⟨r3, rfl, hR⟩
        dsimp only at h
        obtain rfl := Option.some.inj h
        exact hR
theorem c_narthexref15_Open (N : Nat) (a0 : TDrinker) (a1 : List Int) (r : TDrinker × Int) (h : narthexref15_Open N a0 a1 = some r) (H : List Ob) : DCall Try.prog 23 [.agg (eDrinker a0), .c (.slv (a1.map eI))] H (.tup [.agg (eDrinker r.1), .c (I r.2)]) := DCall.lift (by first | rfl | simp [-List.map_set]) (by first | rfl | simp [-List.map_set]) (fun _ => by simp [-List.map_set]) (w_narthexref15_Open N a0 a1 r h) H
-- narthex/narthexref15.Close
theorem w_narthexref15_Close (N : Nat) (a0 : TDrinker) (r : TDrinker × Int) (h : narthexref15_Close N a0 = some r) : Nx.Call Try.prog 25 [.agg (eDrinker a0)] [] fun r' _ => r' = .tup [.agg (eDrinker r.1), .c (I r.2)] := by
  refine Nx.Call.of_body Try.func25 rfl en25 Try.ntmps25 rfl (fun Γ hok => ?_)
  unfold narthexref15_Close at h
  refine Wp.seq ?_
  refine Wp.text [1, 2] rfl rfl ?_ -- region 0
  refine TextR.box (cs := [I a0.Diner.ID, I a0.Diner.Phase, .slv (a0.Diner.Sides.map eSide), I a0.Thirst, .slv (a0.Need.map eI)]) 0 rfl rfl rfl rfl .nil ?_
  refine TextR.alloc 1 zc29 rfl rfl (.cons .nil) ?_
  refine TextR.assign rfl ?_
  refine TextR.done (.cons rfl (.cons rfl .nil)) ?_
  refine Wp.seq ?_
  refine Wp.seq ?_
  obtain ⟨y1, hy1, h⟩ := bind_some h
  refine Wp.text [1, 2, 6] rfl rfl ?_ -- region 1
  refine TextR.loadN (cs := [I a0.Diner.ID, I a0.Diner.Phase, .slv (a0.Diner.Sides.map eSide), I a0.Thirst, .slv (a0.Need.map eI)]) tk29 rfl rfl ?_
  refine TextR.dcall rfl rfl (c_narthexref15_Check N a0 y1 hy1 _) ?_
  refine TextR.not rfl ?_
  refine TextR.done (.cons rfl (.cons rfl (.cons rfl .nil))) ?_
  refine Wp.condM h rfl (fun hc1 h => ?_) (fun hc1 h => ?_)
  · refine Wp.seq ?_
    refine Wp.text [2, 3] rfl rfl ?_ -- region 2
    refine TextR.build cm29 rfl ?_
    refine TextR.store1 tk29 rfl rfl rfl rfl rfl rfl (.succ .zero) ?_
    refine TextR.assign rfl ?_
    refine TextR.done (.cons rfl (.cons rfl .nil)) ?_
    refine Wp.weak (keepW (live := [2, 3] ) (.cons rfl (.cons rfl .nil))) ?_
    refine Wp.weak (nzT (e' := [(2, .c (.ptr 1 0 0 0)), (3, .c (I 150))]) (H' := [.live 0 5 [[I a0.Diner.ID, I a0.Diner.Phase, .slv (a0.Diner.Sides.map eSide), I a0.Thirst, .slv (a0.Need.map eI)]], .live 0 5 [[I 0, I 0, .slv ([].map eSide), I 0, .slv ([].map eI)]]]) (by first | rfl | simp [-List.map_set]) (by first | rfl | simp [-List.map_set])) ?_
    refine Wp.ret ?_
    obtain rfl := Option.some.inj h
    exact Ret.two rfl (resV_cellN tk29 rfl rfl) (resV_tmp rfl) rfl
  · refine Wp.skip ?_
    refine Wp.seq ?_
    refine Wp.seq ?_
    refine Wp.text [1, 2, 10] rfl rfl ?_ -- region 3
    refine TextR.fieldAddr fo29_1 rfl rfl rfl ?_
    refine TextR.load1 tk26 rfl rfl ?_
    refine TextR.int rfl rfl rfl ?_
    refine TextR.done (.cons rfl (.cons rfl (.cons rfl .nil))) ?_
    refine Wp.condM h rfl (fun hc2 h => ?_) (fun hc2 h => ?_)
    · refine Wp.seq ?_
      refine Wp.text [2, 3] rfl rfl ?_ -- region 4
      refine TextR.build cm29 rfl ?_
      refine TextR.store1 tk29 rfl rfl rfl rfl rfl rfl (.succ .zero) ?_
      refine TextR.assign rfl ?_
      refine TextR.done (.cons rfl (.cons rfl .nil)) ?_
      refine Wp.weak (keepW (live := [2, 3] ) (.cons rfl (.cons rfl .nil))) ?_
      refine Wp.weak (nzT (e' := [(2, .c (.ptr 1 0 0 0)), (3, .c (I 152))]) (H' := [.live 0 5 [[I a0.Diner.ID, I a0.Diner.Phase, .slv (a0.Diner.Sides.map eSide), I a0.Thirst, .slv (a0.Need.map eI)]], .live 0 5 [[I 0, I 0, .slv ([].map eSide), I 0, .slv ([].map eI)]]]) (by first | rfl | simp [-List.map_set]) (by first | rfl | simp [-List.map_set])) ?_
      refine Wp.ret ?_
      obtain rfl := Option.some.inj h
      exact Ret.two rfl (resV_cellN tk29 rfl rfl) (resV_tmp rfl) rfl
    · refine Wp.skip ?_
      refine Wp.seq ?_
      refine Wp.text [1, 2] rfl rfl ?_ -- region 5
      refine TextR.fieldAddr fo29_1 rfl rfl rfl ?_
      refine TextR.storeF (r' := [I a0.Diner.ID, I a0.Diner.Phase, .slv (a0.Diner.Sides.map eSide), I 0, .slv (a0.Need.map eI)]) tk26 rfl rfl rfl rfl rfl rfl rfl .zero ?_
      refine TextR.fieldAddr fo29_2 rfl rfl rfl ?_
      refine TextR.storeF (r' := [I a0.Diner.ID, I a0.Diner.Phase, .slv (a0.Diner.Sides.map eSide), I 0, nilS]) tk27 rfl rfl rfl rfl rfl rfl rfl .zero ?_
      refine TextR.done (.cons rfl (.cons rfl .nil)) ?_
      refine Wp.seq ?_
      refine Wp.text [2, 3] rfl rfl ?_ -- region 6
      refine TextR.loadN (cs := [I a0.Diner.ID, I a0.Diner.Phase, .slv (a0.Diner.Sides.map eSide), I 0, nilS]) tk29 rfl rfl ?_
      refine TextR.store1 tk29 rfl rfl rfl rfl rfl rfl (.succ .zero) ?_
      refine TextR.assign rfl ?_
      refine TextR.done (.cons rfl (.cons rfl .nil)) ?_
      refine Wp.weak (keepW (live := [2, 3] ) (.cons rfl (.cons rfl .nil))) ?_
      refine Wp.weak (nzT (e' := [(2, .c (.ptr 1 0 0 0)), (3, .c (I 0))]) (H' := [.live 0 5 [[I a0.Diner.ID, I a0.Diner.Phase, .slv (a0.Diner.Sides.map eSide), I 0, .slv ([].map eI)]], .live 0 5 [[I a0.Diner.ID, I a0.Diner.Phase, .slv (a0.Diner.Sides.map eSide), I 0, .slv ([].map eI)]]]) (by first | rfl | simp [-List.map_set]) (by first | rfl | simp [-List.map_set])) ?_
      refine Wp.ret ?_
      obtain rfl := Option.some.inj h
      exact Ret.two rfl (resV_cellN tk29 rfl rfl) (resV_tmp rfl) rfl
theorem c_narthexref15_Close (N : Nat) (a0 : TDrinker) (r : TDrinker × Int) (h : narthexref15_Close N a0 = some r) (H : List Ob) : DCall Try.prog 25 [.agg (eDrinker a0)] H (.tup [.agg (eDrinker r.1), .c (I r.2)]) := DCall.lift (by first | rfl | simp [-List.map_set]) (by first | rfl | simp [-List.map_set]) (fun _ => by simp [-List.map_set]) (w_narthexref15_Close N a0 r h) H
-- narthex/narthexlaw15.DrinkOpens
theorem w_narthexlaw15_DrinkOpens (N : Nat) (a0 : TDrinker) (a1 : List Int) (r : Bool) (h : narthexlaw15_DrinkOpens N a0 a1 = some r) : Nx.Call Try.prog 5 [.agg (eDrinker a0), .c (.slv (a1.map eI))] [] fun r' _ => r' = .c (B r) := by
  refine Nx.Call.of_body Try.func5 rfl en5 Try.ntmps5 rfl (fun Γ hok => ?_)
  unfold narthexlaw15_DrinkOpens at h
  refine Wp.seq ?_
  refine Wp.text [1, 2] rfl rfl ?_ -- region 0
  refine TextR.box (cs := [I a0.Diner.ID, I a0.Diner.Phase, .slv (a0.Diner.Sides.map eSide), I a0.Thirst, .slv (a0.Need.map eI)]) 0 rfl rfl rfl rfl .nil ?_
  refine TextR.assign rfl ?_
  refine TextR.done (.cons rfl (.cons rfl .nil)) ?_
  refine Wp.seq ?_
  refine Wp.seq ?_
  obtain ⟨y1, hy1, h⟩ := bind_some h
  obtain ⟨y2, hy2, h⟩ := bind_some h
  refine Wp.go false none [[], [], [], [(15, false)], [(15, false)], [(15, false)], [], [], [(20, false)], [(20, false)], [(20, false)], []] [] [1, 2, 24] mixed rfl rfl (by kernel_rfl) ?_ -- region 1
  refine RunR.call rfl rfl rfl (fun H => c_narthexlaw15_awake N y1 hy1 H) ?_
  refine RunR.not rfl rfl rfl ?_
  refine RunR.move rfl rfl rfl ?_
  refine RunR.loadN (cs := [I a0.Diner.ID, I a0.Diner.Phase, .slv (a0.Diner.Sides.map eSide), I a0.Thirst, .slv (a0.Need.map eI)]) tk29 rfl rfl rfl rfl ?_
  refine RunR.callG rfl rfl rfl (fun hb H => c_narthexlaw15_few N a0 y2 (ifT hy2 gF hb) H) ?_
  refine RunR.not rfl rfl rfl ?_
  refine RunR.pickOr rfl rfl rfl rfl ?_
  refine RunR.move rfl rfl rfl ?_
  refine RunR.move rfl rfl rfl ?_
  refine RunR.lenM us27 rfl rfl rfl rfl ?_
  refine RunR.int rfl rfl rfl rfl rfl ?_
  refine RunR.pickOr rfl rfl rfl rfl ?_
  refine RunR.doneQ (.cons rfl (.cons rfl (.cons rfl .nil))) ?_
  refine Wp.condM h rfl (fun hc1 h => ?_) (fun hc1 h => ?_)
  · refine Wp.seq ?_
    obtain ⟨y3, hy3, h⟩ := bind_some h
    refine Wp.text [4] rfl rfl ?_ -- region 2
    refine TextR.dcall rfl rfl (c_narthexlaw15_awake N y3 hy3 _) ?_
    refine TextR.assign rfl ?_
    refine TextR.done (.cons rfl .nil) ?_
    refine Wp.ret ?_
    obtain rfl := Option.some.inj h
    exact Ret.one rfl (resV_tmp rfl) rfl
  · refine Wp.skip ?_
    refine Wp.seq ?_
    obtain ⟨y4, hy4, h⟩ := bind_some h
    obtain ⟨x5, hx5, h⟩ := bind_some h
    obtain ⟨y6, hy6, h⟩ := bind_some h
    refine Wp.text [1, 2, 5, 6] rfl rfl ?_ -- region 3
    refine TextR.loadN (cs := [I a0.Diner.ID, I a0.Diner.Phase, .slv (a0.Diner.Sides.map eSide), I a0.Thirst, .slv (a0.Need.map eI)]) tk29 rfl rfl ?_
    refine TextR.dcall rfl rfl (c_narthexlaw15_Own N a0 y4 hy4 _) ?_
    refine TextR.buildSlice  1 se27 rfl rfl rfl (.cons .nil) ?_
    refine TextR.move rfl ?_
    refine TextR.appendM eI ([] : List Int) a1 x5 (app_eq hx5) se27 rfl rfl rfl rfl (fun _ => rfl) rfl (app_len hx5) (.succ .zero) ?_
    refine TextR.weak (keepW (F := ⟨Try.prog, 70, Γ⟩) (live := [1, 2, 24, 27, 28, 29, 30, 31]) (.cons rfl (.cons rfl (.cons rfl (.cons rfl (.cons rfl (.cons rfl (.cons rfl (.cons rfl .nil))))))))) ?_
    refine TextR.weak (freezeW (F := ⟨Try.prog, 70, Γ⟩) (h := 1) (ver := 1) (rows := x5.map eI) (e' := [(1, .c (.slv (a1.map eI))), (2, .c (.ptr 0 0 0 0)), (24, .c (B (((!y1) || (!y2)) || (decide ((a1.length : Int) > 70))))), (27, .agg [I a0.Diner.ID, I a0.Diner.Phase, .slv (a0.Diner.Sides.map eSide), I a0.Thirst, .slv (a0.Need.map eI)]), (28, .agg (eDrinker y4)), (29, .c (.sl 1 0 0 (([] : List Int).length))), (30, .c (.slv (a1.map eI))), (31, .c (.slv (x5.map eI)))]) (H' := [.live 0 5 [[I a0.Diner.ID, I a0.Diner.Phase, .slv (a0.Diner.Sides.map eSide), I a0.Thirst, .slv (a0.Need.map eI)]], .dead]) rfl (by first | rfl | simp [-List.map_set]) (by first | rfl | simp [-List.map_set])) ?_
    refine TextR.dcall rfl rfl (c_drink_Open N y4 x5 y6 hy6 _) ?_
    refine TextR.move rfl ?_
    refine TextR.extract rfl rfl ?_
    refine TextR.extract rfl rfl ?_
    refine TextR.alloc 2 zc29 rfl rfl (.cons (.cons .nil)) ?_
    refine TextR.store1 tk29 rfl rfl rfl rfl rfl rfl (.succ (.succ .zero)) ?_
    refine TextR.assign rfl ?_
    refine TextR.done (.cons rfl (.cons rfl (.cons rfl (.cons rfl .nil)))) ?_
    refine Wp.seq ?_
    obtain ⟨y7, hy7, h⟩ := bind_some h
    refine Wp.text [2, 5, 6, 7, 8] rfl rfl ?_ -- region 4
    refine TextR.loadN (cs := [I a0.Diner.ID, I a0.Diner.Phase, .slv (a0.Diner.Sides.map eSide), I a0.Thirst, .slv (a0.Need.map eI)]) tk29 rfl rfl ?_
    refine TextR.move rfl ?_
    refine TextR.dcall rfl rfl (c_narthexref15_Open N a0 a1 y7 hy7 _) ?_
    refine TextR.move rfl ?_
    refine TextR.extract rfl rfl ?_
    refine TextR.extract rfl rfl ?_
    refine TextR.alloc 3 zc29 rfl rfl (.cons (.cons (.cons .nil))) ?_
    refine TextR.store1 tk29 rfl rfl rfl rfl rfl rfl (.succ (.succ (.succ .zero))) ?_
    refine TextR.assign rfl ?_
    refine TextR.done (.cons rfl (.cons rfl (.cons rfl (.cons rfl (.cons rfl .nil))))) ?_
    refine Wp.seq ?_
    obtain ⟨y8, hy8, h⟩ := bind_some h
    obtain ⟨y9, hy9, h⟩ := bind_some h
    refine Wp.text [2, 5, 6, 7, 8, 9, 10] rfl rfl ?_ -- region 5
    refine TextR.loadN (cs := [I a0.Diner.ID, I a0.Diner.Phase, .slv (a0.Diner.Sides.map eSide), I a0.Thirst, .slv (a0.Need.map eI)]) tk29 rfl rfl ?_
    refine TextR.dcall rfl rfl (c_narthexlaw15_Own N a0 y8 hy8 _) ?_
    refine TextR.dcall rfl rfl (c_drink_Close N y8 y9 hy9 _) ?_
    refine TextR.move rfl ?_
    refine TextR.extract rfl rfl ?_
    refine TextR.extract rfl rfl ?_
    refine TextR.alloc 4 zc29 rfl rfl (.cons (.cons (.cons (.cons .nil)))) ?_
    refine TextR.store1 tk29 rfl rfl rfl rfl rfl rfl (.succ (.succ (.succ (.succ .zero)))) ?_
    refine TextR.assign rfl ?_
    refine TextR.done (.cons rfl (.cons rfl (.cons rfl (.cons rfl (.cons rfl (.cons rfl (.cons rfl .nil))))))) ?_
    refine Wp.seq ?_
    obtain ⟨y10, hy10, h⟩ := bind_some h
    refine Wp.text [5, 6, 7, 8, 9, 10, 11, 12] rfl rfl ?_ -- region 6
    refine TextR.loadN (cs := [I a0.Diner.ID, I a0.Diner.Phase, .slv (a0.Diner.Sides.map eSide), I a0.Thirst, .slv (a0.Need.map eI)]) tk29 rfl rfl ?_
    refine TextR.dcall rfl rfl (c_narthexref15_Close N a0 y10 hy10 _) ?_
    refine TextR.move rfl ?_
    refine TextR.extract rfl rfl ?_
    refine TextR.extract rfl rfl ?_
    refine TextR.alloc 5 zc29 rfl rfl (.cons (.cons (.cons (.cons (.cons .nil))))) ?_
    refine TextR.store1 tk29 rfl rfl rfl rfl rfl rfl (.succ (.succ (.succ (.succ (.succ .zero))))) ?_
    refine TextR.assign rfl ?_
    refine TextR.done (.cons rfl (.cons rfl (.cons rfl (.cons rfl (.cons rfl (.cons rfl (.cons rfl (.cons rfl .nil)))))))) ?_
    refine Wp.seq ?_
    obtain ⟨y11, hy11, h⟩ := bind_some h
    obtain ⟨y12, hy12, h⟩ := bind_some h
    refine Wp.go false none [[], [], [], [], [(55, true)], [(55, true)], [(55, true)], [], [], [(60, true)], [(60, true)], [(60, true)], [], [], [(65, true)], [(65, true)], [(65, true)], [], []] [] [4] mixed rfl rfl (by kernel_rfl) ?_ -- region 7
    refine RunR.loadN (cs := [I y6.1.Diner.ID, I y6.1.Diner.Phase, .slv (y6.1.Diner.Sides.map eSide), I y6.1.Thirst, .slv (y6.1.Need.map eI)]) tk29 rfl rfl rfl rfl ?_
    refine RunR.loadN (cs := [I y7.1.Diner.ID, I y7.1.Diner.Phase, .slv (y7.1.Diner.Sides.map eSide), I y7.1.Thirst, .slv (y7.1.Need.map eI)]) tk29 rfl rfl rfl rfl ?_
    refine RunR.call rfl rfl rfl (fun H => c_narthexref15_Same N y6.1 y7.1 y11 hy11 H) ?_
    refine RunR.move rfl rfl rfl ?_
    refine RunR.move rfl rfl rfl ?_
    refine RunR.move rfl rfl rfl ?_
    refine RunR.int rfl rfl rfl rfl rfl ?_
    refine RunR.pickAnd rfl rfl rfl rfl ?_
    refine RunR.move rfl rfl rfl ?_
    refine RunR.loadN (cs := [I y9.1.Diner.ID, I y9.1.Diner.Phase, .slv (y9.1.Diner.Sides.map eSide), I y9.1.Thirst, .slv (y9.1.Need.map eI)]) tk29 rfl rfl rfl rfl ?_
    refine RunR.loadN (cs := [I y10.1.Diner.ID, I y10.1.Diner.Phase, .slv (y10.1.Diner.Sides.map eSide), I y10.1.Thirst, .slv (y10.1.Need.map eI)]) tk29 rfl rfl rfl rfl ?_
    refine RunR.callG rfl rfl rfl (fun hb H => c_narthexref15_Same N y9.1 y10.1 y12 (ifT hy12 gT hb) H) ?_
    refine RunR.pickAnd rfl rfl rfl rfl ?_
    refine RunR.move rfl rfl rfl ?_
    refine RunR.move rfl rfl rfl ?_
    refine RunR.move rfl rfl rfl ?_
    refine RunR.int rfl rfl rfl rfl rfl ?_
    refine RunR.pickAnd rfl rfl rfl rfl ?_
    refine RunR.assign rfl rfl rfl ?_
    refine RunR.doneQ (.cons rfl .nil) ?_
    refine Wp.ret ?_
    obtain rfl := Option.some.inj h
    exact Ret.one rfl (resV_tmp rfl) rfl
-- narthex/narthexlaw15.DrinkStill
theorem w_narthexlaw15_DrinkStill (N : Nat) (a0 : TDrinker) (r : Bool) (h : narthexlaw15_DrinkStill N a0 = some r) : Nx.Call Try.prog 6 [.agg (eDrinker a0)] [] fun r' _ => r' = .c (B r) := by
  refine Nx.Call.of_body Try.func6 rfl en6 Try.ntmps6 rfl (fun Γ hok => ?_)
  unfold narthexlaw15_DrinkStill at h
  refine Wp.seq ?_
  refine Wp.text [1] rfl rfl ?_ -- region 0
  refine TextR.box (cs := [I a0.Diner.ID, I a0.Diner.Phase, .slv (a0.Diner.Sides.map eSide), I a0.Thirst, .slv (a0.Need.map eI)]) 0 rfl rfl rfl rfl .nil ?_
  refine TextR.assign rfl ?_
  refine TextR.done (.cons rfl .nil) ?_
  refine Wp.seq ?_
  refine Wp.seq ?_
  obtain ⟨y1, hy1, h⟩ := bind_some h
  obtain ⟨y2, hy2, h⟩ := bind_some h
  refine Wp.go false none [[], [], [], [(14, false)], [(14, false)], [(14, false)], []] [] [1, 18] mixed rfl rfl (by kernel_rfl) ?_ -- region 1
  refine RunR.call rfl rfl rfl (fun H => c_narthexlaw15_awake N y1 hy1 H) ?_
  refine RunR.not rfl rfl rfl ?_
  refine RunR.move rfl rfl rfl ?_
  refine RunR.loadN (cs := [I a0.Diner.ID, I a0.Diner.Phase, .slv (a0.Diner.Sides.map eSide), I a0.Thirst, .slv (a0.Need.map eI)]) tk29 rfl rfl rfl rfl ?_
  refine RunR.callG rfl rfl rfl (fun hb H => c_narthexlaw15_few N a0 y2 (ifT hy2 gF hb) H) ?_
  refine RunR.not rfl rfl rfl ?_
  refine RunR.pickOr rfl rfl rfl rfl ?_
  refine RunR.doneQ (.cons rfl (.cons rfl .nil)) ?_
  refine Wp.condM h rfl (fun hc1 h => ?_) (fun hc1 h => ?_)
  · refine Wp.seq ?_
    obtain ⟨y3, hy3, h⟩ := bind_some h
    refine Wp.text [2] rfl rfl ?_ -- region 2
    refine TextR.dcall rfl rfl (c_narthexlaw15_awake N y3 hy3 _) ?_
    refine TextR.assign rfl ?_
    refine TextR.done (.cons rfl .nil) ?_
    refine Wp.ret ?_
    obtain rfl := Option.some.inj h
    exact Ret.one rfl (resV_tmp rfl) rfl
  · refine Wp.skip ?_
    refine Wp.seq ?_
    obtain ⟨y4, hy4, h⟩ := bind_some h
    obtain ⟨y5, hy5, h⟩ := bind_some h
    refine Wp.text [3, 5] rfl rfl ?_ -- region 3
    refine TextR.loadN (cs := [I a0.Diner.ID, I a0.Diner.Phase, .slv (a0.Diner.Sides.map eSide), I a0.Thirst, .slv (a0.Need.map eI)]) tk29 rfl rfl ?_
    refine TextR.dcall rfl rfl (c_narthexlaw15_Own N a0 y4 hy4 _) ?_
    refine TextR.dcall rfl rfl (c_drink_Fire N y4 y5 hy5 _) ?_
    refine TextR.move rfl ?_
    refine TextR.extract rfl rfl ?_
    refine TextR.extract rfl rfl ?_
    refine TextR.extract rfl rfl ?_
    refine TextR.alloc 1 zc29 rfl rfl (.cons .nil) ?_
    refine TextR.store1 tk29 rfl rfl rfl rfl rfl rfl (.succ .zero) ?_
    refine TextR.assign rfl ?_
    refine TextR.assign rfl ?_
    refine TextR.done (.cons rfl (.cons rfl .nil)) ?_
    refine Wp.seq ?_
    refine Wp.seq ?_
    refine Wp.text [3, 28] rfl rfl ?_ -- region 4
    refine TextR.move rfl ?_
    refine TextR.int rfl rfl rfl ?_
    refine TextR.done (.cons rfl (.cons rfl .nil)) ?_
    refine Wp.condM h rfl (fun hc2 h => ?_) (fun hc2 h => ?_)
    · refine Wp.seq ?_
      refine Wp.text [2] rfl rfl ?_ -- region 5
      refine TextR.assign rfl ?_
      refine TextR.done (.cons rfl .nil) ?_
      refine Wp.ret ?_
      obtain rfl := Option.some.inj h
      exact Ret.one rfl (resV_tmp rfl) rfl
    · refine Wp.skip ?_
      refine Wp.seq ?_
      obtain ⟨y6, hy6, h⟩ := bind_some h
      obtain ⟨y7, hy7, h⟩ := bind_some h
      refine Wp.text [3, 6, 7, 8] rfl rfl ?_ -- region 6
      refine TextR.loadN (cs := [I y5.1.Diner.ID, I y5.1.Diner.Phase, .slv (y5.1.Diner.Sides.map eSide), I y5.1.Thirst, .slv (y5.1.Need.map eI)]) tk29 rfl rfl ?_
      refine TextR.dcall rfl rfl (c_narthexlaw15_Own N y5.1 y6 hy6 _) ?_
      refine TextR.dcall rfl rfl (c_drink_Fire N y6 y7 hy7 _) ?_
      refine TextR.move rfl ?_
      refine TextR.extract rfl rfl ?_
      refine TextR.extract rfl rfl ?_
      refine TextR.extract rfl rfl ?_
      refine TextR.alloc 2 zc29 rfl rfl (.cons (.cons .nil)) ?_
      refine TextR.store1 tk29 rfl rfl rfl rfl rfl rfl (.succ (.succ .zero)) ?_
      refine TextR.assign rfl ?_
      refine TextR.assign rfl ?_
      refine TextR.done (.cons rfl (.cons rfl (.cons rfl (.cons rfl .nil)))) ?_
      refine Wp.seq ?_
      refine Wp.seq ?_
      refine Wp.text [3, 6, 7, 8, 9] rfl rfl ?_ -- region 7
      refine TextR.assign rfl ?_
      refine TextR.done (.cons rfl (.cons rfl (.cons rfl (.cons rfl (.cons rfl .nil))))) ?_
      obtain ⟨z8, hz8, h⟩ := bind_some h
      refine Wp.fragR (fun S => ∃ z10, z8 = .inr z10 ∧ ∃ S', St.Weak ⟨Try.prog, 120, Γ⟩ S S' ∧ S' = ⟨[(3, .c (.ptr 0 0 0 0)), (6, .c (.ptr 1 0 0 0)), (7, .c (.slv (y7.2.1.map eMail))), (8, .c (I y7.2.2))], [.live 0 5 [[I y5.1.Diner.ID, I y5.1.Diner.Phase, .slv (y5.1.Diner.Sides.map eSide), I y5.1.Thirst, .slv (y5.1.Need.map eI)]], .live 0 5 [[I y7.1.Diner.ID, I y7.1.Diner.Phase, .slv (y7.1.Diner.Sides.map eSide), I y7.1.Thirst, .slv (y7.1.Need.map eI)]]]⟩) (fun S => ∃ v, z8 = .inl v ∧ Ret Try.prog Try.f6 (fun r' _ => r' = .c (B v)) .ret S) ?_ ?_ ?_
      · replace h := hz8
        refine Wp.block ?_
        refine Wp.weak (St.Weak.trans (keepW (live := [3, 6, 7, 8, 9]) (.cons rfl (.cons rfl (.cons rfl (.cons rfl (.cons rfl .nil)))))) (pickT (e' := [(3, .c (.ptr 0 0 0 0)), (6, .c (.ptr 1 0 0 0)), (7, .c (.slv (y7.2.1.map eMail))), (8, .c (I y7.2.2)), (9, .c (I 0))]) (H' := [.live 0 5 [[I y5.1.Diner.ID, I y5.1.Diner.Phase, .slv (y5.1.Diner.Sides.map eSide), I y5.1.Thirst, .slv (y5.1.Need.map eI)]], .live 0 5 [[I y7.1.Diner.ID, I y7.1.Diner.Phase, .slv (y7.1.Diner.Sides.map eSide), I y7.1.Thirst, .slv (y7.1.Need.map eI)]]]) [1, 2] [0, 0, 1] 0 hok.len.symm rfl rfl (by decide) (by first | rfl | simp [-List.map_set]) (by first | rfl | simp [-List.map_set]) (by first | rfl | simp [-List.map_set]) (by first | rfl | simp [-List.map_set]))) ?_
        refine Wp.loop (fun m S => ∃ s9_1, narthexlaw15_DrinkStill_L1 N y5 m s9_1 = some z8 ∧ S = ⟨[(3, .c (.ptr 0 0 0 0)), (6, .c (.ptr 1 0 0 0)), (7, .c (.slv (y7.2.1.map eMail))), (8, .c (I y7.2.2)), (9, .c (I s9_1))], [.live 0 5 [[I y5.1.Diner.ID, I y5.1.Diner.Phase, .slv (y5.1.Diner.Sides.map eSide), I y5.1.Thirst, .slv (y5.1.Need.map eI)]], .live 0 5 [[I y7.1.Diner.ID, I y7.1.Diner.Phase, .slv (y7.1.Diner.Sides.map eSide), I y7.1.Thirst, .slv (y7.1.Need.map eI)]]]⟩) N ⟨_, h, rfl⟩ ?_
        rintro m1 _ ⟨s9_1, h, rfl⟩
        cases m1 with
        | zero => rw [narthexlaw15_DrinkStill_L1.eq_1] at h; cases h
        | succ m1 =>
        rw [narthexlaw15_DrinkStill_L1.eq_2] at h
        refine Wp.seq ?_
        refine Wp.seq ?_
        refine Wp.text [3, 6, 7, 8, 9, 41] rfl rfl ?_ -- region 8
        refine TextR.move rfl ?_
        refine TextR.fieldAddr fo29_0 rfl rfl rfl ?_
        refine TextR.fieldAddr fo25_2 rfl rfl rfl ?_
        refine TextR.load1 tk23 rfl rfl ?_
        refine TextR.lenM us23 rfl rfl ?_
        refine TextR.int rfl rfl rfl ?_
        refine TextR.done (.cons rfl (.cons rfl (.cons rfl (.cons rfl (.cons rfl (.cons rfl .nil)))))) ?_
        refine Wp.condM h rfl (fun hc4 h => ?_) (fun hc4 h => ?_)
        · refine Wp.skip ?_
          refine Wp.seq ?_
          refine Wp.block ?_
          refine Wp.seq ?_
          obtain ⟨x11, hx11, h⟩ := bind_some h
          refine Wp.text [3, 6, 7, 8, 9, 10] rfl rfl ?_ -- region 10
          refine TextR.fieldAddr fo29_0 rfl rfl rfl ?_
          refine TextR.fieldAddr fo25_2 rfl rfl rfl ?_
          refine TextR.load1 tk23 rfl rfl ?_
          refine TextR.move rfl ?_
          refine TextR.indexA se23 rfl rfl rfl hx11 rfl ?_
          refine TextR.loadNM tk53 rfl (at_get hx11) rfl ?_
          refine TextR.alloc 2 zc53 rfl rfl (.cons (.cons .nil)) ?_
          refine TextR.store1 tk53 rfl rfl rfl rfl rfl rfl (.succ (.succ .zero)) ?_
          refine TextR.done (.cons rfl (.cons rfl (.cons rfl (.cons rfl (.cons rfl (.cons rfl .nil)))))) ?_
          refine Wp.seq ?_
          obtain ⟨y12, hy12, h⟩ := bind_some h
          refine Wp.text [3, 6, 7, 8, 9, 10, 11] rfl rfl ?_ -- region 11
          refine TextR.fieldAddr fo29_2 rfl rfl rfl ?_
          refine TextR.load1 tk27 rfl rfl ?_
          refine TextR.fieldAddr fo53_0 rfl rfl rfl ?_
          refine TextR.load1 tk3 rfl rfl ?_
          refine TextR.dcall rfl rfl (c_narthexref01_Has N y5.1.Need x11.Peer y12 hy12 _) ?_
          refine TextR.assign rfl ?_
          refine TextR.done (.cons rfl (.cons rfl (.cons rfl (.cons rfl (.cons rfl (.cons rfl (.cons rfl .nil))))))) ?_
          refine Wp.seq ?_
          refine Wp.go false none [[], [], [], [(57, true)], [(57, true)], [], [], [(61, true)], [(61, true)], [(63, true), (61, true)], [(63, true), (61, true)], [(63, true), (61, true)], [(63, true), (61, true)], [(67, false), (63, true), (61, true)], [(67, false), (63, true), (61, true)], [(63, true), (61, true)], [(61, true)], [(61, true)], [], [], [(74, false)], [(74, false)], [(74, false)], [(74, false)], [(78, true), (74, false)], [(74, false)], [(74, false)], [(81, true), (74, false)], [(81, true), (74, false)], [(74, false)], [(74, false)], [(85, true), (74, false)], [(85, true), (74, false)], [(85, true), (74, false)], [(74, false)], []] [] [3, 6, 7, 8, 9, 90] mixed rfl rfl (by kernel_rfl) ?_ -- region 12
          refine RunR.fieldAddr fo53_6 rfl rfl rfl rfl rfl ?_
          refine RunR.load1 tk4 rfl rfl rfl rfl ?_
          refine RunR.move rfl rfl rfl ?_
          refine RunR.fieldAddr fo53_7 rfl rfl rfl rfl rfl ?_
          refine RunR.load1 tk4 rfl rfl rfl rfl ?_
          refine RunR.pickAnd rfl rfl rfl rfl ?_
          refine RunR.move rfl rfl rfl ?_
          refine RunR.move rfl rfl rfl ?_
          refine RunR.move rfl rfl rfl ?_
          refine RunR.fieldAddr fo29_1 rfl rfl rfl rfl rfl ?_
          refine RunR.load1 tk26 rfl rfl rfl rfl ?_
          refine RunR.int rfl rfl rfl rfl rfl ?_
          refine RunR.move rfl rfl rfl ?_
          refine RunR.fieldAddr fo53_3 rfl rfl rfl rfl rfl ?_
          refine RunR.load1 tk4 rfl rfl rfl rfl ?_
          refine RunR.pickOr rfl rfl rfl rfl ?_
          refine RunR.pickAnd rfl rfl rfl rfl ?_
          refine RunR.not rfl rfl rfl ?_
          refine RunR.pickAnd rfl rfl rfl rfl ?_
          refine RunR.move rfl rfl rfl ?_
          refine RunR.fieldAddr fo29_1 rfl rfl rfl rfl rfl ?_
          refine RunR.load1 tk26 rfl rfl rfl rfl ?_
          refine RunR.int rfl rfl rfl rfl rfl ?_
          refine RunR.move rfl rfl rfl ?_
          refine RunR.move rfl rfl rfl ?_
          refine RunR.pickAnd rfl rfl rfl rfl ?_
          refine RunR.move rfl rfl rfl ?_
          refine RunR.fieldAddr fo53_7 rfl rfl rfl rfl rfl ?_
          refine RunR.load1 tk4 rfl rfl rfl rfl ?_
          refine RunR.pickAnd rfl rfl rfl rfl ?_
          refine RunR.move rfl rfl rfl ?_
          refine RunR.fieldAddr fo53_6 rfl rfl rfl rfl rfl ?_
          refine RunR.load1 tk4 rfl rfl rfl rfl ?_
          refine RunR.not rfl rfl rfl ?_
          refine RunR.pickAnd rfl rfl rfl rfl ?_
          refine RunR.pickOr rfl rfl rfl rfl ?_
          refine RunR.doneQ (.cons rfl (.cons rfl (.cons rfl (.cons rfl (.cons rfl (.cons rfl .nil)))))) ?_
          refine Wp.condM h rfl (fun hc5 h => ?_) (fun hc5 h => ?_)
          · refine Wp.seq ?_
            refine Wp.text [2] rfl rfl ?_ -- region 13
            refine TextR.assign rfl ?_
            refine TextR.done (.cons rfl .nil) ?_
            refine Wp.ret ?_
            exact ⟨_, (Option.some.inj h).symm, Ret.one rfl (resV_tmp rfl) rfl⟩
          · refine Wp.skip ?_
            refine Wp.text [3, 6, 7, 8, 9] rfl rfl ?_ -- region 9
            refine TextR.move rfl ?_
            refine TextR.int rfl rfl rfl ?_
            refine TextR.assign rfl ?_
            refine TextR.done (.cons rfl (.cons rfl (.cons rfl (.cons rfl (.cons rfl .nil))))) ?_
            exact ⟨m1, Nat.lt_succ_self _, _, (St.Weak.trans (keepW (live := [3, 6, 7, 8, 9]) (.cons rfl (.cons rfl (.cons rfl (.cons rfl (.cons rfl .nil)))))) (pickT (e' := [(3, .c (.ptr 0 0 0 0)), (6, .c (.ptr 1 0 0 0)), (7, .c (.slv (y7.2.1.map eMail))), (8, .c (I y7.2.2)), (9, .c (I (w64 (s9_1 + 1))))]) (H' := [.live 0 5 [[I y5.1.Diner.ID, I y5.1.Diner.Phase, .slv (y5.1.Diner.Sides.map eSide), I y5.1.Thirst, .slv (y5.1.Need.map eI)]], .live 0 5 [[I y7.1.Diner.ID, I y7.1.Diner.Phase, .slv (y7.1.Diner.Sides.map eSide), I y7.1.Thirst, .slv (y7.1.Need.map eI)]]]) [0, 1] [0, 1, 0] 0 hok.len.symm rfl rfl (by decide) (by first | rfl | simp [-List.map_set]) (by first | rfl | simp [-List.map_set]) (by first | rfl | simp [-List.map_set]) (by first | rfl | simp [-List.map_set]))), _, h, rfl⟩
        · refine Wp.exit ?_
          exact ⟨_, (Option.some.inj h).symm, _, (keepW (live := [3, 6, 7, 8]) (.cons rfl (.cons rfl (.cons rfl (.cons rfl .nil))))), rfl⟩
      · rintro _ ⟨z10, rfl, _, hw, rfl⟩
        dsimp only at h
        clear hz8
        refine Wp.weak hw ?_
        refine Wp.seq ?_
        obtain ⟨y13, hy13, h⟩ := bind_some h
        obtain ⟨y14, hy14, h⟩ := bind_some h
        obtain ⟨y15, hy15, h⟩ := bind_some h
        refine Wp.go false none [[], [], [], [(93, true)], [(93, true)], [(93, true)], [], [], [(98, true)], [(98, true)], [(98, true)], [], [], [(103, true)], [(103, true)], [(103, true)], [(103, true)], [(107, false), (103, true)], [(107, false), (103, true)], [(107, false), (103, true)], [(107, false), (103, true)], [(103, true)], [], [], [(114, true)], [(114, true)], [(114, true)], [(114, true)], [], []] [] [2] mixed rfl rfl (by kernel_rfl) ?_ -- region 14
        refine RunR.move rfl rfl rfl ?_
        refine RunR.int rfl rfl rfl rfl rfl ?_
        refine RunR.move rfl rfl rfl ?_
        refine RunR.move rfl rfl rfl ?_
        refine RunR.lenM us32 rfl rfl rfl rfl ?_
        refine RunR.int rfl rfl rfl rfl rfl ?_
        refine RunR.pickAnd rfl rfl rfl rfl ?_
        refine RunR.move rfl rfl rfl ?_
        refine RunR.loadN (cs := [I y5.1.Diner.ID, I y5.1.Diner.Phase, .slv (y5.1.Diner.Sides.map eSide), I y5.1.Thirst, .slv (y5.1.Need.map eI)]) tk29 rfl rfl rfl rfl ?_
        refine RunR.loadN (cs := [I y7.1.Diner.ID, I y7.1.Diner.Phase, .slv (y7.1.Diner.Sides.map eSide), I y7.1.Thirst, .slv (y7.1.Need.map eI)]) tk29 rfl rfl rfl rfl ?_
        refine RunR.callG rfl rfl rfl (fun hb H => c_narthexref15_Same N y5.1 y7.1 y13 (ifT hy13 gT hb) H) ?_
        refine RunR.pickAnd rfl rfl rfl rfl ?_
        refine RunR.move rfl rfl rfl ?_
        refine RunR.fieldAddr fo29_1 rfl rfl rfl rfl rfl ?_
        refine RunR.load1 tk26 rfl rfl rfl rfl ?_
        refine RunR.int rfl rfl rfl rfl rfl ?_
        refine RunR.move rfl rfl rfl ?_
        refine RunR.fieldAddr fo29_0 rfl rfl rfl rfl rfl ?_
        refine RunR.fieldAddr fo25_1 rfl rfl rfl rfl rfl ?_
        refine RunR.load1 tk22 rfl rfl rfl rfl ?_
        refine RunR.int rfl rfl rfl rfl rfl ?_
        refine RunR.pickOr rfl rfl rfl rfl ?_
        refine RunR.pickAnd rfl rfl rfl rfl ?_
        refine RunR.move rfl rfl rfl ?_
        refine RunR.loadN (cs := [I y5.1.Diner.ID, I y5.1.Diner.Phase, .slv (y5.1.Diner.Sides.map eSide), I y5.1.Thirst, .slv (y5.1.Need.map eI)]) tk29 rfl rfl rfl rfl ?_
        refine RunR.callG rfl rfl rfl (fun hb H => c_narthexlaw15_Own N y5.1 y14 (ifT hy14 gT hb) H) ?_
        refine RunR.callG rfl rfl rfl (fun hb H => c_drink_Check N y14 y15 (ifT hy15 gT hb) H) ?_
        refine RunR.int rfl rfl rfl rfl rfl ?_
        refine RunR.pickAnd rfl rfl rfl rfl ?_
        refine RunR.assign rfl rfl rfl ?_
        refine RunR.doneQ (.cons rfl .nil) ?_
        refine Wp.ret ?_
        obtain rfl := Option.some.inj h
        exact Ret.one rfl (resV_tmp rfl) rfl
      · rintro S' ⟨r9, rfl, hR⟩
        dsimp only at h
        obtain rfl := Option.some.inj h
        exact hR
-- narthex/narthexref12.Side
theorem w_narthexref12_Side (N : Nat) (a0 : TDiner) (a1 : Int) (r : TSide × Bool) (h : narthexref12_Side N a0 a1 = some r) : Nx.Call Try.prog 27 [.agg (eDiner a0), .c (I a1)] [] fun r' _ => r' = .tup [.agg (eSide r.1), .c (B r.2)] := by
  refine Nx.Call.of_body Try.func27 rfl en27 Try.ntmps27 rfl (fun Γ hok => ?_)
  unfold narthexref12_Side at h
  refine Wp.seq ?_
  refine Wp.text [1, 2, 4] rfl rfl ?_ -- region 0
  refine TextR.box (cs := [I a0.ID, I a0.Phase, .slv (a0.Sides.map eSide)]) 0 rfl rfl rfl rfl .nil ?_
  refine TextR.alloc 1 zc53 rfl rfl (.cons .nil) ?_
  refine TextR.assign rfl ?_
  refine TextR.done (.cons rfl (.cons rfl (.cons rfl .nil))) ?_
  refine Wp.seq ?_
  refine Wp.seq ?_
  refine Wp.text [1, 2, 4, 6] rfl rfl ?_ -- region 1
  refine TextR.assign rfl ?_
  refine TextR.done (.cons rfl (.cons rfl (.cons rfl (.cons rfl .nil)))) ?_
  obtain ⟨z1, hz1, h⟩ := bind_some h
  refine Wp.fragR (fun S => ∃ z3, z1 = .inr z3 ∧ ∃ S', St.Weak ⟨Try.prog, 28, Γ⟩ S S' ∧ S' = ⟨[(4, .c (.ptr 0 0 0 0))], [.live 0 8 [[I 0, I 0, I 0, B false, B false, B false, B false, B false]]]⟩) (fun S => ∃ v, z1 = .inl v ∧ Ret Try.prog Try.f27 (fun r' _ => r' = .tup [.agg (eSide v.1), .c (B v.2)]) .ret S) ?_ ?_ ?_
  · replace h := hz1
    refine Wp.block ?_
    refine Wp.weak (keepW (live := [1, 2, 4, 6]) (.cons rfl (.cons rfl (.cons rfl (.cons rfl .nil))))) ?_
    refine Wp.loop (fun m S => ∃ s6_1, narthexref12_Side_L1 N a0 a1 m s6_1 = some z1 ∧ S = ⟨[(1, .c (I a1)), (2, .c (.ptr 0 0 0 0)), (4, .c (.ptr 1 0 0 0)), (6, .c (I s6_1))], [.live 0 3 [[I a0.ID, I a0.Phase, .slv (a0.Sides.map eSide)]], .live 0 8 [[I 0, I 0, I 0, B false, B false, B false, B false, B false]]]⟩) N ⟨_, h, rfl⟩ ?_
    rintro m1 _ ⟨s6_1, h, rfl⟩
    cases m1 with
    | zero => rw [narthexref12_Side_L1.eq_1] at h; cases h
    | succ m1 =>
    rw [narthexref12_Side_L1.eq_2] at h
    refine Wp.seq ?_
    refine Wp.seq ?_
    refine Wp.text [1, 2, 4, 6, 11] rfl rfl ?_ -- region 2
    refine TextR.move rfl ?_
    refine TextR.fieldAddr fo25_2 rfl rfl rfl ?_
    refine TextR.load1 tk23 rfl rfl ?_
    refine TextR.lenM us23 rfl rfl ?_
    refine TextR.int rfl rfl rfl ?_
    refine TextR.done (.cons rfl (.cons rfl (.cons rfl (.cons rfl (.cons rfl .nil))))) ?_
    refine Wp.condM h rfl (fun hc2 h => ?_) (fun hc2 h => ?_)
    · refine Wp.skip ?_
      refine Wp.seq ?_
      refine Wp.block ?_
      refine Wp.seq ?_
      obtain ⟨x4, hx4, h⟩ := bind_some h
      refine Wp.text [1, 2, 4, 6, 21] rfl rfl ?_ -- region 4
      refine TextR.fieldAddr fo25_2 rfl rfl rfl ?_
      refine TextR.load1 tk23 rfl rfl ?_
      refine TextR.move rfl ?_
      refine TextR.indexA se23 rfl rfl rfl hx4 rfl ?_
      refine TextR.fieldAddr fo53_0 rfl rfl rfl ?_
      refine TextR.load1M tk3 rfl (at_get hx4) rfl ?_
      refine TextR.move rfl ?_
      refine TextR.int rfl rfl rfl ?_
      refine TextR.done (.cons rfl (.cons rfl (.cons rfl (.cons rfl (.cons rfl .nil))))) ?_
      refine Wp.condM h rfl (fun hc3 h => ?_) (fun hc3 h => ?_)
      · refine Wp.seq ?_
        obtain ⟨x5, hx5, h⟩ := bind_some h
        refine Wp.text [4, 5] rfl rfl ?_ -- region 5
        refine TextR.fieldAddr fo25_2 rfl rfl rfl ?_
        refine TextR.load1 tk23 rfl rfl ?_
        refine TextR.move rfl ?_
        refine TextR.indexA se23 rfl rfl rfl hx5 rfl ?_
        refine TextR.loadNM tk53 rfl (at_get hx5) rfl ?_
        refine TextR.store1 tk53 rfl rfl rfl rfl rfl rfl (.succ .zero) ?_
        refine TextR.assign rfl ?_
        refine TextR.done (.cons rfl (.cons rfl .nil)) ?_
        refine Wp.ret ?_
        exact ⟨_, (Option.some.inj h).symm, Ret.two rfl (resV_cellN tk53 rfl rfl) (resV_tmp rfl) rfl⟩
      · refine Wp.skip ?_
        refine Wp.text [1, 2, 4, 6] rfl rfl ?_ -- region 3
        refine TextR.move rfl ?_
        refine TextR.int rfl rfl rfl ?_
        refine TextR.assign rfl ?_
        refine TextR.done (.cons rfl (.cons rfl (.cons rfl (.cons rfl .nil)))) ?_
        exact ⟨m1, Nat.lt_succ_self _, _, (keepW (live := [1, 2, 4, 6]) (.cons rfl (.cons rfl (.cons rfl (.cons rfl .nil))))), _, h, rfl⟩
    · refine Wp.exit ?_
      exact ⟨_, (Option.some.inj h).symm, _, (St.Weak.trans (keepW (live := [4]) (.cons rfl .nil)) (pickT (e' := [(4, .c (.ptr 0 0 0 0))]) (H' := [.live 0 8 [[I 0, I 0, I 0, B false, B false, B false, B false, B false]]]) [1] [0, 0] 0 hok.len.symm rfl rfl (by decide) (by first | rfl | simp [-List.map_set]) (by first | rfl | simp [-List.map_set]) (by first | rfl | simp [-List.map_set]) (by first | rfl | simp [-List.map_set]))), rfl⟩
  · rintro _ ⟨z3, rfl, _, hw, rfl⟩
    dsimp only at h
    clear hz1
    refine Wp.weak hw ?_
    refine Wp.seq ?_
    refine Wp.text [4, 5] rfl rfl ?_ -- region 6
    refine TextR.build cm53 rfl ?_
    refine TextR.store1 tk53 rfl rfl rfl rfl rfl rfl .zero ?_
    refine TextR.assign rfl ?_
    refine TextR.done (.cons rfl (.cons rfl .nil)) ?_
    refine Wp.ret ?_
    obtain rfl := Option.some.inj h
    exact Ret.two rfl (resV_cellN tk53 rfl rfl) (resV_tmp rfl) rfl
  · rintro S' ⟨r2, rfl, hR⟩
    dsimp only at h
    obtain rfl := Option.some.inj h
    exact hR
theorem c_narthexref12_Side (N : Nat) (a0 : TDiner) (a1 : Int) (r : TSide × Bool) (h : narthexref12_Side N a0 a1 = some r) (H : List Ob) : DCall Try.prog 27 [.agg (eDiner a0), .c (I a1)] H (.tup [.agg (eSide r.1), .c (B r.2)]) := DCall.lift (by first | rfl | simp [-List.map_set]) (by first | rfl | simp [-List.map_set]) (fun _ => by simp [-List.map_set]) (w_narthexref12_Side N a0 a1 r h) H
-- narthex/narthexlaw15.DrinkHas
theorem w_narthexlaw15_DrinkHas (N : Nat) (a0 : TDrinker) (a1 : Int) (a2 : Int) (r : Bool) (h : narthexlaw15_DrinkHas N a0 a1 a2 = some r) : Nx.Call Try.prog 7 [.agg (eDrinker a0), .c (I a1), .c (I a2)] [] fun r' _ => r' = .c (B r) := by
  refine Nx.Call.of_body Try.func7 rfl en7 Try.ntmps7 rfl (fun Γ hok => ?_)
  unfold narthexlaw15_DrinkHas at h
  refine Wp.seq ?_
  refine Wp.text [1, 2, 3] rfl rfl ?_ -- region 0
  refine TextR.box (cs := [I a0.Diner.ID, I a0.Diner.Phase, .slv (a0.Diner.Sides.map eSide), I a0.Thirst, .slv (a0.Need.map eI)]) 0 rfl rfl rfl rfl .nil ?_
  refine TextR.assign rfl ?_
  refine TextR.done (.cons rfl (.cons rfl (.cons rfl .nil))) ?_
  refine Wp.seq ?_
  refine Wp.seq ?_
  obtain ⟨y1, hy1, h⟩ := bind_some h
  obtain ⟨y2, hy2, h⟩ := bind_some h
  refine Wp.go false none [[], [], [], [(22, false)], [(22, false)], [(22, false)], [], [], [(27, false)], [(27, false)], [(27, false)], []] [] [1, 2, 3, 31] mixed rfl rfl (by kernel_rfl) ?_ -- region 1
  refine RunR.call rfl rfl rfl (fun H => c_narthexlaw15_awake N y1 hy1 H) ?_
  refine RunR.not rfl rfl rfl ?_
  refine RunR.move rfl rfl rfl ?_
  refine RunR.loadN (cs := [I a0.Diner.ID, I a0.Diner.Phase, .slv (a0.Diner.Sides.map eSide), I a0.Thirst, .slv (a0.Need.map eI)]) tk29 rfl rfl rfl rfl ?_
  refine RunR.callG rfl rfl rfl (fun hb H => c_narthexlaw15_few N a0 y2 (ifT hy2 gF hb) H) ?_
  refine RunR.not rfl rfl rfl ?_
  refine RunR.pickOr rfl rfl rfl rfl ?_
  refine RunR.move rfl rfl rfl ?_
  refine RunR.fieldAddr fo29_1 rfl rfl rfl rfl rfl ?_
  refine RunR.load1 tk26 rfl rfl rfl rfl ?_
  refine RunR.int rfl rfl rfl rfl rfl ?_
  refine RunR.pickOr rfl rfl rfl rfl ?_
  refine RunR.doneQ (.cons rfl (.cons rfl (.cons rfl (.cons rfl .nil)))) ?_
  refine Wp.condM h rfl (fun hc1 h => ?_) (fun hc1 h => ?_)
  · refine Wp.seq ?_
    obtain ⟨y3, hy3, h⟩ := bind_some h
    refine Wp.text [6] rfl rfl ?_ -- region 2
    refine TextR.dcall rfl rfl (c_narthexlaw15_awake N y3 hy3 _) ?_
    refine TextR.assign rfl ?_
    refine TextR.done (.cons rfl .nil) ?_
    refine Wp.ret ?_
    obtain rfl := Option.some.inj h
    exact Ret.one rfl (resV_tmp rfl) rfl
  · refine Wp.skip ?_
    refine Wp.seq ?_
    obtain ⟨y4, hy4, h⟩ := bind_some h
    obtain ⟨y5, hy5, h⟩ := bind_some h
    refine Wp.text [1, 2, 3, 7, 9] rfl rfl ?_ -- region 3
    refine TextR.loadN (cs := [I a0.Diner.ID, I a0.Diner.Phase, .slv (a0.Diner.Sides.map eSide), I a0.Thirst, .slv (a0.Need.map eI)]) tk29 rfl rfl ?_
    refine TextR.dcall rfl rfl (c_narthexlaw15_Own N a0 y4 hy4 _) ?_
    refine TextR.dcall rfl rfl (c_drink_Fire N y4 y5 hy5 _) ?_
    refine TextR.move rfl ?_
    refine TextR.extract rfl rfl ?_
    refine TextR.extract rfl rfl ?_
    refine TextR.extract rfl rfl ?_
    refine TextR.alloc 1 zc29 rfl rfl (.cons .nil) ?_
    refine TextR.store1 tk29 rfl rfl rfl rfl rfl rfl (.succ .zero) ?_
    refine TextR.assign rfl ?_
    refine TextR.assign rfl ?_
    refine TextR.done (.cons rfl (.cons rfl (.cons rfl (.cons rfl (.cons rfl .nil))))) ?_
    refine Wp.seq ?_
    refine Wp.seq ?_
    refine Wp.go false none [[], [], [], [(42, false)], [(42, false)], [(42, false)], []] [] [1, 2, 3, 7, 46] mixed rfl rfl (by kernel_rfl) ?_ -- region 4
    refine RunR.move rfl rfl rfl ?_
    refine RunR.int rfl rfl rfl rfl rfl ?_
    refine RunR.move rfl rfl rfl ?_
    refine RunR.fieldAddr fo29_1 rfl rfl rfl rfl rfl ?_
    refine RunR.load1 tk26 rfl rfl rfl rfl ?_
    refine RunR.int rfl rfl rfl rfl rfl ?_
    refine RunR.pickOr rfl rfl rfl rfl ?_
    refine RunR.doneQ (.cons rfl (.cons rfl (.cons rfl (.cons rfl (.cons rfl .nil))))) ?_
    refine Wp.condM h rfl (fun hc2 h => ?_) (fun hc2 h => ?_)
    · refine Wp.seq ?_
      refine Wp.text [6] rfl rfl ?_ -- region 5
      refine TextR.assign rfl ?_
      refine TextR.done (.cons rfl .nil) ?_
      refine Wp.ret ?_
      obtain rfl := Option.some.inj h
      exact Ret.one rfl (resV_tmp rfl) rfl
    · refine Wp.skip ?_
      refine Wp.seq ?_
      obtain ⟨y6, hy6, h⟩ := bind_some h
      obtain ⟨y7, hy7, h⟩ := bind_some h
      refine Wp.text [3, 7, 10] rfl rfl ?_ -- region 6
      refine TextR.loadN (cs := [I y5.1.Diner.ID, I y5.1.Diner.Phase, .slv (y5.1.Diner.Sides.map eSide), I y5.1.Thirst, .slv (y5.1.Need.map eI)]) tk29 rfl rfl ?_
      refine TextR.dcall rfl rfl (c_narthexlaw15_Own N y5.1 y6 hy6 _) ?_
      refine TextR.move rfl ?_
      refine TextR.move rfl ?_
      refine TextR.build cm44 rfl ?_
      refine TextR.dcall rfl rfl (c_drink_Get N y6 a1 (⟨4, a2, 0⟩ : TMsg) y7 hy7 _) ?_
      refine TextR.move rfl ?_
      refine TextR.extract rfl rfl ?_
      refine TextR.extract rfl rfl ?_
      refine TextR.alloc 2 zc29 rfl rfl (.cons (.cons .nil)) ?_
      refine TextR.store1 tk29 rfl rfl rfl rfl rfl rfl (.succ (.succ .zero)) ?_
      refine TextR.assign rfl ?_
      refine TextR.done (.cons rfl (.cons rfl (.cons rfl .nil))) ?_
      refine Wp.seq ?_
      obtain ⟨y8, hy8, h⟩ := bind_some h
      obtain ⟨y9, hy9, h⟩ := bind_some h
      refine Wp.text [3, 7, 10, 12, 14] rfl rfl ?_ -- region 7
      refine TextR.loadN (cs := [I y7.1.Diner.ID, I y7.1.Diner.Phase, .slv (y7.1.Diner.Sides.map eSide), I y7.1.Thirst, .slv (y7.1.Need.map eI)]) tk29 rfl rfl ?_
      refine TextR.dcall rfl rfl (c_narthexlaw15_Own N y7.1 y8 hy8 _) ?_
      refine TextR.dcall rfl rfl (c_drink_Fire N y8 y9 hy9 _) ?_
      refine TextR.move rfl ?_
      refine TextR.extract rfl rfl ?_
      refine TextR.extract rfl rfl ?_
      refine TextR.extract rfl rfl ?_
      refine TextR.alloc 3 zc29 rfl rfl (.cons (.cons (.cons .nil))) ?_
      refine TextR.store1 tk29 rfl rfl rfl rfl rfl rfl (.succ (.succ (.succ .zero))) ?_
      refine TextR.assign rfl ?_
      refine TextR.assign rfl ?_
      refine TextR.done (.cons rfl (.cons rfl (.cons rfl (.cons rfl (.cons rfl .nil))))) ?_
      refine Wp.seq ?_
      refine Wp.seq ?_
      refine Wp.text [3, 7, 10, 12, 14, 15] rfl rfl ?_ -- region 8
      refine TextR.assign rfl ?_
      refine TextR.done (.cons rfl (.cons rfl (.cons rfl (.cons rfl (.cons rfl (.cons rfl .nil)))))) ?_
      obtain ⟨z10, hz10, h⟩ := bind_some h
      refine Wp.fragR (fun S => ∃ z12, z10 = .inr z12 ∧ ∃ S', St.Weak ⟨Try.prog, 129, Γ⟩ S S' ∧ S' = ⟨[(3, .c (.ptr 0 0 0 0)), (7, .c (.ptr 1 0 0 0))], [.live 0 5 [[I a0.Diner.ID, I a0.Diner.Phase, .slv (a0.Diner.Sides.map eSide), I a0.Thirst, .slv (a0.Need.map eI)]], .live 0 5 [[I y5.1.Diner.ID, I y5.1.Diner.Phase, .slv (y5.1.Diner.Sides.map eSide), I y5.1.Thirst, .slv (y5.1.Need.map eI)]]]⟩) (fun S => ∃ v, z10 = .inl v ∧ Ret Try.prog Try.f7 (fun r' _ => r' = .c (B v)) .ret S) ?_ ?_ ?_
      · replace h := hz10
        refine Wp.block ?_
        refine Wp.weak (keepW (live := [3, 7, 10, 12, 14, 15]) (.cons rfl (.cons rfl (.cons rfl (.cons rfl (.cons rfl (.cons rfl .nil))))))) ?_
        refine Wp.loop (fun m S => ∃ s15_1, narthexlaw15_DrinkHas_L1 N y5 y7 y9 m s15_1 = some z10 ∧ S = ⟨[(3, .c (.ptr 0 0 0 0)), (7, .c (.ptr 1 0 0 0)), (10, .c (.ptr 2 0 0 0)), (12, .c (.ptr 3 0 0 0)), (14, .c (I y9.2.2)), (15, .c (I s15_1))], [.live 0 5 [[I a0.Diner.ID, I a0.Diner.Phase, .slv (a0.Diner.Sides.map eSide), I a0.Thirst, .slv (a0.Need.map eI)]], .live 0 5 [[I y5.1.Diner.ID, I y5.1.Diner.Phase, .slv (y5.1.Diner.Sides.map eSide), I y5.1.Thirst, .slv (y5.1.Need.map eI)]], .live 0 5 [[I y7.1.Diner.ID, I y7.1.Diner.Phase, .slv (y7.1.Diner.Sides.map eSide), I y7.1.Thirst, .slv (y7.1.Need.map eI)]], .live 0 5 [[I y9.1.Diner.ID, I y9.1.Diner.Phase, .slv (y9.1.Diner.Sides.map eSide), I y9.1.Thirst, .slv (y9.1.Need.map eI)]]]⟩) N ⟨_, h, rfl⟩ ?_
        rintro m1 _ ⟨s15_1, h, rfl⟩
        cases m1 with
        | zero => rw [narthexlaw15_DrinkHas_L1.eq_1] at h; cases h
        | succ m1 =>
        rw [narthexlaw15_DrinkHas_L1.eq_2] at h
        refine Wp.seq ?_
        refine Wp.seq ?_
        refine Wp.text [3, 7, 10, 12, 14, 15, 67] rfl rfl ?_ -- region 9
        refine TextR.move rfl ?_
        refine TextR.fieldAddr fo29_2 rfl rfl rfl ?_
        refine TextR.load1 tk27 rfl rfl ?_
        refine TextR.lenM us27 rfl rfl ?_
        refine TextR.int rfl rfl rfl ?_
        refine TextR.done (.cons rfl (.cons rfl (.cons rfl (.cons rfl (.cons rfl (.cons rfl (.cons rfl .nil))))))) ?_
        refine Wp.condM h rfl (fun hc4 h => ?_) (fun hc4 h => ?_)
        · refine Wp.skip ?_
          refine Wp.seq ?_
          refine Wp.block ?_
          refine Wp.seq ?_
          obtain ⟨x13, hx13, h⟩ := bind_some h
          obtain ⟨y14, hy14, h⟩ := bind_some h
          refine Wp.go true (some ⟨[4], []⟩) [] [true, true, true, true, true, true, true, true, true, true, true, false, false, false] [3, 7, 10, 12, 14, 15, 16, 17] mixed rfl rfl (by kernel_rfl) ?_ -- region 11
          refine RunR.fieldAddr fo29_0 rfl rfl rfl rfl rfl ?_
          refine RunR.loadN (cs := [I y5.1.Diner.ID, I y5.1.Diner.Phase, .slv (y5.1.Diner.Sides.map eSide)]) tk25 rfl rfl rfl rfl ?_
          refine RunR.fieldAddr fo29_2 rfl rfl rfl rfl rfl ?_
          refine RunR.load1 tk27 rfl rfl rfl rfl ?_
          refine RunR.move rfl rfl rfl ?_
          refine RunR.indexA se27 rfl rfl rfl rfl rfl hx13 rfl ?_
          refine RunR.load1M tk3 rfl rfl rfl (at_get hx13) rfl ?_
          refine RunR.call rfl rfl rfl (fun H => c_narthexref12_Side N y5.1.Diner x13 y14 hy14 H) ?_
          refine RunR.move rfl rfl rfl ?_
          refine RunR.extract rfl rfl rfl rfl ?_
          refine RunR.extract rfl rfl rfl rfl ?_
          refine RunR.alloc 4 zc53 rfl rfl rfl rfl (.cons (.cons (.cons (.cons .nil)))) ?_
          refine RunR.store1 tk53 rfl rfl rfl rfl rfl rfl rfl rfl (.succ (.succ (.succ (.succ .zero)))) ?_
          refine RunR.assign rfl rfl rfl ?_
          refine RunR.doneQ (.cons rfl (.cons rfl (.cons rfl (.cons rfl (.cons rfl (.cons rfl (.cons rfl (.cons rfl .nil)))))))) ?_
          refine Wp.seq ?_
          obtain ⟨x15, hx15, h⟩ := bind_some h
          obtain ⟨y16, hy16, h⟩ := bind_some h
          refine Wp.go true (some ⟨[5], []⟩) [] [true, true, true, true, true, true, true, true, true, true, true, false, false, false] [3, 7, 10, 12, 14, 15, 16, 17, 18, 19] mixed rfl rfl (by kernel_rfl) ?_ -- region 12
          refine RunR.fieldAddr fo29_0 rfl rfl rfl rfl rfl ?_
          refine RunR.loadN (cs := [I y9.1.Diner.ID, I y9.1.Diner.Phase, .slv (y9.1.Diner.Sides.map eSide)]) tk25 rfl rfl rfl rfl ?_
          refine RunR.fieldAddr fo29_2 rfl rfl rfl rfl rfl ?_
          refine RunR.load1 tk27 rfl rfl rfl rfl ?_
          refine RunR.move rfl rfl rfl ?_
          refine RunR.indexA se27 rfl rfl rfl rfl rfl hx15 rfl ?_
          refine RunR.load1M tk3 rfl rfl rfl (at_get hx15) rfl ?_
          refine RunR.call rfl rfl rfl (fun H => c_narthexref12_Side N y9.1.Diner x15 y16 hy16 H) ?_
          refine RunR.move rfl rfl rfl ?_
          refine RunR.extract rfl rfl rfl rfl ?_
          refine RunR.extract rfl rfl rfl rfl ?_
          refine RunR.alloc 5 zc53 rfl rfl rfl rfl (.cons (.cons (.cons (.cons (.cons .nil))))) ?_
          refine RunR.store1 tk53 rfl rfl rfl rfl rfl rfl rfl rfl (.succ (.succ (.succ (.succ (.succ .zero))))) ?_
          refine RunR.assign rfl rfl rfl ?_
          refine RunR.doneQ (.cons rfl (.cons rfl (.cons rfl (.cons rfl (.cons rfl (.cons rfl (.cons rfl (.cons rfl (.cons rfl (.cons rfl .nil)))))))))) ?_
          refine Wp.seq ?_
          refine Wp.go false none [[], [], [], [(94, false)], [(94, false)], [(94, false)], [], [], [(99, false)], [(99, false)], [(99, false)], [(102, true), (99, false)], [(102, true), (99, false)], [(102, true), (99, false)], [(102, true), (99, false)], [(102, true), (99, false)], [(99, false)], [(99, false)], [(109, true), (99, false)], [(109, true), (99, false)], [(109, true), (99, false)], [(112, false), (109, true), (99, false)], [(112, false), (109, true), (99, false)], [(112, false), (109, true), (99, false)], [(109, true), (99, false)], [(99, false)], []] [] [3, 7, 10, 12, 14, 15, 118] mixed rfl rfl (by kernel_rfl) ?_ -- region 13
          refine RunR.move rfl rfl rfl ?_
          refine RunR.not rfl rfl rfl ?_
          refine RunR.move rfl rfl rfl ?_
          refine RunR.fieldAddr fo53_6 rfl rfl rfl rfl rfl ?_
          refine RunR.load1 tk4 rfl rfl rfl rfl ?_
          refine RunR.not rfl rfl rfl ?_
          refine RunR.pickOr rfl rfl rfl rfl ?_
          refine RunR.move rfl rfl rfl ?_
          refine RunR.move rfl rfl rfl ?_
          refine RunR.int rfl rfl rfl rfl rfl ?_
          refine RunR.move rfl rfl rfl ?_
          refine RunR.fieldAddr fo29_0 rfl rfl rfl rfl rfl ?_
          refine RunR.fieldAddr fo25_2 rfl rfl rfl rfl rfl ?_
          refine RunR.load1 tk23 rfl rfl rfl rfl ?_
          refine RunR.lenM us23 rfl rfl rfl rfl ?_
          refine RunR.int rfl rfl rfl rfl rfl ?_
          refine RunR.pickAnd rfl rfl rfl rfl ?_
          refine RunR.move rfl rfl rfl ?_
          refine RunR.move rfl rfl rfl ?_
          refine RunR.not rfl rfl rfl ?_
          refine RunR.move rfl rfl rfl ?_
          refine RunR.fieldAddr fo53_6 rfl rfl rfl rfl rfl ?_
          refine RunR.load1 tk4 rfl rfl rfl rfl ?_
          refine RunR.not rfl rfl rfl ?_
          refine RunR.pickOr rfl rfl rfl rfl ?_
          refine RunR.pickAnd rfl rfl rfl rfl ?_
          refine RunR.pickOr rfl rfl rfl rfl ?_
          refine RunR.doneQ (.cons rfl (.cons rfl (.cons rfl (.cons rfl (.cons rfl (.cons rfl (.cons rfl .nil))))))) ?_
          refine Wp.condM h rfl (fun hc5 h => ?_) (fun hc5 h => ?_)
          · refine Wp.seq ?_
            refine Wp.text [6] rfl rfl ?_ -- region 14
            refine TextR.assign rfl ?_
            refine TextR.done (.cons rfl .nil) ?_
            refine Wp.ret ?_
            exact ⟨_, (Option.some.inj h).symm, Ret.one rfl (resV_tmp rfl) rfl⟩
          · refine Wp.skip ?_
            refine Wp.text [3, 7, 10, 12, 14, 15] rfl rfl ?_ -- region 10
            refine TextR.move rfl ?_
            refine TextR.int rfl rfl rfl ?_
            refine TextR.assign rfl ?_
            refine TextR.done (.cons rfl (.cons rfl (.cons rfl (.cons rfl (.cons rfl (.cons rfl .nil)))))) ?_
            exact ⟨m1, Nat.lt_succ_self _, _, (St.Weak.trans (keepW (live := [3, 7, 10, 12, 14, 15]) (.cons rfl (.cons rfl (.cons rfl (.cons rfl (.cons rfl (.cons rfl .nil))))))) (pickT (e' := [(3, .c (.ptr 0 0 0 0)), (7, .c (.ptr 1 0 0 0)), (10, .c (.ptr 2 0 0 0)), (12, .c (.ptr 3 0 0 0)), (14, .c (I y9.2.2)), (15, .c (I (w64 (s15_1 + 1))))]) (H' := [.live 0 5 [[I a0.Diner.ID, I a0.Diner.Phase, .slv (a0.Diner.Sides.map eSide), I a0.Thirst, .slv (a0.Need.map eI)]], .live 0 5 [[I y5.1.Diner.ID, I y5.1.Diner.Phase, .slv (y5.1.Diner.Sides.map eSide), I y5.1.Thirst, .slv (y5.1.Need.map eI)]], .live 0 5 [[I y7.1.Diner.ID, I y7.1.Diner.Phase, .slv (y7.1.Diner.Sides.map eSide), I y7.1.Thirst, .slv (y7.1.Need.map eI)]], .live 0 5 [[I y9.1.Diner.ID, I y9.1.Diner.Phase, .slv (y9.1.Diner.Sides.map eSide), I y9.1.Thirst, .slv (y9.1.Need.map eI)]]]) [0, 1, 2, 3] [0, 1, 2, 3, 0, 0] 0 hok.len.symm rfl rfl (by decide) (by first | rfl | simp [-List.map_set]) (by first | rfl | simp [-List.map_set]) (by first | rfl | simp [-List.map_set]) (by first | rfl | simp [-List.map_set]))), _, h, rfl⟩
        · refine Wp.exit ?_
          exact ⟨_, (Option.some.inj h).symm, _, (St.Weak.trans (keepW (live := [3, 7]) (.cons rfl (.cons rfl .nil))) (pickT (e' := [(3, .c (.ptr 0 0 0 0)), (7, .c (.ptr 1 0 0 0))]) (H' := [.live 0 5 [[I a0.Diner.ID, I a0.Diner.Phase, .slv (a0.Diner.Sides.map eSide), I a0.Thirst, .slv (a0.Need.map eI)]], .live 0 5 [[I y5.1.Diner.ID, I y5.1.Diner.Phase, .slv (y5.1.Diner.Sides.map eSide), I y5.1.Thirst, .slv (y5.1.Need.map eI)]]]) [0, 1] [0, 1, 0, 0] 0 hok.len.symm rfl rfl (by decide) (by first | rfl | simp [-List.map_set]) (by first | rfl | simp [-List.map_set]) (by first | rfl | simp [-List.map_set]) (by first | rfl | simp [-List.map_set]))), rfl⟩
      · rintro _ ⟨z12, rfl, _, hw, rfl⟩
        dsimp only at h
        clear hz10
        refine Wp.weak hw ?_
        refine Wp.seq ?_
        obtain ⟨y17, hy17, h⟩ := bind_some h
        refine Wp.go false none [[], [], [], [], [(122, true)], [(122, true)], [(122, true)], [(122, true)], [(122, true)], [], []] [] [6] mixed rfl rfl (by kernel_rfl) ?_ -- region 15
        refine RunR.fieldAddr fo29_1 rfl rfl rfl rfl rfl ?_
        refine RunR.load1 tk26 rfl rfl rfl rfl ?_
        refine RunR.int rfl rfl rfl rfl rfl ?_
        refine RunR.move rfl rfl rfl ?_
        refine RunR.fieldAddr fo29_2 rfl rfl rfl rfl rfl ?_
        refine RunR.load1 tk27 rfl rfl rfl rfl ?_
        refine RunR.fieldAddr fo29_2 rfl rfl rfl rfl rfl ?_
        refine RunR.load1 tk27 rfl rfl rfl rfl ?_
        refine RunR.callG rfl rfl rfl (fun hb H => c_narthexref01_Same N y5.1.Need a0.Need y17 (ifT hy17 gT hb) H) ?_
        refine RunR.pickAnd rfl rfl rfl rfl ?_
        refine RunR.assign rfl rfl rfl ?_
        refine RunR.doneQ (.cons rfl .nil) ?_
        refine Wp.ret ?_
        obtain rfl := Option.some.inj h
        exact Ret.one rfl (resV_tmp rfl) rfl
      · rintro S' ⟨r11, rfl, hR⟩
        dsimp only at h
        obtain rfl := Option.some.inj h
        exact hR
-- narthex/narthexlaw15.DrinkKeeps
theorem w_narthexlaw15_DrinkKeeps (N : Nat) (a0 : TDrinker) (r : Bool) (h : narthexlaw15_DrinkKeeps N a0 = some r) : Nx.Call Try.prog 8 [.agg (eDrinker a0)] [] fun r' _ => r' = .c (B r) := by
  refine Nx.Call.of_body Try.func8 rfl en8 Try.ntmps8 rfl (fun Γ hok => ?_)
  unfold narthexlaw15_DrinkKeeps at h
  refine Wp.seq ?_
  refine Wp.text [1] rfl rfl ?_ -- region 0
  refine TextR.box (cs := [I a0.Diner.ID, I a0.Diner.Phase, .slv (a0.Diner.Sides.map eSide), I a0.Thirst, .slv (a0.Need.map eI)]) 0 rfl rfl rfl rfl .nil ?_
  refine TextR.assign rfl ?_
  refine TextR.done (.cons rfl .nil) ?_
  refine Wp.seq ?_
  refine Wp.seq ?_
  obtain ⟨y1, hy1, h⟩ := bind_some h
  obtain ⟨y2, hy2, h⟩ := bind_some h
  refine Wp.go false none [[], [], [], [(17, false)], [(17, false)], [(17, false)], []] [] [1, 21] mixed rfl rfl (by kernel_rfl) ?_ -- region 1
  refine RunR.call rfl rfl rfl (fun H => c_narthexlaw15_awake N y1 hy1 H) ?_
  refine RunR.not rfl rfl rfl ?_
  refine RunR.move rfl rfl rfl ?_
  refine RunR.loadN (cs := [I a0.Diner.ID, I a0.Diner.Phase, .slv (a0.Diner.Sides.map eSide), I a0.Thirst, .slv (a0.Need.map eI)]) tk29 rfl rfl rfl rfl ?_
  refine RunR.callG rfl rfl rfl (fun hb H => c_narthexlaw15_few N a0 y2 (ifT hy2 gF hb) H) ?_
  refine RunR.not rfl rfl rfl ?_
  refine RunR.pickOr rfl rfl rfl rfl ?_
  refine RunR.doneQ (.cons rfl (.cons rfl .nil)) ?_
  refine Wp.condM h rfl (fun hc1 h => ?_) (fun hc1 h => ?_)
  · refine Wp.seq ?_
    obtain ⟨y3, hy3, h⟩ := bind_some h
    refine Wp.text [2] rfl rfl ?_ -- region 2
    refine TextR.dcall rfl rfl (c_narthexlaw15_awake N y3 hy3 _) ?_
    refine TextR.assign rfl ?_
    refine TextR.done (.cons rfl .nil) ?_
    refine Wp.ret ?_
    obtain rfl := Option.some.inj h
    exact Ret.one rfl (resV_tmp rfl) rfl
  · refine Wp.skip ?_
    refine Wp.seq ?_
    obtain ⟨y4, hy4, h⟩ := bind_some h
    obtain ⟨y5, hy5, h⟩ := bind_some h
    refine Wp.text [1, 3, 4, 5] rfl rfl ?_ -- region 3
    refine TextR.loadN (cs := [I a0.Diner.ID, I a0.Diner.Phase, .slv (a0.Diner.Sides.map eSide), I a0.Thirst, .slv (a0.Need.map eI)]) tk29 rfl rfl ?_
    refine TextR.dcall rfl rfl (c_narthexlaw15_Own N a0 y4 hy4 _) ?_
    refine TextR.dcall rfl rfl (c_drink_Fire N y4 y5 hy5 _) ?_
    refine TextR.move rfl ?_
    refine TextR.extract rfl rfl ?_
    refine TextR.extract rfl rfl ?_
    refine TextR.extract rfl rfl ?_
    refine TextR.alloc 1 zc29 rfl rfl (.cons .nil) ?_
    refine TextR.store1 tk29 rfl rfl rfl rfl rfl rfl (.succ .zero) ?_
    refine TextR.assign rfl ?_
    refine TextR.assign rfl ?_
    refine TextR.done (.cons rfl (.cons rfl (.cons rfl (.cons rfl .nil)))) ?_
    refine Wp.seq ?_
    refine Wp.seq ?_
    refine Wp.go false none [[], [], [], [(32, false)], [(32, false)], [(32, false)], [(32, false)], [(32, false)], [(32, false)], [(32, false)], [(32, false)], [(32, false)], []] [] [1, 3, 4, 5, 42] mixed rfl rfl (by kernel_rfl) ?_ -- region 4
    refine RunR.move rfl rfl rfl ?_
    refine RunR.int rfl rfl rfl rfl rfl ?_
    refine RunR.move rfl rfl rfl ?_
    refine RunR.fieldAddr fo29_0 rfl rfl rfl rfl rfl ?_
    refine RunR.fieldAddr fo25_2 rfl rfl rfl rfl rfl ?_
    refine RunR.load1 tk23 rfl rfl rfl rfl ?_
    refine RunR.lenM us23 rfl rfl rfl rfl ?_
    refine RunR.fieldAddr fo29_0 rfl rfl rfl rfl rfl ?_
    refine RunR.fieldAddr fo25_2 rfl rfl rfl rfl rfl ?_
    refine RunR.load1 tk23 rfl rfl rfl rfl ?_
    refine RunR.lenM us23 rfl rfl rfl rfl ?_
    refine RunR.int rfl rfl rfl rfl rfl ?_
    refine RunR.pickOr rfl rfl rfl rfl ?_
    refine RunR.doneQ (.cons rfl (.cons rfl (.cons rfl (.cons rfl (.cons rfl .nil))))) ?_
    refine Wp.condM h rfl (fun hc2 h => ?_) (fun hc2 h => ?_)
    · refine Wp.seq ?_
      refine Wp.text [2] rfl rfl ?_ -- region 5
      refine TextR.move rfl ?_
      refine TextR.int rfl rfl rfl ?_
      refine TextR.assign rfl ?_
      refine TextR.done (.cons rfl .nil) ?_
      refine Wp.ret ?_
      obtain rfl := Option.some.inj h
      exact Ret.one rfl (resV_tmp rfl) rfl
    · refine Wp.skip ?_
      refine Wp.seq ?_
      refine Wp.text [1, 3, 4, 6] rfl rfl ?_ -- region 6
      refine TextR.assign rfl ?_
      refine TextR.done (.cons rfl (.cons rfl (.cons rfl (.cons rfl .nil)))) ?_
      refine Wp.seq ?_
      refine Wp.seq ?_
      refine Wp.text [1, 3, 4, 6, 7] rfl rfl ?_ -- region 7
      refine TextR.assign rfl ?_
      refine TextR.done (.cons rfl (.cons rfl (.cons rfl (.cons rfl (.cons rfl .nil))))) ?_
      obtain ⟨z6, hz6, h⟩ := bind_some h
      refine Wp.fragR (fun S => ∃ z8, z6 = .inr z8 ∧ ∃ S', St.Weak ⟨Try.prog, 176, Γ⟩ S S' ∧ S' = ⟨[(1, .c (.ptr 0 0 0 0)), (3, .c (.ptr 1 0 0 0)), (4, .c (.slv (y5.2.1.map eMail))), (6, .c (I z8))], [.live 0 5 [[I a0.Diner.ID, I a0.Diner.Phase, .slv (a0.Diner.Sides.map eSide), I a0.Thirst, .slv (a0.Need.map eI)]], .live 0 5 [[I y5.1.Diner.ID, I y5.1.Diner.Phase, .slv (y5.1.Diner.Sides.map eSide), I y5.1.Thirst, .slv (y5.1.Need.map eI)]]]⟩) (fun S => ∃ v, z6 = .inl v ∧ Ret Try.prog Try.f8 (fun r' _ => r' = .c (B v)) .ret S) ?_ ?_ ?_
      · replace h := hz6
        refine Wp.block ?_
        refine Wp.weak (keepW (live := [1, 3, 4, 6, 7]) (.cons rfl (.cons rfl (.cons rfl (.cons rfl (.cons rfl .nil)))))) ?_
        refine Wp.loop (fun m S => ∃ s6_1, ∃ s7_1, narthexlaw15_DrinkKeeps_L1 N a0 y5 m s6_1 s7_1 = some z6 ∧ S = ⟨[(1, .c (.ptr 0 0 0 0)), (3, .c (.ptr 1 0 0 0)), (4, .c (.slv (y5.2.1.map eMail))), (6, .c (I s6_1)), (7, .c (I s7_1))], [.live 0 5 [[I a0.Diner.ID, I a0.Diner.Phase, .slv (a0.Diner.Sides.map eSide), I a0.Thirst, .slv (a0.Need.map eI)]], .live 0 5 [[I y5.1.Diner.ID, I y5.1.Diner.Phase, .slv (y5.1.Diner.Sides.map eSide), I y5.1.Thirst, .slv (y5.1.Need.map eI)]]]⟩) N ⟨_, _, h, rfl⟩ ?_
        rintro m1 _ ⟨s6_1, s7_1, h, rfl⟩
        cases m1 with
        | zero => rw [narthexlaw15_DrinkKeeps_L1.eq_1] at h; cases h
        | succ m1 =>
        rw [narthexlaw15_DrinkKeeps_L1.eq_2] at h
        refine Wp.seq ?_
        refine Wp.seq ?_
        refine Wp.text [1, 3, 4, 6, 7, 50] rfl rfl ?_ -- region 8
        refine TextR.move rfl ?_
        refine TextR.fieldAddr fo29_0 rfl rfl rfl ?_
        refine TextR.fieldAddr fo25_2 rfl rfl rfl ?_
        refine TextR.load1 tk23 rfl rfl ?_
        refine TextR.lenM us23 rfl rfl ?_
        refine TextR.int rfl rfl rfl ?_
        refine TextR.done (.cons rfl (.cons rfl (.cons rfl (.cons rfl (.cons rfl (.cons rfl .nil)))))) ?_
        refine Wp.condM h rfl (fun hc4 h => ?_) (fun hc4 h => ?_)
        · refine Wp.skip ?_
          refine Wp.seq ?_
          refine Wp.block ?_
          refine Wp.seq ?_
          obtain ⟨x9, hx9, h⟩ := bind_some h
          obtain ⟨x10, hx10, h⟩ := bind_some h
          refine Wp.ways (S0 := ⟨[(1, .c (.ptr 0 0 0 0)), (3, .c (.ptr 1 0 0 0)), (4, .c (.slv (y5.2.1.map eMail))), (6, .c (I s6_1)), (7, .c (I s7_1)), (8, .c (.ptr 2 0 0 0)), (9, .c (.ptr 3 0 0 0))], [.live 0 5 [[I a0.Diner.ID, I a0.Diner.Phase, .slv (a0.Diner.Sides.map eSide), I a0.Thirst, .slv (a0.Need.map eI)]], .live 0 5 [[I y5.1.Diner.ID, I y5.1.Diner.Phase, .slv (y5.1.Diner.Sides.map eSide), I y5.1.Thirst, .slv (y5.1.Need.map eI)]], .live 0 8 [[I x9.Peer, I x9.Epoch, I x9.State, B x9.Fork, B x9.Dirty, B x9.Token, B x9.Bottle, B x9.Ask]], .live 0 8 [[I x10.Peer, I x10.Epoch, I x10.State, B x10.Fork, B x10.Dirty, B x10.Token, B x10.Bottle, B x10.Ask]]]⟩) mixed ?_ ?_ -- region 10 WAYS
          · refine RegAny.fork 13 12 [0, 1, 2, 3, 4, 5, 6, 7, 8, 9, 10, 11, 12, 13, 14, 15] [0, 1, 2, 3, 4, 5, 6, 7, 8, 9, 10, 11, 13, 12, 14, 15] rfl rfl rfl rfl ?_ ?_
            · refine RegAny.leaf ⟨[2, 3], []⟩ [[], [], [], [], [], [], [], [], [], [], [], [], [], [], [], []] [true, true, true, true, true, true, true, true, true, true, true, true, false, false, false, false] [1, 3, 4, 6, 7, 8, 9] rfl (by kernel_rfl) rfl ?_
              refine RunR.fieldAddr fo29_0 rfl rfl rfl rfl rfl ?_
              refine RunR.fieldAddr fo25_2 rfl rfl rfl rfl rfl ?_
              refine RunR.load1 tk23 rfl rfl rfl rfl ?_
              refine RunR.move rfl rfl rfl ?_
              refine RunR.indexA se23 rfl rfl rfl rfl rfl hx9 rfl ?_
              refine RunR.loadNM tk53 rfl rfl rfl (at_get hx9) rfl ?_
              refine RunR.fieldAddr fo29_0 rfl rfl rfl rfl rfl ?_
              refine RunR.fieldAddr fo25_2 rfl rfl rfl rfl rfl ?_
              refine RunR.load1 tk23 rfl rfl rfl rfl ?_
              refine RunR.move rfl rfl rfl ?_
              refine RunR.indexA se23 rfl rfl rfl rfl rfl hx10 rfl ?_
              refine RunR.loadNM tk53 rfl rfl rfl (at_get hx10) rfl ?_
              refine RunR.alloc 2 zc53 rfl rfl rfl rfl (.cons (.cons .nil)) ?_
              refine RunR.alloc 3 zc53 rfl rfl rfl rfl (.cons (.cons (.cons .nil))) ?_
              refine RunR.store1 tk53 rfl rfl rfl rfl rfl rfl rfl rfl (.succ (.succ .zero)) ?_
              refine RunR.store1 tk53 rfl rfl rfl rfl rfl rfl rfl rfl (.succ (.succ (.succ .zero))) ?_
              refine RunR.nil ⟨_, (.cons rfl (.cons rfl (.cons rfl (.cons rfl (.cons rfl (.cons rfl (.cons rfl .nil))))))), .refl⟩
            · refine RegAny.leaf ⟨[2, 3], []⟩ [[], [], [], [], [], [], [], [], [], [], [], [], [], [], [], []] [true, true, true, true, true, true, true, true, true, true, true, true, false, false, false, false] [1, 3, 4, 6, 7, 8, 9] rfl (by kernel_rfl) rfl ?_
              refine RunR.fieldAddr fo29_0 rfl rfl rfl rfl rfl ?_
              refine RunR.fieldAddr fo25_2 rfl rfl rfl rfl rfl ?_
              refine RunR.load1 tk23 rfl rfl rfl rfl ?_
              refine RunR.move rfl rfl rfl ?_
              refine RunR.indexA se23 rfl rfl rfl rfl rfl hx9 rfl ?_
              refine RunR.loadNM tk53 rfl rfl rfl (at_get hx9) rfl ?_
              refine RunR.fieldAddr fo29_0 rfl rfl rfl rfl rfl ?_
              refine RunR.fieldAddr fo25_2 rfl rfl rfl rfl rfl ?_
              refine RunR.load1 tk23 rfl rfl rfl rfl ?_
              refine RunR.move rfl rfl rfl ?_
              refine RunR.indexA se23 rfl rfl rfl rfl rfl hx10 rfl ?_
              refine RunR.loadNM tk53 rfl rfl rfl (at_get hx10) rfl ?_
              refine RunR.alloc 2 zc53 rfl rfl rfl rfl (.cons (.cons .nil)) ?_
              refine RunR.alloc 3 zc53 rfl rfl rfl rfl (.cons (.cons (.cons .nil))) ?_
              refine RunR.store1 tk53 rfl rfl rfl rfl rfl rfl rfl rfl (.succ (.succ (.succ .zero))) ?_
              refine RunR.store1 tk53 rfl rfl rfl rfl rfl rfl rfl rfl (.succ (.succ .zero)) ?_
              refine RunR.nil ⟨_, (.cons rfl (.cons rfl (.cons rfl (.cons rfl (.cons rfl (.cons rfl (.cons rfl .nil))))))), (pickT (e' := [(1, .c (.ptr 0 0 0 0)), (3, .c (.ptr 1 0 0 0)), (4, .c (.slv (y5.2.1.map eMail))), (6, .c (I s6_1)), (7, .c (I s7_1)), (8, .c (.ptr 2 0 0 0)), (9, .c (.ptr 3 0 0 0))]) (H' := [.live 0 5 [[I a0.Diner.ID, I a0.Diner.Phase, .slv (a0.Diner.Sides.map eSide), I a0.Thirst, .slv (a0.Need.map eI)]], .live 0 5 [[I y5.1.Diner.ID, I y5.1.Diner.Phase, .slv (y5.1.Diner.Sides.map eSide), I y5.1.Thirst, .slv (y5.1.Need.map eI)]], .live 0 8 [[I x9.Peer, I x9.Epoch, I x9.State, B x9.Fork, B x9.Dirty, B x9.Token, B x9.Bottle, B x9.Ask]], .live 0 8 [[I x10.Peer, I x10.Epoch, I x10.State, B x10.Fork, B x10.Dirty, B x10.Token, B x10.Bottle, B x10.Ask]]]) [0, 1, 3, 2] [0, 1, 3, 2] 0 hok.len.symm rfl rfl (by decide) (by first | rfl | simp [-List.map_set]) (by first | rfl | simp [-List.map_set]) (by first | rfl | simp [-List.map_set]) (by first | rfl | simp [-List.map_set]))⟩
          refine Wp.seq ?_
          refine Wp.text [1, 3, 4, 6, 7, 8, 9, 10] rfl rfl ?_ -- region 11
          refine TextR.fieldAddr fo53_3 rfl rfl rfl ?_
          refine TextR.load1 tk4 rfl rfl ?_
          refine TextR.fieldAddr fo53_5 rfl rfl rfl ?_
          refine TextR.load1 tk4 rfl rfl ?_
          refine TextR.fieldAddr fo53_6 rfl rfl rfl ?_
          refine TextR.load1 tk4 rfl rfl ?_
          refine TextR.fieldAddr fo53_7 rfl rfl rfl ?_
          refine TextR.load1 tk4 rfl rfl ?_
          refine TextR.build cm59 rfl ?_
          refine TextR.alloc 4 zc59 rfl rfl (.cons (.cons (.cons (.cons .nil)))) ?_
          refine TextR.store1 tk59 rfl rfl rfl rfl rfl rfl (.succ (.succ (.succ (.succ .zero)))) ?_
          refine TextR.done (.cons rfl (.cons rfl (.cons rfl (.cons rfl (.cons rfl (.cons rfl (.cons rfl (.cons rfl .nil)))))))) ?_
          refine Wp.seq ?_
          refine Wp.text [1, 3, 4, 6, 7, 8, 9, 10, 11] rfl rfl ?_ -- region 12
          refine TextR.fieldAddr fo53_3 rfl rfl rfl ?_
          refine TextR.load1 tk4 rfl rfl ?_
          refine TextR.fieldAddr fo53_5 rfl rfl rfl ?_
          refine TextR.load1 tk4 rfl rfl ?_
          refine TextR.fieldAddr fo53_6 rfl rfl rfl ?_
          refine TextR.load1 tk4 rfl rfl ?_
          refine TextR.fieldAddr fo53_7 rfl rfl rfl ?_
          refine TextR.load1 tk4 rfl rfl ?_
          refine TextR.build cm59 rfl ?_
          refine TextR.alloc 5 zc59 rfl rfl (.cons (.cons (.cons (.cons (.cons .nil))))) ?_
          refine TextR.store1 tk59 rfl rfl rfl rfl rfl rfl (.succ (.succ (.succ (.succ (.succ .zero))))) ?_
          refine TextR.done (.cons rfl (.cons rfl (.cons rfl (.cons rfl (.cons rfl (.cons rfl (.cons rfl (.cons rfl (.cons rfl .nil))))))))) ?_
          refine Wp.seq ?_
          refine Wp.seq ?_
          refine Wp.text [1, 3, 4, 6, 7, 8, 9, 10, 11, 12] rfl rfl ?_ -- region 13
          refine TextR.assign rfl ?_
          refine TextR.done (.cons rfl (.cons rfl (.cons rfl (.cons rfl (.cons rfl (.cons rfl (.cons rfl (.cons rfl (.cons rfl (.cons rfl .nil)))))))))) ?_
          obtain ⟨z11, hz11, h⟩ := bind_some h
          refine Wp.fragR (fun S => ∃ z13, z11 = .inr z13 ∧ ∃ S', St.Weak ⟨Try.prog, 176, Γ⟩ S S' ∧ S' = ⟨[(1, .c (.ptr 0 0 0 0)), (3, .c (.ptr 1 0 0 0)), (4, .c (.slv (y5.2.1.map eMail))), (6, .c (I z13)), (7, .c (I s7_1)), (8, .c (.ptr 2 0 0 0)), (9, .c (.ptr 3 0 0 0))], [.live 0 5 [[I a0.Diner.ID, I a0.Diner.Phase, .slv (a0.Diner.Sides.map eSide), I a0.Thirst, .slv (a0.Need.map eI)]], .live 0 5 [[I y5.1.Diner.ID, I y5.1.Diner.Phase, .slv (y5.1.Diner.Sides.map eSide), I y5.1.Thirst, .slv (y5.1.Need.map eI)]], .live 0 8 [[I x9.Peer, I x9.Epoch, I x9.State, B x9.Fork, B x9.Dirty, B x9.Token, B x9.Bottle, B x9.Ask]], .live 0 8 [[I x10.Peer, I x10.Epoch, I x10.State, B x10.Fork, B x10.Dirty, B x10.Token, B x10.Bottle, B x10.Ask]]]⟩) (fun S => ∃ v, z11 = .inl v ∧ Ret Try.prog Try.f8 (fun r' _ => r' = .c (B v)) .ret S) ?_ ?_ ?_
          · replace h := hz11
            refine Wp.block ?_
            refine Wp.weak (keepW (live := [1, 3, 4, 6, 7, 8, 9, 10, 11, 12]) (.cons rfl (.cons rfl (.cons rfl (.cons rfl (.cons rfl (.cons rfl (.cons rfl (.cons rfl (.cons rfl (.cons rfl .nil))))))))))) ?_
            refine Wp.loop (fun m S => ∃ s6_2, ∃ s12_2, narthexlaw15_DrinkKeeps_L2 N a0 y5 x9 x10 m s6_2 s12_2 = some z11 ∧ S = ⟨[(1, .c (.ptr 0 0 0 0)), (3, .c (.ptr 1 0 0 0)), (4, .c (.slv (y5.2.1.map eMail))), (6, .c (I s6_2)), (7, .c (I s7_1)), (8, .c (.ptr 2 0 0 0)), (9, .c (.ptr 3 0 0 0)), (10, .c (.ptr 4 0 0 0)), (11, .c (.ptr 5 0 0 0)), (12, .c (I s12_2))], [.live 0 5 [[I a0.Diner.ID, I a0.Diner.Phase, .slv (a0.Diner.Sides.map eSide), I a0.Thirst, .slv (a0.Need.map eI)]], .live 0 5 [[I y5.1.Diner.ID, I y5.1.Diner.Phase, .slv (y5.1.Diner.Sides.map eSide), I y5.1.Thirst, .slv (y5.1.Need.map eI)]], .live 0 8 [[I x9.Peer, I x9.Epoch, I x9.State, B x9.Fork, B x9.Dirty, B x9.Token, B x9.Bottle, B x9.Ask]], .live 0 8 [[I x10.Peer, I x10.Epoch, I x10.State, B x10.Fork, B x10.Dirty, B x10.Token, B x10.Bottle, B x10.Ask]], .live 0 4 [[B x9.Fork, B x9.Token, B x9.Bottle, B x9.Ask]], .live 0 4 [[B x10.Fork, B x10.Token, B x10.Bottle, B x10.Ask]]]⟩) N ⟨_, _, h, rfl⟩ ?_
            rintro m2 _ ⟨s6_2, s12_2, h, rfl⟩
            cases m2 with
            | zero => rw [narthexlaw15_DrinkKeeps_L2.eq_1] at h; cases h
            | succ m2 =>
            rw [narthexlaw15_DrinkKeeps_L2.eq_2] at h
            refine Wp.seq ?_
            refine Wp.seq ?_
            refine Wp.text [1, 3, 4, 6, 7, 8, 9, 10, 11, 12, 84] rfl rfl ?_ -- region 14
            refine TextR.move rfl ?_
            refine TextR.int rfl rfl rfl ?_
            refine TextR.done (.cons rfl (.cons rfl (.cons rfl (.cons rfl (.cons rfl (.cons rfl (.cons rfl (.cons rfl (.cons rfl (.cons rfl (.cons rfl .nil))))))))))) ?_
            refine Wp.condM h rfl (fun hc6 h => ?_) (fun hc6 h => ?_)
            · refine Wp.skip ?_
              refine Wp.seq ?_
              refine Wp.block ?_
              refine Wp.seq ?_
              refine Wp.text [1, 3, 4, 6, 7, 8, 9, 10, 11, 12, 13] rfl rfl ?_ -- region 16
              refine TextR.assign rfl ?_
              refine TextR.done (.cons rfl (.cons rfl (.cons rfl (.cons rfl (.cons rfl (.cons rfl (.cons rfl (.cons rfl (.cons rfl (.cons rfl (.cons rfl .nil))))))))))) ?_
              refine Wp.seq ?_
              refine Wp.seq ?_
              refine Wp.text [1, 3, 4, 6, 7, 8, 9, 10, 11, 12, 13, 14] rfl rfl ?_ -- region 17
              refine TextR.assign rfl ?_
              refine TextR.done (.cons rfl (.cons rfl (.cons rfl (.cons rfl (.cons rfl (.cons rfl (.cons rfl (.cons rfl (.cons rfl (.cons rfl (.cons rfl (.cons rfl .nil)))))))))))) ?_
              obtain ⟨z14, hz14, h⟩ := bind_some h
              refine Wp.fragN (fun S => ∃ S', St.Weak ⟨Try.prog, 176, Γ⟩ S S' ∧ S' = ⟨[(1, .c (.ptr 0 0 0 0)), (3, .c (.ptr 1 0 0 0)), (4, .c (.slv (y5.2.1.map eMail))), (6, .c (I s6_2)), (7, .c (I s7_1)), (8, .c (.ptr 2 0 0 0)), (9, .c (.ptr 3 0 0 0)), (10, .c (.ptr 4 0 0 0)), (11, .c (.ptr 5 0 0 0)), (12, .c (I s12_2)), (13, .c (I z14))], [.live 0 5 [[I a0.Diner.ID, I a0.Diner.Phase, .slv (a0.Diner.Sides.map eSide), I a0.Thirst, .slv (a0.Need.map eI)]], .live 0 5 [[I y5.1.Diner.ID, I y5.1.Diner.Phase, .slv (y5.1.Diner.Sides.map eSide), I y5.1.Thirst, .slv (y5.1.Need.map eI)]], .live 0 8 [[I x9.Peer, I x9.Epoch, I x9.State, B x9.Fork, B x9.Dirty, B x9.Token, B x9.Bottle, B x9.Ask]], .live 0 8 [[I x10.Peer, I x10.Epoch, I x10.State, B x10.Fork, B x10.Dirty, B x10.Token, B x10.Bottle, B x10.Ask]], .live 0 4 [[B x9.Fork, B x9.Token, B x9.Bottle, B x9.Ask]], .live 0 4 [[B x10.Fork, B x10.Token, B x10.Bottle, B x10.Ask]]]⟩) ?_ ?_
              · replace h := hz14
                refine Wp.block ?_
                refine Wp.weak (keepW (live := [1, 3, 4, 6, 7, 8, 9, 10, 11, 12, 13, 14]) (.cons rfl (.cons rfl (.cons rfl (.cons rfl (.cons rfl (.cons rfl (.cons rfl (.cons rfl (.cons rfl (.cons rfl (.cons rfl (.cons rfl .nil))))))))))))) ?_
                refine Wp.loop (fun m S => ∃ s13_3, ∃ s14_3, narthexlaw15_DrinkKeeps_L3 N a0 y5 x9 s12_2 m s13_3 s14_3 = some z14 ∧ S = ⟨[(1, .c (.ptr 0 0 0 0)), (3, .c (.ptr 1 0 0 0)), (4, .c (.slv (y5.2.1.map eMail))), (6, .c (I s6_2)), (7, .c (I s7_1)), (8, .c (.ptr 2 0 0 0)), (9, .c (.ptr 3 0 0 0)), (10, .c (.ptr 4 0 0 0)), (11, .c (.ptr 5 0 0 0)), (12, .c (I s12_2)), (13, .c (I s13_3)), (14, .c (I s14_3))], [.live 0 5 [[I a0.Diner.ID, I a0.Diner.Phase, .slv (a0.Diner.Sides.map eSide), I a0.Thirst, .slv (a0.Need.map eI)]], .live 0 5 [[I y5.1.Diner.ID, I y5.1.Diner.Phase, .slv (y5.1.Diner.Sides.map eSide), I y5.1.Thirst, .slv (y5.1.Need.map eI)]], .live 0 8 [[I x9.Peer, I x9.Epoch, I x9.State, B x9.Fork, B x9.Dirty, B x9.Token, B x9.Bottle, B x9.Ask]], .live 0 8 [[I x10.Peer, I x10.Epoch, I x10.State, B x10.Fork, B x10.Dirty, B x10.Token, B x10.Bottle, B x10.Ask]], .live 0 4 [[B x9.Fork, B x9.Token, B x9.Bottle, B x9.Ask]], .live 0 4 [[B x10.Fork, B x10.Token, B x10.Bottle, B x10.Ask]]]⟩) N ⟨_, _, h, rfl⟩ ?_
                rintro m3 _ ⟨s13_3, s14_3, h, rfl⟩
                cases m3 with
                | zero => rw [narthexlaw15_DrinkKeeps_L3.eq_1] at h; cases h
                | succ m3 =>
                rw [narthexlaw15_DrinkKeeps_L3.eq_2] at h
                refine Wp.seq ?_
                refine Wp.seq ?_
                refine Wp.text [1, 3, 4, 6, 7, 8, 9, 10, 11, 12, 13, 14, 90] rfl rfl ?_ -- region 18
                refine TextR.move rfl ?_
                refine TextR.move rfl ?_
                refine TextR.lenM us32 rfl rfl ?_
                refine TextR.int rfl rfl rfl ?_
                refine TextR.done (.cons rfl (.cons rfl (.cons rfl (.cons rfl (.cons rfl (.cons rfl (.cons rfl (.cons rfl (.cons rfl (.cons rfl (.cons rfl (.cons rfl (.cons rfl .nil))))))))))))) ?_
                refine Wp.condM h rfl (fun hc8 h => ?_) (fun hc8 h => ?_)
                · refine Wp.skip ?_
                  refine Wp.seq ?_
                  refine Wp.block ?_
                  refine Wp.seq ?_
                  obtain ⟨x15, hx15, h⟩ := bind_some h
                  refine Wp.go true (some ⟨[], []⟩) [] [] [1, 3, 4, 6, 7, 8, 9, 10, 11, 12, 13, 14, 108] mixed rfl rfl (by kernel_rfl) ?_ -- region 20
                  refine RunR.move rfl rfl rfl ?_
                  refine RunR.move rfl rfl rfl ?_
                  refine RunR.indexA se32 rfl rfl rfl rfl rfl hx15 rfl ?_
                  refine RunR.loadNM tk61 rfl rfl rfl (at_get hx15) rfl ?_
                  refine RunR.fieldAddr fo29_0 rfl rfl rfl rfl rfl ?_
                  refine RunR.fieldAddr fo25_0 rfl rfl rfl rfl rfl ?_
                  refine RunR.load1 tk3 rfl rfl rfl rfl ?_
                  refine RunR.fieldAddr fo53_0 rfl rfl rfl rfl rfl ?_
                  refine RunR.load1 tk3 rfl rfl rfl rfl ?_
                  refine RunR.move rfl rfl rfl ?_
                  refine RunR.int rfl rfl rfl rfl rfl ?_
                  refine RunR.fieldAddr fo53_1 rfl rfl rfl rfl rfl ?_
                  refine RunR.load1 tk3 rfl rfl rfl rfl ?_
                  refine RunR.build cm44 rfl rfl rfl ?_
                  refine RunR.build cm61 rfl rfl rfl ?_
                  refine RunR.eqAgg eqs61 rfl rfl rfl rfl (q_Mail x15 (⟨a0.Diner.ID, x9.Peer, (⟨w64 (1 + s12_2), x9.Epoch, 0⟩ : TMsg)⟩ : TMail)) ?_
                  refine RunR.doneQ (.cons rfl (.cons rfl (.cons rfl (.cons rfl (.cons rfl (.cons rfl (.cons rfl (.cons rfl (.cons rfl (.cons rfl (.cons rfl (.cons rfl (.cons rfl .nil))))))))))))) ?_
                  refine Wp.condM h rfl (fun hc9 h => ?_) (fun hc9 h => ?_)
                  · refine Wp.text [1, 3, 4, 6, 7, 8, 9, 10, 11, 12, 13, 14] rfl rfl ?_ -- region 21
                    refine TextR.move rfl ?_
                    refine TextR.int rfl rfl rfl ?_
                    refine TextR.assign rfl ?_
                    refine TextR.done (.cons rfl (.cons rfl (.cons rfl (.cons rfl (.cons rfl (.cons rfl (.cons rfl (.cons rfl (.cons rfl (.cons rfl (.cons rfl (.cons rfl .nil)))))))))))) ?_
                    refine Wp.text [1, 3, 4, 6, 7, 8, 9, 10, 11, 12, 13, 14] rfl rfl ?_ -- region 19
                    refine TextR.move rfl ?_
                    refine TextR.int rfl rfl rfl ?_
                    refine TextR.assign rfl ?_
                    refine TextR.done (.cons rfl (.cons rfl (.cons rfl (.cons rfl (.cons rfl (.cons rfl (.cons rfl (.cons rfl (.cons rfl (.cons rfl (.cons rfl (.cons rfl .nil)))))))))))) ?_
                    exact ⟨m3, Nat.lt_succ_self _, _, (keepW (live := [1, 3, 4, 6, 7, 8, 9, 10, 11, 12, 13, 14]) (.cons rfl (.cons rfl (.cons rfl (.cons rfl (.cons rfl (.cons rfl (.cons rfl (.cons rfl (.cons rfl (.cons rfl (.cons rfl (.cons rfl .nil))))))))))))), _, _, h, rfl⟩
                  · refine Wp.skip ?_
                    refine Wp.text [1, 3, 4, 6, 7, 8, 9, 10, 11, 12, 13, 14] rfl rfl ?_ -- region 19
                    refine TextR.move rfl ?_
                    refine TextR.int rfl rfl rfl ?_
                    refine TextR.assign rfl ?_
                    refine TextR.done (.cons rfl (.cons rfl (.cons rfl (.cons rfl (.cons rfl (.cons rfl (.cons rfl (.cons rfl (.cons rfl (.cons rfl (.cons rfl (.cons rfl .nil)))))))))))) ?_
                    exact ⟨m3, Nat.lt_succ_self _, _, (keepW (live := [1, 3, 4, 6, 7, 8, 9, 10, 11, 12, 13, 14]) (.cons rfl (.cons rfl (.cons rfl (.cons rfl (.cons rfl (.cons rfl (.cons rfl (.cons rfl (.cons rfl (.cons rfl (.cons rfl (.cons rfl .nil))))))))))))), _, _, h, rfl⟩
                · refine Wp.exit ?_
                  obtain rfl := Option.some.inj h
                  exact ⟨_, (keepW (live := [1, 3, 4, 6, 7, 8, 9, 10, 11, 12, 13]) (.cons rfl (.cons rfl (.cons rfl (.cons rfl (.cons rfl (.cons rfl (.cons rfl (.cons rfl (.cons rfl (.cons rfl (.cons rfl .nil)))))))))))), rfl⟩
              rintro _ ⟨S', hw, rfl⟩
              clear hz14
              refine Wp.weak hw ?_
              refine Wp.seq ?_
              refine Wp.text [1, 3, 4, 6, 7, 8, 9, 10, 11, 12, 13] rfl rfl ?_ -- region 22
              refine TextR.move rfl ?_
              refine TextR.move rfl ?_
              refine TextR.int rfl rfl rfl ?_
              refine TextR.assign rfl ?_
              refine TextR.done (.cons rfl (.cons rfl (.cons rfl (.cons rfl (.cons rfl (.cons rfl (.cons rfl (.cons rfl (.cons rfl (.cons rfl (.cons rfl .nil))))))))))) ?_
              refine Wp.seq ?_
              obtain ⟨x16, hx16, h⟩ := bind_some h
              obtain ⟨x17, hx17, h⟩ := bind_some h
              obtain ⟨x18, hx18, h⟩ := bind_some h
              obtain ⟨x19, hx19, h⟩ := bind_some h
              refine Wp.go false none [[], [], [], [], [(117, true)], [(117, true)], [(117, true)], [(117, true)], [(117, true)], [(117, true)], [(117, true)], [(124, false), (117, true)], [(124, false), (117, true)], [(117, true)], [], [], [(129, false)], [(129, false)], [(129, false)], [(129, false)], [(129, false)], [(134, true), (129, false)], [(134, true), (129, false)], [(134, true), (129, false)], [(134, true), (129, false)], [(138, false), (134, true), (129, false)], [(138, false), (134, true), (129, false)], [(134, true), (129, false)], [(129, false)], []] [] [1, 3, 4, 6, 7, 8, 9, 10, 11, 12, 143] mixed rfl rfl (by kernel_rfl) ?_ -- region 23
              refine RunR.move rfl rfl rfl ?_
              refine RunR.indexR (xs := [x9.Fork, x9.Token, x9.Bottle, x9.Ask]) ar59 rfl rfl rfl rfl rfl hx16 rfl ?_
              refine RunR.load1R (xs := [x9.Fork, x9.Token, x9.Bottle, x9.Ask]) (f := B) tk4 rfl rfl (at_get hx16) rfl rfl ?_
              refine RunR.move rfl rfl rfl ?_
              refine RunR.move rfl rfl rfl ?_
              refine RunR.indexRG (xs := [x10.Fork, x10.Token, x10.Bottle, x10.Ask]) ar59 rfl rfl rfl rfl rfl (ifPos hx17 gT) (ifAt hx17 gT) rfl ?_
              refine RunR.load1RG (xs := [x10.Fork, x10.Token, x10.Bottle, x10.Ask]) (f := B) tk4 rfl rfl (ifAt hx17 gT) rfl rfl ?_
              refine RunR.move rfl rfl rfl ?_
              refine RunR.int rfl rfl rfl rfl rfl ?_
              refine RunR.eqBool (by kernel_rfl) rfl rfl rfl rfl ?_
              refine RunR.move rfl rfl rfl ?_
              refine RunR.move rfl rfl rfl ?_
              refine RunR.int rfl rfl rfl rfl rfl ?_
              refine RunR.pickOr rfl rfl rfl rfl ?_
              refine RunR.pickAnd rfl rfl rfl rfl ?_
              refine RunR.move rfl rfl rfl ?_
              refine RunR.move rfl rfl rfl ?_
              refine RunR.indexRG (xs := [x9.Fork, x9.Token, x9.Bottle, x9.Ask]) ar59 rfl rfl rfl rfl rfl (ifPos hx18 gF) (ifAt hx18 gF) rfl ?_
              refine RunR.load1RG (xs := [x9.Fork, x9.Token, x9.Bottle, x9.Ask]) (f := B) tk4 rfl rfl (ifAt hx18 gF) rfl rfl ?_
              refine RunR.not rfl rfl rfl ?_
              refine RunR.move rfl rfl rfl ?_
              refine RunR.move rfl rfl rfl ?_
              refine RunR.indexRG (xs := [x10.Fork, x10.Token, x10.Bottle, x10.Ask]) ar59 rfl rfl rfl rfl rfl (ifPos hx19 (fun hb => (gAnd (gF (gN hb)) (gT hb)))) (ifAt hx19 (fun hb => (gAnd (gF (gN hb)) (gT hb)))) rfl ?_
              refine RunR.load1RG (xs := [x10.Fork, x10.Token, x10.Bottle, x10.Ask]) (f := B) tk4 rfl rfl (ifAt hx19 (fun hb => (gAnd (gF (gN hb)) (gT hb)))) rfl rfl ?_
              refine RunR.move rfl rfl rfl ?_
              refine RunR.move rfl rfl rfl ?_
              refine RunR.int rfl rfl rfl rfl rfl ?_
              refine RunR.pickOr rfl rfl rfl rfl ?_
              refine RunR.pickAnd rfl rfl rfl rfl ?_
              refine RunR.pickOr rfl rfl rfl rfl ?_
              refine RunR.doneQ (.cons rfl (.cons rfl (.cons rfl (.cons rfl (.cons rfl (.cons rfl (.cons rfl (.cons rfl (.cons rfl (.cons rfl (.cons rfl .nil))))))))))) ?_
              refine Wp.condM h rfl (fun hc7 h => ?_) (fun hc7 h => ?_)
              · refine Wp.seq ?_
                refine Wp.text [2] rfl rfl ?_ -- region 24
                refine TextR.assign rfl ?_
                refine TextR.done (.cons rfl .nil) ?_
                refine Wp.ret ?_
                exact ⟨_, (Option.some.inj h).symm, Ret.one rfl (resV_tmp rfl) rfl⟩
              · refine Wp.skip ?_
                refine Wp.text [1, 3, 4, 6, 7, 8, 9, 10, 11, 12] rfl rfl ?_ -- region 15
                refine TextR.move rfl ?_
                refine TextR.int rfl rfl rfl ?_
                refine TextR.assign rfl ?_
                refine TextR.done (.cons rfl (.cons rfl (.cons rfl (.cons rfl (.cons rfl (.cons rfl (.cons rfl (.cons rfl (.cons rfl (.cons rfl .nil)))))))))) ?_
                exact ⟨m2, Nat.lt_succ_self _, _, (keepW (live := [1, 3, 4, 6, 7, 8, 9, 10, 11, 12]) (.cons rfl (.cons rfl (.cons rfl (.cons rfl (.cons rfl (.cons rfl (.cons rfl (.cons rfl (.cons rfl (.cons rfl .nil))))))))))), _, _, h, rfl⟩
            · refine Wp.exit ?_
              exact ⟨_, (Option.some.inj h).symm, _, (St.Weak.trans (keepW (live := [1, 3, 4, 6, 7, 8, 9]) (.cons rfl (.cons rfl (.cons rfl (.cons rfl (.cons rfl (.cons rfl (.cons rfl .nil)))))))) (pickT (e' := [(1, .c (.ptr 0 0 0 0)), (3, .c (.ptr 1 0 0 0)), (4, .c (.slv (y5.2.1.map eMail))), (6, .c (I s6_2)), (7, .c (I s7_1)), (8, .c (.ptr 2 0 0 0)), (9, .c (.ptr 3 0 0 0))]) (H' := [.live 0 5 [[I a0.Diner.ID, I a0.Diner.Phase, .slv (a0.Diner.Sides.map eSide), I a0.Thirst, .slv (a0.Need.map eI)]], .live 0 5 [[I y5.1.Diner.ID, I y5.1.Diner.Phase, .slv (y5.1.Diner.Sides.map eSide), I y5.1.Thirst, .slv (y5.1.Need.map eI)]], .live 0 8 [[I x9.Peer, I x9.Epoch, I x9.State, B x9.Fork, B x9.Dirty, B x9.Token, B x9.Bottle, B x9.Ask]], .live 0 8 [[I x10.Peer, I x10.Epoch, I x10.State, B x10.Fork, B x10.Dirty, B x10.Token, B x10.Bottle, B x10.Ask]]]) [0, 1, 2, 3] [0, 1, 2, 3, 0, 0] 0 hok.len.symm rfl rfl (by decide) (by first | rfl | simp [-List.map_set]) (by first | rfl | simp [-List.map_set]) (by first | rfl | simp [-List.map_set]) (by first | rfl | simp [-List.map_set]))), rfl⟩
          · rintro _ ⟨z13, rfl, _, hw, rfl⟩
            dsimp only at h
            clear hz11
            refine Wp.weak hw ?_
            refine Wp.seq ?_
            refine Wp.go false none [[], [], [], [], [], [], [(149, false)], [(149, false)], [(149, false)], [(149, false)], [(149, false)], [], [], [(156, false)], [(156, false)], [(156, false)], [(156, false)], [(156, false)], []] [] [1, 3, 4, 6, 7, 162] mixed rfl rfl (by kernel_rfl) ?_ -- region 25
            refine RunR.fieldAddr fo53_0 rfl rfl rfl rfl rfl ?_
            refine RunR.load1 tk3 rfl rfl rfl rfl ?_
            refine RunR.fieldAddr fo53_0 rfl rfl rfl rfl rfl ?_
            refine RunR.load1 tk3 rfl rfl rfl rfl ?_
            refine RunR.int rfl rfl rfl rfl rfl ?_
            refine RunR.move rfl rfl rfl ?_
            refine RunR.fieldAddr fo53_1 rfl rfl rfl rfl rfl ?_
            refine RunR.load1 tk3 rfl rfl rfl rfl ?_
            refine RunR.fieldAddr fo53_1 rfl rfl rfl rfl rfl ?_
            refine RunR.load1 tk3 rfl rfl rfl rfl ?_
            refine RunR.int rfl rfl rfl rfl rfl ?_
            refine RunR.pickOr rfl rfl rfl rfl ?_
            refine RunR.move rfl rfl rfl ?_
            refine RunR.fieldAddr fo53_2 rfl rfl rfl rfl rfl ?_
            refine RunR.load1 tk51 rfl rfl rfl rfl ?_
            refine RunR.fieldAddr fo53_2 rfl rfl rfl rfl rfl ?_
            refine RunR.load1 tk51 rfl rfl rfl rfl ?_
            refine RunR.int rfl rfl rfl rfl rfl ?_
            refine RunR.pickOr rfl rfl rfl rfl ?_
            refine RunR.doneQ (.cons rfl (.cons rfl (.cons rfl (.cons rfl (.cons rfl (.cons rfl .nil)))))) ?_
            refine Wp.condM h rfl (fun hc6 h => ?_) (fun hc6 h => ?_)
            · refine Wp.seq ?_
              refine Wp.text [2] rfl rfl ?_ -- region 26
              refine TextR.assign rfl ?_
              refine TextR.done (.cons rfl .nil) ?_
              refine Wp.ret ?_
              exact ⟨_, (Option.some.inj h).symm, Ret.one rfl (resV_tmp rfl) rfl⟩
            · refine Wp.skip ?_
              refine Wp.text [1, 3, 4, 6, 7] rfl rfl ?_ -- region 9
              refine TextR.move rfl ?_
              refine TextR.int rfl rfl rfl ?_
              refine TextR.assign rfl ?_
              refine TextR.done (.cons rfl (.cons rfl (.cons rfl (.cons rfl (.cons rfl .nil))))) ?_
              exact ⟨m1, Nat.lt_succ_self _, _, (St.Weak.trans (keepW (live := [1, 3, 4, 6, 7]) (.cons rfl (.cons rfl (.cons rfl (.cons rfl (.cons rfl .nil)))))) (pickT (e' := [(1, .c (.ptr 0 0 0 0)), (3, .c (.ptr 1 0 0 0)), (4, .c (.slv (y5.2.1.map eMail))), (6, .c (I z13)), (7, .c (I (w64 (s7_1 + 1))))]) (H' := [.live 0 5 [[I a0.Diner.ID, I a0.Diner.Phase, .slv (a0.Diner.Sides.map eSide), I a0.Thirst, .slv (a0.Need.map eI)]], .live 0 5 [[I y5.1.Diner.ID, I y5.1.Diner.Phase, .slv (y5.1.Diner.Sides.map eSide), I y5.1.Thirst, .slv (y5.1.Need.map eI)]]]) [0, 1] [0, 1, 0, 0] 0 hok.len.symm rfl rfl (by decide) (by first | rfl | simp [-List.map_set]) (by first | rfl | simp [-List.map_set]) (by first | rfl | simp [-List.map_set]) (by first | rfl | simp [-List.map_set]))), _, _, h, rfl⟩
          · rintro S' ⟨r12, rfl, hR⟩
            dsimp only at h
            exact ⟨_, (Option.some.inj h).symm, hR⟩
        · refine Wp.exit ?_
          exact ⟨_, (Option.some.inj h).symm, _, (keepW (live := [1, 3, 4, 6]) (.cons rfl (.cons rfl (.cons rfl (.cons rfl .nil))))), rfl⟩
      · rintro _ ⟨z8, rfl, _, hw, rfl⟩
        dsimp only at h
        clear hz6
        refine Wp.weak hw ?_
        refine Wp.seq ?_
        refine Wp.go false none [[], [], [], [], [], [(167, true)], [(167, true)], [(167, true)], [(167, true)], [(167, true)], [(167, true)], [(167, true)], [], []] [] [2] mixed rfl rfl (by kernel_rfl) ?_ -- region 27
        refine RunR.move rfl rfl rfl ?_
        refine RunR.move rfl rfl rfl ?_
        refine RunR.lenM us32 rfl rfl rfl rfl ?_
        refine RunR.int rfl rfl rfl rfl rfl ?_
        refine RunR.move rfl rfl rfl ?_
        refine RunR.fieldAddr fo29_0 rfl rfl rfl rfl rfl ?_
        refine RunR.fieldAddr fo25_0 rfl rfl rfl rfl rfl ?_
        refine RunR.load1 tk3 rfl rfl rfl rfl ?_
        refine RunR.fieldAddr fo29_0 rfl rfl rfl rfl rfl ?_
        refine RunR.fieldAddr fo25_0 rfl rfl rfl rfl rfl ?_
        refine RunR.load1 tk3 rfl rfl rfl rfl ?_
        refine RunR.int rfl rfl rfl rfl rfl ?_
        refine RunR.pickAnd rfl rfl rfl rfl ?_
        refine RunR.assign rfl rfl rfl ?_
        refine RunR.doneQ (.cons rfl .nil) ?_
        refine Wp.ret ?_
        obtain rfl := Option.some.inj h
        exact Ret.one rfl (resV_tmp rfl) rfl
      · rintro S' ⟨r7, rfl, hR⟩
        dsimp only at h
        obtain rfl := Option.some.inj h
        exact hR
-- narthex/narthexlaw15.DrinkNone
theorem w_narthexlaw15_DrinkNone (N : Nat) (a0 : TDrinker) (r : Bool) (h : narthexlaw15_DrinkNone N a0 = some r) : Nx.Call Try.prog 9 [.agg (eDrinker a0)] [] fun r' _ => r' = .c (B r) := by
  refine Nx.Call.of_body Try.func9 rfl en9 Try.ntmps9 rfl (fun Γ hok => ?_)
  unfold narthexlaw15_DrinkNone at h
  refine Wp.seq ?_
  refine Wp.text [1] rfl rfl ?_ -- region 0
  refine TextR.box (cs := [I a0.Diner.ID, I a0.Diner.Phase, .slv (a0.Diner.Sides.map eSide), I a0.Thirst, .slv (a0.Need.map eI)]) 0 rfl rfl rfl rfl .nil ?_
  refine TextR.assign rfl ?_
  refine TextR.done (.cons rfl .nil) ?_
  refine Wp.seq ?_
  refine Wp.seq ?_
  obtain ⟨y1, hy1, h⟩ := bind_some h
  obtain ⟨y2, hy2, h⟩ := bind_some h
  refine Wp.go false none [[], [], [], [(12, false)], [(12, false)], [(12, false)], []] [] [1, 16] mixed rfl rfl (by kernel_rfl) ?_ -- region 1
  refine RunR.call rfl rfl rfl (fun H => c_narthexlaw15_awake N y1 hy1 H) ?_
  refine RunR.not rfl rfl rfl ?_
  refine RunR.move rfl rfl rfl ?_
  refine RunR.loadN (cs := [I a0.Diner.ID, I a0.Diner.Phase, .slv (a0.Diner.Sides.map eSide), I a0.Thirst, .slv (a0.Need.map eI)]) tk29 rfl rfl rfl rfl ?_
  refine RunR.callG rfl rfl rfl (fun hb H => c_narthexlaw15_few N a0 y2 (ifT hy2 gF hb) H) ?_
  refine RunR.not rfl rfl rfl ?_
  refine RunR.pickOr rfl rfl rfl rfl ?_
  refine RunR.doneQ (.cons rfl (.cons rfl .nil)) ?_
  refine Wp.condM h rfl (fun hc1 h => ?_) (fun hc1 h => ?_)
  · refine Wp.seq ?_
    obtain ⟨y3, hy3, h⟩ := bind_some h
    refine Wp.text [2] rfl rfl ?_ -- region 2
    refine TextR.dcall rfl rfl (c_narthexlaw15_awake N y3 hy3 _) ?_
    refine TextR.assign rfl ?_
    refine TextR.done (.cons rfl .nil) ?_
    refine Wp.ret ?_
    obtain rfl := Option.some.inj h
    exact Ret.one rfl (resV_tmp rfl) rfl
  · refine Wp.skip ?_
    refine Wp.seq ?_
    obtain ⟨y4, hy4, h⟩ := bind_some h
    obtain ⟨y5, hy5, h⟩ := bind_some h
    refine Wp.text [1, 3, 4] rfl rfl ?_ -- region 3
    refine TextR.loadN (cs := [I a0.Diner.ID, I a0.Diner.Phase, .slv (a0.Diner.Sides.map eSide), I a0.Thirst, .slv (a0.Need.map eI)]) tk29 rfl rfl ?_
    refine TextR.dcall rfl rfl (c_narthexlaw15_Own N a0 y4 hy4 _) ?_
    refine TextR.dcall rfl rfl (DCall.nz rfl (c_drink_Open N y4 [] y5 hy5 _)) ?_
    refine TextR.move rfl ?_
    refine TextR.extract rfl rfl ?_
    refine TextR.extract rfl rfl ?_
    refine TextR.alloc 1 zc29 rfl rfl (.cons .nil) ?_
    refine TextR.store1 tk29 rfl rfl rfl rfl rfl rfl (.succ .zero) ?_
    refine TextR.assign rfl ?_
    refine TextR.done (.cons rfl (.cons rfl (.cons rfl .nil))) ?_
    refine Wp.seq ?_
    obtain ⟨y6, hy6, h⟩ := bind_some h
    obtain ⟨y7, hy7, h⟩ := bind_some h
    refine Wp.text [1, 4, 5, 7] rfl rfl ?_ -- region 4
    refine TextR.loadN (cs := [I y5.1.Diner.ID, I y5.1.Diner.Phase, .slv (y5.1.Diner.Sides.map eSide), I y5.1.Thirst, .slv (y5.1.Need.map eI)]) tk29 rfl rfl ?_
    refine TextR.dcall rfl rfl (c_narthexlaw15_Own N y5.1 y6 hy6 _) ?_
    refine TextR.dcall rfl rfl (c_drink_Fire N y6 y7 hy7 _) ?_
    refine TextR.move rfl ?_
    refine TextR.extract rfl rfl ?_
    refine TextR.extract rfl rfl ?_
    refine TextR.extract rfl rfl ?_
    refine TextR.alloc 2 zc29 rfl rfl (.cons (.cons .nil)) ?_
    refine TextR.store1 tk29 rfl rfl rfl rfl rfl rfl (.succ (.succ .zero)) ?_
    refine TextR.assign rfl ?_
    refine TextR.assign rfl ?_
    refine TextR.done (.cons rfl (.cons rfl (.cons rfl (.cons rfl .nil)))) ?_
    refine Wp.seq ?_
    obtain ⟨y8, hy8, h⟩ := bind_some h
    obtain ⟨y9, hy9, h⟩ := bind_some h
    refine Wp.text [1, 4, 5, 7, 8, 9] rfl rfl ?_ -- region 5
    refine TextR.loadN (cs := [I a0.Diner.ID, I a0.Diner.Phase, .slv (a0.Diner.Sides.map eSide), I a0.Thirst, .slv (a0.Need.map eI)]) tk29 rfl rfl ?_
    refine TextR.dcall rfl rfl (c_narthexlaw15_Own N a0 y8 hy8 _) ?_
    refine TextR.dcall rfl rfl (c_drink_Close N y8 y9 hy9 _) ?_
    refine TextR.move rfl ?_
    refine TextR.extract rfl rfl ?_
    refine TextR.extract rfl rfl ?_
    refine TextR.alloc 3 zc29 rfl rfl (.cons (.cons (.cons .nil))) ?_
    refine TextR.store1 tk29 rfl rfl rfl rfl rfl rfl (.succ (.succ (.succ .zero))) ?_
    refine TextR.assign rfl ?_
    refine TextR.done (.cons rfl (.cons rfl (.cons rfl (.cons rfl (.cons rfl (.cons rfl .nil)))))) ?_
    refine Wp.seq ?_
    refine Wp.seq ?_
    refine Wp.go false none [[], [], [], [(39, true)], [(39, true)], [(39, true)], [(42, false), (39, true)], [(42, false), (39, true)], [(42, false), (39, true)], [(39, true)], [(39, true)], [(47, false), (39, true)], [(47, false), (39, true)], [(47, false), (39, true)], [(47, false), (39, true)], [(39, true)], []] [] [1, 8, 9, 53] mixed rfl rfl (by kernel_rfl) ?_ -- region 6
    refine RunR.move rfl rfl rfl ?_
    refine RunR.int rfl rfl rfl rfl rfl ?_
    refine RunR.move rfl rfl rfl ?_
    refine RunR.move rfl rfl rfl ?_
    refine RunR.int rfl rfl rfl rfl rfl ?_
    refine RunR.move rfl rfl rfl ?_
    refine RunR.fieldAddr fo29_1 rfl rfl rfl rfl rfl ?_
    refine RunR.load1 tk26 rfl rfl rfl rfl ?_
    refine RunR.int rfl rfl rfl rfl rfl ?_
    refine RunR.pickOr rfl rfl rfl rfl ?_
    refine RunR.move rfl rfl rfl ?_
    refine RunR.fieldAddr fo29_2 rfl rfl rfl rfl rfl ?_
    refine RunR.load1 tk27 rfl rfl rfl rfl ?_
    refine RunR.lenM us27 rfl rfl rfl rfl ?_
    refine RunR.int rfl rfl rfl rfl rfl ?_
    refine RunR.pickOr rfl rfl rfl rfl ?_
    refine RunR.pickAnd rfl rfl rfl rfl ?_
    refine RunR.doneQ (.cons rfl (.cons rfl (.cons rfl (.cons rfl .nil)))) ?_
    refine Wp.condM h rfl (fun hc2 h => ?_) (fun hc2 h => ?_)
    · refine Wp.seq ?_
      refine Wp.text [2] rfl rfl ?_ -- region 7
      refine TextR.assign rfl ?_
      refine TextR.done (.cons rfl .nil) ?_
      refine Wp.ret ?_
      obtain rfl := Option.some.inj h
      exact Ret.one rfl (resV_tmp rfl) rfl
    · refine Wp.skip ?_
      refine Wp.seq ?_
      refine Wp.go false none [[], [], [], [(56, false)], [(56, false)], [(56, false)], [(56, false)], [(60, true), (56, false)], [(60, true), (56, false)], [(60, true), (56, false)], [(60, true), (56, false)], [(56, false)], [(56, false)], [(66, true), (56, false)], [(66, true), (56, false)], [(66, true), (56, false)], [(56, false)], [], []] [] [2] mixed rfl rfl (by kernel_rfl) ?_ -- region 8
      refine RunR.move rfl rfl rfl ?_
      refine RunR.int rfl rfl rfl rfl rfl ?_
      refine RunR.move rfl rfl rfl ?_
      refine RunR.fieldAddr fo29_1 rfl rfl rfl rfl rfl ?_
      refine RunR.load1 tk26 rfl rfl rfl rfl ?_
      refine RunR.int rfl rfl rfl rfl rfl ?_
      refine RunR.move rfl rfl rfl ?_
      refine RunR.fieldAddr fo29_2 rfl rfl rfl rfl rfl ?_
      refine RunR.load1 tk27 rfl rfl rfl rfl ?_
      refine RunR.lenM us27 rfl rfl rfl rfl ?_
      refine RunR.int rfl rfl rfl rfl rfl ?_
      refine RunR.pickAnd rfl rfl rfl rfl ?_
      refine RunR.move rfl rfl rfl ?_
      refine RunR.fieldAddr fo29_1 rfl rfl rfl rfl rfl ?_
      refine RunR.load1 tk26 rfl rfl rfl rfl ?_
      refine RunR.int rfl rfl rfl rfl rfl ?_
      refine RunR.pickAnd rfl rfl rfl rfl ?_
      refine RunR.pickOr rfl rfl rfl rfl ?_
      refine RunR.assign rfl rfl rfl ?_
      refine RunR.doneQ (.cons rfl .nil) ?_
      refine Wp.ret ?_
      obtain rfl := Option.some.inj h
      exact Ret.one rfl (resV_tmp rfl) rfl
end Go.Proofs.Ytcdjfellhgdgoaa
