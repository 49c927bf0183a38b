/- The functions do what their models say. -/
import Derived.Test.YtcdjfellhgdgoaaWka
namespace Go.Proofs.Ytcdjfellhgdgoaa
open Go Go.Nx
set_option linter.unusedVariables false
set_option linter.unusedSimpArgs false
set_option linter.unnecessarySimpa false
set_option maxRecDepth 8000
attribute [local simp] putSeg List.map_take List.map_drop rvL rvK bwL hfVs hfV hfL hfAll hfRows mvV mvL mv0 sh0 mvO mpE mpV mpVs mpO fzL rnL rn0 ok0 nzI nzB nzN nzF nzP nzO nzQ nzC shL shV shO okV okL okO List.take_of_length_le h_Side hm_Side ok_eSide okR_eSide fx_eSide fxR_eSide h_I hm_I ok_eI okR_eI fx_eI fxR_eI h_Diner hm_Diner ok_eDiner okR_eDiner fx_eDiner fxR_eDiner h_Drinker hm_Drinker ok_eDrinker okR_eDrinker fx_eDrinker fxR_eDrinker h_Mail hm_Mail ok_eMail okR_eMail fx_eMail fxR_eMail h_Msg hm_Msg ok_eMsg okR_eMsg fx_eMsg fxR_eMsg
-- slices.IndexFunc[[]narthex/api.Side,narthex/api.Side]
theorem w_slices_IndexFunc_Side_6 (N : Nat) (a0 : List TSide) (c0_0 : Int) (c0_1 : Int) (c0_2 : List TSide) (c1_0 : Int) (c2_0 : Int) (c2_1 : Int) (c2_2 : Int) (c3_0 : Int) (c3_1 : Int) (r : Int) (h : slices_IndexFunc_Side_6 N a0 c0_0 c0_1 c0_2 c1_0 c2_0 c2_1 c2_2 c3_0 c3_1 = some r) : Nx.Call Try.prog 44 [.c (.slv (a0.map eSide)), .c (.clo 63 [.ptr 1 0 0 0, .ptr 2 0 0 0])] [.live 0 3 [[I c0_0, I c0_1, .slv (c0_2.map eSide)]], .live 0 1 [[I c1_0]], .live 0 3 [[I c2_0, I c2_1, I c2_2]], .live 0 3 [[I c3_0, I c3_1, nilS]]] fun r' H' => r' = .c (I r) ∧ ∃ junk, H' = [.live 0 3 [[I c0_0, I c0_1, .slv (c0_2.map eSide)]], .live 0 1 [[I c1_0]], .live 0 3 [[I c2_0, I c2_1, I c2_2]], .live 0 3 [[I c3_0, I c3_1, nilS]]] ++ junk := by
  refine Nx.Call.of_body Try.func44 rfl en44 Try.ntmps44 rfl (fun Γ hok => ?_)
  unfold slices_IndexFunc_Side_6 at h
  refine Wp.seq ?_
  refine Wp.text [0, 1] rfl rfl ?_ -- region 0
  refine TextR.assign rfl ?_
  refine TextR.done (.cons rfl (.cons rfl .nil)) ?_
  refine Wp.seq ?_
  refine Wp.seq ?_
  refine Wp.text [0, 1, 7, 8] rfl rfl ?_ -- region 1
  refine TextR.move rfl ?_
  refine TextR.lenM us23 rfl rfl ?_
  refine TextR.move rfl ?_
  refine TextR.done (.cons rfl (.cons rfl (.cons rfl (.cons rfl .nil)))) ?_
  obtain ⟨z1, hz1, h⟩ := bind_some h
  refine Wp.fragR (fun S => ∃ z3, z1 = .inr z3 ∧ ∃ S', St.Weak ⟨Try.prog, 19, Γ⟩ S S' ∧ S' = ⟨[], [.live 0 3 [[I c0_0, I c0_1, .slv (c0_2.map eSide)]], .live 0 1 [[I c1_0]], .live 0 3 [[I c2_0, I c2_1, I c2_2]], .live 0 3 [[I c3_0, I c3_1, nilS]]]⟩) (fun S => ∃ v, z1 = .inl v ∧ Ret Try.prog Try.f44 (fun r' H' => r' = .c (I v) ∧ ∃ junk, H' = [.live 0 3 [[I c0_0, I c0_1, .slv (c0_2.map eSide)]], .live 0 1 [[I c1_0]], .live 0 3 [[I c2_0, I c2_1, I c2_2]], .live 0 3 [[I c3_0, I c3_1, nilS]]] ++ junk) .ret S) ?_ ?_ ?_
  · replace h := hz1
    refine Wp.block ?_
    refine Wp.weak (keepW (live := [0, 1, 7, 8]) (.cons rfl (.cons rfl (.cons rfl (.cons rfl .nil))))) ?_
    refine Wp.loop (fun m S => ∃ s8_1, slices_IndexFunc_Side_6_L1 N a0 c0_0 c0_1 c0_2 c1_0 c2_0 c2_1 c2_2 c3_0 c3_1 m s8_1 = some z1 ∧ S = ⟨[(0, .c (.slv (a0.map eSide))), (1, .c (.clo 63 [.ptr 1 0 0 0, .ptr 2 0 0 0])), (7, .c (I (a0.length : Int))), (8, .c (I s8_1))], [.live 0 3 [[I c0_0, I c0_1, .slv (c0_2.map eSide)]], .live 0 1 [[I c1_0]], .live 0 3 [[I c2_0, I c2_1, I c2_2]], .live 0 3 [[I c3_0, I c3_1, nilS]]]⟩) N ⟨_, h, rfl⟩ ?_
    rintro m1 _ ⟨s8_1, h, rfl⟩
    cases m1 with
    | zero => rw [slices_IndexFunc_Side_6_L1.eq_1] at h; cases h
    | succ m1 =>
    rw [slices_IndexFunc_Side_6_L1.eq_2] at h
    refine Wp.seq ?_
    refine Wp.text [0, 1, 7, 8, 9] rfl rfl ?_ -- region 2
    refine TextR.int rfl rfl rfl ?_
    refine TextR.done (.cons rfl (.cons rfl (.cons rfl (.cons rfl (.cons rfl .nil))))) ?_
    refine Wp.seq ?_
    refine Wp.condM h rfl (fun hc2 h => ?_) (fun hc2 h => ?_)
    · refine Wp.skip ?_
      refine Wp.seq ?_
      refine Wp.block ?_
      refine Wp.seq ?_
      refine Wp.text [0, 1, 5, 7, 8] rfl rfl ?_ -- region 3
      refine TextR.move rfl ?_
      refine TextR.assign rfl ?_
      refine TextR.done (.cons rfl (.cons rfl (.cons rfl (.cons rfl (.cons rfl .nil))))) ?_
      refine Wp.seq ?_
      obtain ⟨x4, hx4, h⟩ := bind_some h
      obtain ⟨y5, hy5, h⟩ := bind_some h
      refine Wp.text [0, 1, 5, 7, 8, 16] rfl rfl ?_ -- region 4
      refine TextR.move rfl ?_
      refine TextR.move rfl ?_
      refine TextR.move rfl ?_
      refine TextR.indexA se23 rfl rfl rfl hx4 rfl ?_
      refine TextR.loadNM tk53 rfl (at_get hx4) rfl ?_
      refine TextR.dcall rfl rfl (c_dine_Get_1 N x4 c0_0 c0_1 c0_2 c1_0 c2_0 c2_1 c2_2 c3_0 c3_1 y5 hy5) ?_
      refine TextR.done (.cons rfl (.cons rfl (.cons rfl (.cons rfl (.cons rfl (.cons rfl .nil)))))) ?_
      refine Wp.condM h rfl (fun hc3 h => ?_) (fun hc3 h => ?_)
      · refine Wp.seq ?_
        refine Wp.text [4] rfl rfl ?_ -- region 5
        refine TextR.move rfl ?_
        refine TextR.assign rfl ?_
        refine TextR.done (.cons rfl .nil) ?_
        refine Wp.ret ?_
        exact ⟨_, (Option.some.inj h).symm, Ret.one rfl (resV_tmp rfl) ⟨rfl, _, rfl⟩⟩
      · refine Wp.skip ?_
        refine Wp.text [0, 1, 7, 8] rfl rfl ?_ -- region 6
        refine TextR.int rfl rfl rfl ?_
        refine TextR.move rfl ?_
        refine TextR.done (.cons rfl (.cons rfl (.cons rfl (.cons rfl .nil)))) ?_
        exact ⟨m1, Nat.lt_succ_self _, _, (keepW (live := [0, 1, 7, 8]) (.cons rfl (.cons rfl (.cons rfl (.cons rfl .nil))))), _, h, rfl⟩
    · refine Wp.exit ?_
      exact ⟨_, (Option.some.inj h).symm, _, (keepW (live := []) .nil), rfl⟩
  · rintro _ ⟨z3, rfl, _, hw, rfl⟩
    dsimp only at h
    clear hz1
    refine Wp.weak hw ?_
    refine Wp.seq ?_
    refine Wp.text [4] rfl rfl ?_ -- region 7
    refine TextR.assign rfl ?_
    refine TextR.done (.cons rfl .nil) ?_
    refine Wp.ret ?_
    obtain rfl := Option.some.inj h
    exact Ret.one rfl (resV_tmp rfl) ⟨rfl, _, rfl⟩
  · rintro S' ⟨r2, rfl, hR⟩
    dsimp only at h
    obtain rfl := Option.some.inj h
    exact hR
theorem c_slices_IndexFunc_Side_6 (N : Nat) (a0 : List TSide) (c0_0 : Int) (c0_1 : Int) (c0_2 : List TSide) (c1_0 : Int) (c2_0 : Int) (c2_1 : Int) (c2_2 : Int) (c3_0 : Int) (c3_1 : Int) (r : Int) (h : slices_IndexFunc_Side_6 N a0 c0_0 c0_1 c0_2 c1_0 c2_0 c2_1 c2_2 c3_0 c3_1 = some r) : DCall Try.prog 44 [.c (.slv (a0.map eSide)), .c (.clo 63 [.ptr 1 0 0 0, .ptr 2 0 0 0])] [.live 0 3 [[I c0_0, I c0_1, .slv (c0_2.map eSide)]], .live 0 1 [[I c1_0]], .live 0 3 [[I c2_0, I c2_1, I c2_2]], .live 0 3 [[I c3_0, I c3_1, nilS]]] (.c (I r)) := Call.trim (by simp) (by first | rfl | simp [-List.map_set]) (by first | rfl | simp [-List.map_set]) (w_slices_IndexFunc_Side_6 N a0 c0_0 c0_1 c0_2 c1_0 c2_0 c2_1 c2_2 c3_0 c3_1 r h)
-- narthex/dine.Get
theorem w_dine_Get (N : Nat) (a0 : TDiner) (a1 : Int) (a2 : TMsg) (r : TDiner × Int) (h : dine_Get N a0 a1 a2 = some r) : Nx.Call Try.prog 46 [.agg (eDiner a0), .c (I a1), .agg (eMsg a2)] [] fun r' _ => r' = .tup [.agg (eDiner r.1), .c (I r.2)] := by
  refine Nx.Call.of_body Try.func46 rfl en46 Try.ntmps46 rfl (fun Γ hok => ?_)
  unfold dine_Get at h
  refine Wp.seq ?_
  refine Wp.text [3, 4, 5, 6] rfl rfl ?_ -- region 0
  refine TextR.box (cs := [I a0.ID, I a0.Phase, .slv (a0.Sides.map eSide)]) 0 rfl rfl rfl rfl .nil ?_
  refine TextR.box (cs := [I a1]) 1 rfl rfl rfl rfl (.cons .nil) ?_
  refine TextR.box (cs := [I a2.Kind, I a2.Epoch, I a2.Num]) 2 rfl rfl rfl rfl (.cons (.cons .nil)) ?_
  refine TextR.alloc 3 zc25 rfl rfl (.cons (.cons (.cons .nil))) ?_
  refine TextR.assign rfl ?_
  refine TextR.done (.cons rfl (.cons rfl (.cons rfl (.cons rfl .nil)))) ?_
  refine Wp.seq ?_
  refine Wp.seq ?_
  obtain ⟨y1, hy1, h⟩ := bind_some h
  refine Wp.text [3, 4, 5, 6, 8] rfl rfl ?_ -- region 1
  refine TextR.loadN (cs := [I a0.ID, I a0.Phase, .slv (a0.Sides.map eSide)]) tk25 rfl rfl ?_
  refine TextR.dcall rfl rfl (c_dine_Check N a0 y1 hy1 _) ?_
  refine TextR.assign rfl ?_
  refine TextR.done (.cons rfl (.cons rfl (.cons rfl (.cons rfl (.cons rfl .nil))))) ?_
  refine Wp.seq ?_
  refine Wp.text [3, 4, 5, 6, 8, 15] rfl rfl ?_ -- region 2
  refine TextR.move rfl ?_
  refine TextR.int rfl rfl rfl ?_
  refine TextR.done (.cons rfl (.cons rfl (.cons rfl (.cons rfl (.cons rfl (.cons rfl .nil)))))) ?_
  refine Wp.condM h rfl (fun hc1 h => ?_) (fun hc1 h => ?_)
  · refine Wp.seq ?_
    refine Wp.text [6, 7] rfl rfl ?_ -- region 3
    refine TextR.build cm25 rfl ?_
    refine TextR.move rfl ?_
    refine TextR.store1 tk25 rfl rfl rfl rfl rfl rfl (.succ (.succ (.succ .zero))) ?_
    refine TextR.assign rfl ?_
    refine TextR.done (.cons rfl (.cons rfl .nil)) ?_
    refine Wp.weak (keepW (live := [6, 7] ) (.cons rfl (.cons rfl .nil))) ?_
    refine Wp.weak (nzT (e' := [(6, .c (.ptr 3 0 0 0)), (7, .c (I y1))]) (H' := [.live 0 3 [[I a0.ID, I a0.Phase, .slv (a0.Sides.map eSide)]], .live 0 1 [[I a1]], .live 0 3 [[I a2.Kind, I a2.Epoch, I a2.Num]], .live 0 3 [[I 0, I 0, .slv ([].map eSide)]]]) (by first | rfl | simp [-List.map_set]) (by first | rfl | simp [-List.map_set])) ?_
    refine Wp.ret ?_
    obtain rfl := Option.some.inj h
    exact Ret.two rfl (resV_cellN tk25 rfl rfl) (resV_tmp rfl) rfl
  · refine Wp.skip ?_
    refine Wp.seq ?_
    obtain ⟨y2, hy2, h⟩ := bind_some h
    refine Wp.text [3, 5, 6, 9] rfl rfl ?_ -- region 4
    refine TextR.fieldAddr fo25_2 rfl rfl rfl ?_
    refine TextR.load1 tk23 rfl rfl ?_
    refine TextR.makeFunc rfl ?_
    refine TextR.dcall rfl rfl (c_slices_IndexFunc_Side_6 N a0.Sides a0.ID a0.Phase a0.Sides a1 a2.Kind a2.Epoch a2.Num 0 0 y2 hy2) ?_
    refine TextR.assign rfl ?_
    refine TextR.done (.cons rfl (.cons rfl (.cons rfl (.cons rfl .nil)))) ?_
    refine Wp.seq ?_
    refine Wp.seq ?_
    refine Wp.text [3, 5, 6, 9, 23] rfl rfl ?_ -- region 5
    refine TextR.move rfl ?_
    refine TextR.int rfl rfl rfl ?_
    refine TextR.done (.cons rfl (.cons rfl (.cons rfl (.cons rfl (.cons rfl .nil))))) ?_
    refine Wp.condM h rfl (fun hc2 h => ?_) (fun hc2 h => ?_)
    · refine Wp.seq ?_
      refine Wp.text [6, 7] rfl rfl ?_ -- region 6
      refine TextR.build cm25 rfl ?_
      refine TextR.store1 tk25 rfl rfl rfl rfl rfl rfl (.succ (.succ (.succ .zero))) ?_
      refine TextR.assign rfl ?_
      refine TextR.done (.cons rfl (.cons rfl .nil)) ?_
      refine Wp.weak (keepW (live := [6, 7] ) (.cons rfl (.cons rfl .nil))) ?_
      refine Wp.weak (nzT (e' := [(6, .c (.ptr 3 0 0 0)), (7, .c (I 131))]) (H' := [.live 0 3 [[I a0.ID, I a0.Phase, .slv (a0.Sides.map eSide)]], .live 0 1 [[I a1]], .live 0 3 [[I a2.Kind, I a2.Epoch, I a2.Num]], .live 0 3 [[I 0, I 0, .slv ([].map eSide)]]]) (by first | rfl | simp [-List.map_set]) (by first | rfl | simp [-List.map_set])) ?_
      refine Wp.ret ?_
      obtain rfl := Option.some.inj h
      exact Ret.two rfl (resV_cellN tk25 rfl rfl) (resV_tmp rfl) rfl
    · refine Wp.skip ?_
      refine Wp.seq ?_
      obtain ⟨y3, hy3, h⟩ := bind_some h
      refine Wp.text [3, 5, 6, 9] rfl rfl ?_ -- region 7
      refine TextR.fieldAddr fo25_2 rfl rfl rfl ?_
      refine TextR.load1 tk23 rfl rfl ?_
      refine TextR.call rfl rfl (by exact o_slices_Clone_Side N a0.Sides y3 hy3 4 rfl (.cons (.cons (.cons (.cons .nil))))) (fun x H' hk => ?_)
      obtain ⟨rfl, rfl⟩ := hk
      refine TextR.fieldAddr fo25_2 rfl rfl rfl ?_
      refine TextR.storeF (r' := [I a0.ID, I a0.Phase, .sl 4 1 0 y3.length]) tk23 rfl rfl rfl rfl rfl rfl rfl .zero ?_
      refine TextR.done (.cons rfl (.cons rfl (.cons rfl (.cons rfl .nil)))) ?_
      refine Wp.seq ?_
      obtain ⟨x4, hx4, h⟩ := bind_some h
      refine Wp.text [3, 5, 6, 10] rfl rfl ?_ -- region 8
      refine TextR.fieldAddr fo25_2 rfl rfl rfl ?_
      refine TextR.load1 tk23 rfl rfl ?_
      refine TextR.move rfl ?_
      refine TextR.indexOA se23 rfl rfl rfl hx4 ?_
      refine TextR.assign rfl ?_
      refine TextR.done (.cons rfl (.cons rfl (.cons rfl (.cons rfl .nil)))) ?_
      refine Wp.seq ?_
      refine Wp.text [3, 5, 6, 10] rfl rfl ?_ -- region 9
      refine TextR.assign rfl ?_
      refine TextR.done (.cons rfl (.cons rfl (.cons rfl (.cons rfl .nil)))) ?_
      refine Wp.seq ?_
      obtain ⟨z5, hz5, h⟩ := bind_some h
      refine Wp.fragR (fun S => ∃ z7, z5 = .inr z7 ∧ ∃ S', St.Weak ⟨Try.prog, 69, Γ⟩ S S' ∧ S' = ⟨[(3, .c (.ptr 0 0 0 0)), (6, .c (.ptr 2 0 0 0)), (11, .c (B z7.2))], [.live 0 3 [[I a0.ID, I a0.Phase, .sl 1 1 0 z7.1.length]], .live 1 8 (z7.1.map eSide), .live 0 3 [[I 0, I 0, nilS]]]⟩) (fun S => ∃ v, z5 = .inl v ∧ Ret Try.prog Try.f46 (fun r' _ => r' = .tup [.agg (eDiner v.1), .c (I v.2)]) .ret S) ?_ ?_ ?_
      · replace h := hz5
        refine Wp.block ?_
        refine Wp.seq ?_
        refine Wp.go false none [[], [], [], [], [(38, true)], [(38, true)], [(38, true)], [], []] [] [3, 5, 6, 10, 34] mixed rfl rfl (by kernel_rfl) ?_ -- region 11
        refine RunR.fieldAddr fo44_0 rfl rfl rfl rfl rfl ?_
        refine RunR.load1 tk42 rfl rfl rfl rfl ?_
        refine RunR.int rfl rfl rfl rfl rfl ?_
        refine RunR.move rfl rfl rfl ?_
        refine RunR.fieldAddr fo44_2 rfl rfl rfl rfl rfl ?_
        refine RunR.load1 tk3 rfl rfl rfl rfl ?_
        refine RunR.int rfl rfl rfl rfl rfl ?_
        refine RunR.pickAnd rfl rfl rfl rfl ?_
        refine RunR.assign rfl rfl rfl ?_
        refine RunR.doneQ (.cons rfl (.cons rfl (.cons rfl (.cons rfl (.cons rfl .nil))))) ?_
        refine Wp.condM h rfl (fun hc4 h => ?_) (fun hc4 h => ?_)
        · refine Wp.text [3, 6, 11] rfl rfl ?_ -- region 12
          refine TextR.move rfl ?_
          refine TextR.move rfl ?_
          refine TextR.nilCheck rfl rfl ?_
          refine TextR.fieldAddr fo53_3 rfl rfl rfl ?_
          refine TextR.load1O tk4 rfl rfl (at_get hx4) rfl ?_
          refine TextR.assign rfl ?_
          refine TextR.nilCheck rfl rfl ?_
          refine TextR.fieldAddr fo53_3 rfl rfl rfl ?_
          refine TextR.storeO { x4 with Fork := true } tk4 rfl rfl rfl rfl rfl (at_get hx4) rfl rfl (.succ (.succ (.succ (.succ .zero)))) ?_
          refine TextR.done (.cons rfl (.cons rfl (.cons rfl .nil))) ?_
          exact ⟨_, (Option.some.inj h).symm, _, (St.Weak.trans (eqW (S' := ⟨[(3, .c (.ptr 0 0 0 0)), (6, .c (.ptr 3 0 0 0)), (11, .c (B x4.Fork))], [.live 0 3 [[I a0.ID, I a0.Phase, .sl 4 1 0 (y3.set y2.toNat { x4 with Fork := true }).length]], .live 0 1 [[I a1]], .live 0 3 [[I a2.Kind, I a2.Epoch, I a2.Num]], .live 0 3 [[I 0, I 0, nilS]], .live 1 8 ((y3.set y2.toNat { x4 with Fork := true }).map eSide)]⟩) (by first | rfl | (simp only [List.length_set]; done) | (simp only [List.length_set]; rfl))) (St.Weak.trans (keepW (live := [3, 6, 11]) (.cons rfl (.cons rfl (.cons rfl .nil)))) (pickT (e' := [(3, .c (.ptr 0 0 0 0)), (6, .c (.ptr 2 0 0 0)), (11, .c (B x4.Fork))]) (H' := [.live 0 3 [[I a0.ID, I a0.Phase, .sl 1 1 0 (y3.set y2.toNat { x4 with Fork := true }).length]], .live 1 8 ((y3.set y2.toNat { x4 with Fork := true }).map eSide), .live 0 3 [[I 0, I 0, nilS]]]) [0, 4, 3] [0, 0, 0, 2, 1] 0 hok.len.symm rfl rfl (by decide) (by first | rfl | simp [-List.map_set]) (by first | rfl | simp [-List.map_set]) (by first | rfl | simp [-List.map_set]) (by first | rfl | simp [-List.map_set])))), rfl⟩
        · refine Wp.seq ?_
          refine Wp.go false none [[], [], [], [], [(54, true)], [(54, true)], [(54, true)], [], []] [] [3, 6, 10, 50] mixed rfl rfl (by kernel_rfl) ?_ -- region 13
          refine RunR.fieldAddr fo44_0 rfl rfl rfl rfl rfl ?_
          refine RunR.load1 tk42 rfl rfl rfl rfl ?_
          refine RunR.int rfl rfl rfl rfl rfl ?_
          refine RunR.move rfl rfl rfl ?_
          refine RunR.fieldAddr fo44_2 rfl rfl rfl rfl rfl ?_
          refine RunR.load1 tk3 rfl rfl rfl rfl ?_
          refine RunR.int rfl rfl rfl rfl rfl ?_
          refine RunR.pickAnd rfl rfl rfl rfl ?_
          refine RunR.assign rfl rfl rfl ?_
          refine RunR.doneQ (.cons rfl (.cons rfl (.cons rfl (.cons rfl .nil)))) ?_
          refine Wp.condM h rfl (fun hc5 h => ?_) (fun hc5 h => ?_)
          · refine Wp.text [3, 6, 11] rfl rfl ?_ -- region 14
            refine TextR.move rfl ?_
            refine TextR.move rfl ?_
            refine TextR.nilCheck rfl rfl ?_
            refine TextR.fieldAddr fo53_5 rfl rfl rfl ?_
            refine TextR.load1O tk4 rfl rfl (at_get hx4) rfl ?_
            refine TextR.assign rfl ?_
            refine TextR.nilCheck rfl rfl ?_
            refine TextR.fieldAddr fo53_5 rfl rfl rfl ?_
            refine TextR.storeO { x4 with Token := true } tk4 rfl rfl rfl rfl rfl (at_get hx4) rfl rfl (.succ (.succ (.succ (.succ .zero)))) ?_
            refine TextR.done (.cons rfl (.cons rfl (.cons rfl .nil))) ?_
            exact ⟨_, (Option.some.inj h).symm, _, (St.Weak.trans (eqW (S' := ⟨[(3, .c (.ptr 0 0 0 0)), (6, .c (.ptr 3 0 0 0)), (11, .c (B x4.Token))], [.live 0 3 [[I a0.ID, I a0.Phase, .sl 4 1 0 (y3.set y2.toNat { x4 with Token := true }).length]], .live 0 1 [[I a1]], .live 0 3 [[I a2.Kind, I a2.Epoch, I a2.Num]], .live 0 3 [[I 0, I 0, nilS]], .live 1 8 ((y3.set y2.toNat { x4 with Token := true }).map eSide)]⟩) (by first | rfl | (simp only [List.length_set]; done) | (simp only [List.length_set]; rfl))) (St.Weak.trans (keepW (live := [3, 6, 11]) (.cons rfl (.cons rfl (.cons rfl .nil)))) (pickT (e' := [(3, .c (.ptr 0 0 0 0)), (6, .c (.ptr 2 0 0 0)), (11, .c (B x4.Token))]) (H' := [.live 0 3 [[I a0.ID, I a0.Phase, .sl 1 1 0 (y3.set y2.toNat { x4 with Token := true }).length]], .live 1 8 ((y3.set y2.toNat { x4 with Token := true }).map eSide), .live 0 3 [[I 0, I 0, nilS]]]) [0, 4, 3] [0, 0, 0, 2, 1] 0 hok.len.symm rfl rfl (by decide) (by first | rfl | simp [-List.map_set]) (by first | rfl | simp [-List.map_set]) (by first | rfl | simp [-List.map_set]) (by first | rfl | simp [-List.map_set])))), rfl⟩
          · refine Wp.seq ?_
            refine Wp.text [6, 7] rfl rfl ?_ -- region 10
            refine TextR.build cm25 rfl ?_
            refine TextR.store1 tk25 rfl rfl rfl rfl rfl rfl (.succ (.succ (.succ .zero))) ?_
            refine TextR.assign rfl ?_
            refine TextR.done (.cons rfl (.cons rfl .nil)) ?_
            refine Wp.weak (keepW (live := [6, 7] ) (.cons rfl (.cons rfl .nil))) ?_
            refine Wp.weak (nzT (e' := [(6, .c (.ptr 3 0 0 0)), (7, .c (I 133))]) (H' := [.live 0 3 [[I a0.ID, I a0.Phase, .sl 4 1 0 y3.length]], .live 0 1 [[I a1]], .live 0 3 [[I a2.Kind, I a2.Epoch, I a2.Num]], .live 0 3 [[I 0, I 0, .slv ([].map eSide)]], .live 1 8 (y3.map eSide)]) (by first | rfl | simp [-List.map_set]) (by first | rfl | simp [-List.map_set])) ?_
            refine Wp.ret ?_
            exact ⟨_, (Option.some.inj h).symm, Ret.two rfl (resV_cellN tk25 rfl rfl) (resV_tmp rfl) rfl⟩
      · rintro _ ⟨z7, rfl, _, hw, rfl⟩
        dsimp only at h
        clear hz5
        refine Wp.weak hw ?_
        refine Wp.seq ?_
        refine Wp.seq ?_
        refine Wp.text [3, 6, 66] rfl rfl ?_ -- region 15
        refine TextR.move rfl ?_
        refine TextR.done (.cons rfl (.cons rfl (.cons rfl .nil))) ?_
        refine Wp.condM h rfl (fun hc4 h => ?_) (fun hc4 h => ?_)
        · refine Wp.seq ?_
          refine Wp.text [6, 7] rfl rfl ?_ -- region 16
          refine TextR.build cm25 rfl ?_
          refine TextR.store1 tk25 rfl rfl rfl rfl rfl rfl (.succ (.succ .zero)) ?_
          refine TextR.assign rfl ?_
          refine TextR.done (.cons rfl (.cons rfl .nil)) ?_
          refine Wp.weak (keepW (live := [6, 7] ) (.cons rfl (.cons rfl .nil))) ?_
          refine Wp.weak (nzT (e' := [(6, .c (.ptr 2 0 0 0)), (7, .c (I 132))]) (H' := [.live 0 3 [[I a0.ID, I a0.Phase, .sl 1 1 0 z7.1.length]], .live 1 8 (z7.1.map eSide), .live 0 3 [[I 0, I 0, .slv ([].map eSide)]]]) (by first | rfl | simp [-List.map_set]) (by first | rfl | simp [-List.map_set])) ?_
          refine Wp.ret ?_
          obtain rfl := Option.some.inj h
          exact Ret.two rfl (resV_cellN tk25 rfl rfl) (resV_tmp rfl) rfl
        · refine Wp.skip ?_
          refine Wp.seq ?_
          refine Wp.text [6, 7] rfl rfl ?_ -- region 17
          refine TextR.loadN (cs := [I a0.ID, I a0.Phase, .sl 1 1 0 z7.1.length]) tk25 rfl rfl ?_
          refine TextR.store1 tk25 rfl rfl rfl rfl rfl rfl (.succ (.succ .zero)) ?_
          refine TextR.assign rfl ?_
          refine TextR.done (.cons rfl (.cons rfl .nil)) ?_
          refine Wp.weak (keepW (live := [6, 7] ) (.cons rfl (.cons rfl .nil))) ?_
          refine Wp.weak (freezeW (h := 1) (ver := 1) (rows := z7.1.map eSide) (e' := [(6, .c (.ptr 2 0 0 0)), (7, .c (I 0))]) (H' := [.live 0 3 [[I a0.ID, I a0.Phase, .slv (z7.1.map eSide)]], .dead, .live 0 3 [[I a0.ID, I a0.Phase, .slv (z7.1.map eSide)]]]) rfl (by first | rfl | simp [-List.map_set]) (by first | rfl | simp [-List.map_set])) ?_
          refine Wp.ret ?_
          obtain rfl := Option.some.inj h
          exact Ret.two rfl (resV_cellN tk25 rfl rfl) (resV_tmp rfl) rfl
      · rintro S' ⟨r6, rfl, hR⟩
        dsimp only at h
        obtain rfl := Option.some.inj h
        exact hR
theorem c_dine_Get (N : Nat) (a0 : TDiner) (a1 : Int) (a2 : TMsg) (r : TDiner × Int) (h : dine_Get N a0 a1 a2 = some r) (H : List Ob) : DCall Try.prog 46 [.agg (eDiner a0), .c (I a1), .agg (eMsg a2)] H (.tup [.agg (eDiner r.1), .c (I r.2)]) := DCall.lift (by first | rfl | simp [-List.map_set]) (by first | rfl | simp [-List.map_set]) (fun _ => by simp [-List.map_set]) (w_dine_Get N a0 a1 a2 r h) H
-- narthex/drink.Get$1
theorem w_drink_Get_1_2 (N : Nat) (a0 : TSide) (c0_0 : Int) (c0_1 : Int) (c0_3 : Int) (c0_4 : List Int) (c1_0 : Int) (c2_0 : Int) (c2_1 : Int) (c2_2 : Int) (c3_0 : Int) (c3_1 : Int) (c3_3 : Int) (l4 : List TSide) {w4 : Nat} (r : Bool) (h : drink_Get_1_2 N a0 c0_0 c0_1 c0_3 c0_4 c1_0 c2_0 c2_1 c2_2 c3_0 c3_1 c3_3 l4 = some r) : Nx.Call Try.prog 45 [.agg (eSide a0), .c (.ptr 1 0 0 0), .c (.ptr 2 0 0 0)] [.live 0 5 [[I c0_0, I c0_1, .sl 4 w4 0 l4.length, I c0_3, .slv (c0_4.map eI)]], .live 0 1 [[I c1_0]], .live 0 3 [[I c2_0, I c2_1, I c2_2]], .live 0 5 [[I c3_0, I c3_1, nilS, I c3_3, nilS]], .live w4 8 (l4.map eSide)] fun r' H' => r' = .c (B r) ∧ ∃ junk, H' = [.live 0 5 [[I c0_0, I c0_1, .sl 4 w4 0 l4.length, I c0_3, .slv (c0_4.map eI)]], .live 0 1 [[I c1_0]], .live 0 3 [[I c2_0, I c2_1, I c2_2]], .live 0 5 [[I c3_0, I c3_1, nilS, I c3_3, nilS]], .live w4 8 (l4.map eSide)] ++ junk := by
  refine Nx.Call.of_body Try.func45 rfl en45 Try.ntmps45 rfl (fun Γ hok => ?_)
  unfold drink_Get_1_2 at h
  refine Wp.seq ?_
  refine Wp.text [1, 2, 3] rfl rfl ?_ -- region 0
  refine TextR.box (cs := [I a0.Peer, I a0.Epoch, I a0.State, B a0.Fork, B a0.Dirty, B a0.Token, B a0.Bottle, B a0.Ask]) 5 rfl rfl rfl rfl (.cons (.cons (.cons (.cons (.cons .nil))))) ?_
  refine TextR.assign rfl ?_
  refine TextR.done (.cons rfl (.cons rfl (.cons rfl .nil))) ?_
  refine Wp.seq ?_
  refine Wp.go false none [[], [], [], [], [], [(9, true)], [(9, true)], [(9, true)], [(9, true)], [(9, true)], [], []] [] [4] mixed rfl rfl (by kernel_rfl) ?_ -- region 1
  refine RunR.fieldAddr fo53_0 rfl rfl rfl rfl rfl ?_
  refine RunR.load1 tk3 rfl rfl rfl rfl ?_
  refine RunR.load1 tk3 rfl rfl rfl rfl ?_
  refine RunR.int rfl rfl rfl rfl rfl ?_
  refine RunR.move rfl rfl rfl ?_
  refine RunR.fieldAddr fo53_1 rfl rfl rfl rfl rfl ?_
  refine RunR.load1 tk3 rfl rfl rfl rfl ?_
  refine RunR.fieldAddr fo44_1 rfl rfl rfl rfl rfl ?_
  refine RunR.load1 tk3 rfl rfl rfl rfl ?_
  refine RunR.int rfl rfl rfl rfl rfl ?_
  refine RunR.pickAnd rfl rfl rfl rfl ?_
  refine RunR.assign rfl rfl rfl ?_
  refine RunR.doneQ (.cons rfl .nil) ?_
  refine Wp.ret ?_
  obtain rfl := Option.some.inj h
  exact Ret.one rfl (resV_tmp rfl) ⟨rfl, _, rfl⟩
theorem c_drink_Get_1_2 (N : Nat) (a0 : TSide) (c0_0 : Int) (c0_1 : Int) (c0_3 : Int) (c0_4 : List Int) (c1_0 : Int) (c2_0 : Int) (c2_1 : Int) (c2_2 : Int) (c3_0 : Int) (c3_1 : Int) (c3_3 : Int) (l4 : List TSide) {w4 : Nat} (r : Bool) (h : drink_Get_1_2 N a0 c0_0 c0_1 c0_3 c0_4 c1_0 c2_0 c2_1 c2_2 c3_0 c3_1 c3_3 l4 = some r) : DCall Try.prog 45 [.agg (eSide a0), .c (.ptr 1 0 0 0), .c (.ptr 2 0 0 0)] [.live 0 5 [[I c0_0, I c0_1, .sl 4 w4 0 l4.length, I c0_3, .slv (c0_4.map eI)]], .live 0 1 [[I c1_0]], .live 0 3 [[I c2_0, I c2_1, I c2_2]], .live 0 5 [[I c3_0, I c3_1, nilS, I c3_3, nilS]], .live w4 8 (l4.map eSide)] (.c (B r)) := Call.trim (by simp) (by first | rfl | simp [-List.map_set]) (by first | rfl | simp [-List.map_set]) (w_drink_Get_1_2 N a0 c0_0 c0_1 c0_3 c0_4 c1_0 c2_0 c2_1 c2_2 c3_0 c3_1 c3_3 l4 r h)
-- slices.IndexFunc[[]narthex/api.Side,narthex/api.Side]
theorem w_slices_IndexFunc_Side_7 (N : Nat) (c0_0 : Int) (c0_1 : Int) (c0_3 : Int) (c0_4 : List Int) (c1_0 : Int) (c2_0 : Int) (c2_1 : Int) (c2_2 : Int) (c3_0 : Int) (c3_1 : Int) (c3_3 : Int) (l4 : List TSide) {w4 : Nat} (r : Int) (h : slices_IndexFunc_Side_7 N c0_0 c0_1 c0_3 c0_4 c1_0 c2_0 c2_1 c2_2 c3_0 c3_1 c3_3 l4 = some r) : Nx.Call Try.prog 44 [.c (.sl 4 w4 0 l4.length), .c (.clo 45 [.ptr 1 0 0 0, .ptr 2 0 0 0])] [.live 0 5 [[I c0_0, I c0_1, .sl 4 w4 0 l4.length, I c0_3, .slv (c0_4.map eI)]], .live 0 1 [[I c1_0]], .live 0 3 [[I c2_0, I c2_1, I c2_2]], .live 0 5 [[I c3_0, I c3_1, nilS, I c3_3, nilS]], .live w4 8 (l4.map eSide)] fun r' H' => r' = .c (I r) ∧ ∃ junk, H' = [.live 0 5 [[I c0_0, I c0_1, .sl 4 w4 0 l4.length, I c0_3, .slv (c0_4.map eI)]], .live 0 1 [[I c1_0]], .live 0 3 [[I c2_0, I c2_1, I c2_2]], .live 0 5 [[I c3_0, I c3_1, nilS, I c3_3, nilS]], .live w4 8 (l4.map eSide)] ++ junk := by
  refine Nx.Call.of_body Try.func44 rfl en44 Try.ntmps44 rfl (fun Γ hok => ?_)
  unfold slices_IndexFunc_Side_7 at h
  refine Wp.seq ?_
  refine Wp.text [0, 1] rfl rfl ?_ -- region 0
  refine TextR.assign rfl ?_
  refine TextR.done (.cons rfl (.cons rfl .nil)) ?_
  refine Wp.seq ?_
  refine Wp.seq ?_
  refine Wp.text [0, 1, 7, 8] rfl rfl ?_ -- region 1
  refine TextR.move rfl ?_
  refine TextR.len us23 rfl rfl ?_
  refine TextR.move rfl ?_
  refine TextR.done (.cons rfl (.cons rfl (.cons rfl (.cons rfl .nil)))) ?_
  obtain ⟨z1, hz1, h⟩ := bind_some h
  refine Wp.fragR (fun S => ∃ z3, z1 = .inr z3 ∧ ∃ S', St.Weak ⟨Try.prog, 19, Γ⟩ S S' ∧ S' = ⟨[], [.live 0 5 [[I c0_0, I c0_1, .sl 4 w4 0 l4.length, I c0_3, .slv (c0_4.map eI)]], .live 0 1 [[I c1_0]], .live 0 3 [[I c2_0, I c2_1, I c2_2]], .live 0 5 [[I c3_0, I c3_1, nilS, I c3_3, nilS]], .live w4 8 (l4.map eSide)]⟩) (fun S => ∃ v, z1 = .inl v ∧ Ret Try.prog Try.f44 (fun r' H' => r' = .c (I v) ∧ ∃ junk, H' = [.live 0 5 [[I c0_0, I c0_1, .sl 4 w4 0 l4.length, I c0_3, .slv (c0_4.map eI)]], .live 0 1 [[I c1_0]], .live 0 3 [[I c2_0, I c2_1, I c2_2]], .live 0 5 [[I c3_0, I c3_1, nilS, I c3_3, nilS]], .live w4 8 (l4.map eSide)] ++ junk) .ret S) ?_ ?_ ?_
  · replace h := hz1
    refine Wp.block ?_
    refine Wp.weak (keepW (live := [0, 1, 7, 8]) (.cons rfl (.cons rfl (.cons rfl (.cons rfl .nil))))) ?_
    refine Wp.loop (fun m S => ∃ s8_1, slices_IndexFunc_Side_7_L1 N c0_0 c0_1 c0_3 c0_4 c1_0 c2_0 c2_1 c2_2 c3_0 c3_1 c3_3 l4 m s8_1 = some z1 ∧ S = ⟨[(0, .c (.sl 4 w4 0 l4.length)), (1, .c (.clo 45 [.ptr 1 0 0 0, .ptr 2 0 0 0])), (7, .c (I (l4.length : Int))), (8, .c (I s8_1))], [.live 0 5 [[I c0_0, I c0_1, .sl 4 w4 0 l4.length, I c0_3, .slv (c0_4.map eI)]], .live 0 1 [[I c1_0]], .live 0 3 [[I c2_0, I c2_1, I c2_2]], .live 0 5 [[I c3_0, I c3_1, nilS, I c3_3, nilS]], .live w4 8 (l4.map eSide)]⟩) N ⟨_, h, rfl⟩ ?_
    rintro m1 _ ⟨s8_1, h, rfl⟩
    cases m1 with
    | zero => rw [slices_IndexFunc_Side_7_L1.eq_1] at h; cases h
    | succ m1 =>
    rw [slices_IndexFunc_Side_7_L1.eq_2] at h
    refine Wp.seq ?_
    refine Wp.text [0, 1, 7, 8, 9] rfl rfl ?_ -- region 2
    refine TextR.int rfl rfl rfl ?_
    refine TextR.done (.cons rfl (.cons rfl (.cons rfl (.cons rfl (.cons rfl .nil))))) ?_
    refine Wp.seq ?_
    refine Wp.condM h rfl (fun hc2 h => ?_) (fun hc2 h => ?_)
    · refine Wp.skip ?_
      refine Wp.seq ?_
      refine Wp.block ?_
      refine Wp.seq ?_
      refine Wp.text [0, 1, 5, 7, 8] rfl rfl ?_ -- region 3
      refine TextR.move rfl ?_
      refine TextR.assign rfl ?_
      refine TextR.done (.cons rfl (.cons rfl (.cons rfl (.cons rfl (.cons rfl .nil))))) ?_
      refine Wp.seq ?_
      obtain ⟨x4, hx4, h⟩ := bind_some h
      obtain ⟨y5, hy5, h⟩ := bind_some h
      refine Wp.text [0, 1, 5, 7, 8, 16] rfl rfl ?_ -- region 4
      refine TextR.move rfl ?_
      refine TextR.move rfl ?_
      refine TextR.move rfl ?_
      refine TextR.indexOA se23 rfl rfl (obj_of rfl) hx4 ?_
      refine TextR.loadNO tk53 rfl (obj_of rfl) (at_get hx4) rfl ?_
      refine TextR.dcall rfl rfl (c_drink_Get_1_2 N x4 c0_0 c0_1 c0_3 c0_4 c1_0 c2_0 c2_1 c2_2 c3_0 c3_1 c3_3 l4 y5 hy5) ?_
      refine TextR.done (.cons rfl (.cons rfl (.cons rfl (.cons rfl (.cons rfl (.cons rfl .nil)))))) ?_
      refine Wp.condM h rfl (fun hc3 h => ?_) (fun hc3 h => ?_)
      · refine Wp.seq ?_
        refine Wp.text [4] rfl rfl ?_ -- region 5
        refine TextR.move rfl ?_
        refine TextR.assign rfl ?_
        refine TextR.done (.cons rfl .nil) ?_
        refine Wp.ret ?_
        exact ⟨_, (Option.some.inj h).symm, Ret.one rfl (resV_tmp rfl) ⟨rfl, _, rfl⟩⟩
      · refine Wp.skip ?_
        refine Wp.text [0, 1, 7, 8] rfl rfl ?_ -- region 6
        refine TextR.int rfl rfl rfl ?_
        refine TextR.move rfl ?_
        refine TextR.done (.cons rfl (.cons rfl (.cons rfl (.cons rfl .nil)))) ?_
        exact ⟨m1, Nat.lt_succ_self _, _, (keepW (live := [0, 1, 7, 8]) (.cons rfl (.cons rfl (.cons rfl (.cons rfl .nil))))), _, h, rfl⟩
    · refine Wp.exit ?_
      exact ⟨_, (Option.some.inj h).symm, _, (keepW (live := []) .nil), rfl⟩
  · rintro _ ⟨z3, rfl, _, hw, rfl⟩
    dsimp only at h
    clear hz1
    refine Wp.weak hw ?_
    refine Wp.seq ?_
    refine Wp.text [4] rfl rfl ?_ -- region 7
    refine TextR.assign rfl ?_
    refine TextR.done (.cons rfl .nil) ?_
    refine Wp.ret ?_
    obtain rfl := Option.some.inj h
    exact Ret.one rfl (resV_tmp rfl) ⟨rfl, _, rfl⟩
  · rintro S' ⟨r2, rfl, hR⟩
    dsimp only at h
    obtain rfl := Option.some.inj h
    exact hR
theorem c_slices_IndexFunc_Side_7 (N : Nat) (c0_0 : Int) (c0_1 : Int) (c0_3 : Int) (c0_4 : List Int) (c1_0 : Int) (c2_0 : Int) (c2_1 : Int) (c2_2 : Int) (c3_0 : Int) (c3_1 : Int) (c3_3 : Int) (l4 : List TSide) {w4 : Nat} (r : Int) (h : slices_IndexFunc_Side_7 N c0_0 c0_1 c0_3 c0_4 c1_0 c2_0 c2_1 c2_2 c3_0 c3_1 c3_3 l4 = some r) : DCall Try.prog 44 [.c (.sl 4 w4 0 l4.length), .c (.clo 45 [.ptr 1 0 0 0, .ptr 2 0 0 0])] [.live 0 5 [[I c0_0, I c0_1, .sl 4 w4 0 l4.length, I c0_3, .slv (c0_4.map eI)]], .live 0 1 [[I c1_0]], .live 0 3 [[I c2_0, I c2_1, I c2_2]], .live 0 5 [[I c3_0, I c3_1, nilS, I c3_3, nilS]], .live w4 8 (l4.map eSide)] (.c (I r)) := Call.trim (by simp) (by first | rfl | simp [-List.map_set]) (by first | rfl | simp [-List.map_set]) (w_slices_IndexFunc_Side_7 N c0_0 c0_1 c0_3 c0_4 c1_0 c2_0 c2_1 c2_2 c3_0 c3_1 c3_3 l4 r h)
-- narthex/drink.Get
theorem w_drink_Get (N : Nat) (a0 : TDrinker) (a1 : Int) (a2 : TMsg) (r : TDrinker × Int) (h : drink_Get N a0 a1 a2 = some r) : Nx.Call Try.prog 20 [.agg (eDrinker a0), .c (I a1), .agg (eMsg a2)] [] fun r' _ => r' = .tup [.agg (eDrinker r.1), .c (I r.2)] := by
  refine Nx.Call.of_body Try.func20 rfl en20 Try.ntmps20 rfl (fun Γ hok => ?_)
  unfold drink_Get at h
  refine Wp.seq ?_
  refine Wp.text [3, 4, 5, 6] rfl rfl ?_ -- region 0
  refine TextR.box (cs := [I a0.Diner.ID, I a0.Diner.Phase, .slv (a0.Diner.Sides.map eSide), I a0.Thirst, .slv (a0.Need.map eI)]) 0 rfl rfl rfl rfl .nil ?_
  refine TextR.box (cs := [I a1]) 1 rfl rfl rfl rfl (.cons .nil) ?_
  refine TextR.box (cs := [I a2.Kind, I a2.Epoch, I a2.Num]) 2 rfl rfl rfl rfl (.cons (.cons .nil)) ?_
  refine TextR.alloc 3 zc29 rfl rfl (.cons (.cons (.cons .nil))) ?_
  refine TextR.assign rfl ?_
  refine TextR.done (.cons rfl (.cons rfl (.cons rfl (.cons rfl .nil)))) ?_
  refine Wp.seq ?_
  refine Wp.seq ?_
  obtain ⟨y1, hy1, h⟩ := bind_some h
  refine Wp.text [3, 4, 5, 6, 8] rfl rfl ?_ -- region 1
  refine TextR.loadN (cs := [I a0.Diner.ID, I a0.Diner.Phase, .slv (a0.Diner.Sides.map eSide), I a0.Thirst, .slv (a0.Need.map eI)]) tk29 rfl rfl ?_
  refine TextR.dcall rfl rfl (c_drink_Check N a0 y1 hy1 _) ?_
  refine TextR.assign rfl ?_
  refine TextR.done (.cons rfl (.cons rfl (.cons rfl (.cons rfl (.cons rfl .nil))))) ?_
  refine Wp.seq ?_
  refine Wp.text [3, 4, 5, 6, 8, 16] rfl rfl ?_ -- region 2
  refine TextR.move rfl ?_
  refine TextR.int rfl rfl rfl ?_
  refine TextR.done (.cons rfl (.cons rfl (.cons rfl (.cons rfl (.cons rfl (.cons rfl .nil)))))) ?_
  refine Wp.condM h rfl (fun hc1 h => ?_) (fun hc1 h => ?_)
  · refine Wp.seq ?_
    refine Wp.text [6, 7] rfl rfl ?_ -- region 3
    refine TextR.build cm29 rfl ?_
    refine TextR.move rfl ?_
    refine TextR.store1 tk29 rfl rfl rfl rfl rfl rfl (.succ (.succ (.succ .zero))) ?_
    refine TextR.assign rfl ?_
    refine TextR.done (.cons rfl (.cons rfl .nil)) ?_
    refine Wp.weak (keepW (live := [6, 7] ) (.cons rfl (.cons rfl .nil))) ?_
    refine Wp.weak (nzT (e' := [(6, .c (.ptr 3 0 0 0)), (7, .c (I y1))]) (H' := [.live 0 5 [[I a0.Diner.ID, I a0.Diner.Phase, .slv (a0.Diner.Sides.map eSide), I a0.Thirst, .slv (a0.Need.map eI)]], .live 0 1 [[I a1]], .live 0 3 [[I a2.Kind, I a2.Epoch, I a2.Num]], .live 0 5 [[I 0, I 0, .slv ([].map eSide), I 0, .slv ([].map eI)]]]) (by first | rfl | simp [-List.map_set]) (by first | rfl | simp [-List.map_set])) ?_
    refine Wp.ret ?_
    obtain rfl := Option.some.inj h
    exact Ret.two rfl (resV_cellN tk29 rfl rfl) (resV_tmp rfl) rfl
  · refine Wp.skip ?_
    refine Wp.seq ?_
    obtain ⟨y2, hy2, h⟩ := bind_some h
    refine Wp.text [3, 4, 5, 6] rfl rfl ?_ -- region 4
    refine TextR.loadN (cs := [I a0.Diner.ID, I a0.Diner.Phase, .slv (a0.Diner.Sides.map eSide), I a0.Thirst, .slv (a0.Need.map eI)]) tk29 rfl rfl ?_
    refine TextR.call rfl rfl (by exact o_drink_own N a0 y2 hy2 (H1 := [.live 0 5 [[I a0.Diner.ID, I a0.Diner.Phase, .slv (a0.Diner.Sides.map eSide), I a0.Thirst, .slv (a0.Need.map eI)]], .live 0 1 [[I a1]], .live 0 3 [[I a2.Kind, I a2.Epoch, I a2.Num]], .live 0 5 [[I 0, I 0, nilS, I 0, nilS]], .live 0 8 (y2.Diner.Sides.map eSide)]) 4 rfl rfl) (fun x H' hk => ?_)
    obtain ⟨rfl, rfl⟩ := hk
    refine TextR.store1 tk29 rfl rfl rfl rfl rfl rfl .zero ?_
    refine TextR.done (.cons rfl (.cons rfl (.cons rfl (.cons rfl .nil)))) ?_
    refine Wp.seq ?_
    obtain ⟨y3, hy3, h⟩ := bind_some h
    refine Wp.text [3, 4, 5, 6, 9] rfl rfl ?_ -- region 5
    refine TextR.fieldAddr fo29_0 rfl rfl rfl ?_
    refine TextR.fieldAddr fo25_2 rfl rfl rfl ?_
    refine TextR.load1 tk23 rfl rfl ?_
    refine TextR.makeFunc rfl ?_
    refine TextR.dcall rfl rfl (c_slices_IndexFunc_Side_7 N y2.Diner.ID y2.Diner.Phase y2.Thirst y2.Need a1 a2.Kind a2.Epoch a2.Num 0 0 0 y2.Diner.Sides y3 hy3) ?_
    refine TextR.assign rfl ?_
    refine TextR.done (.cons rfl (.cons rfl (.cons rfl (.cons rfl (.cons rfl .nil))))) ?_
    refine Wp.seq ?_
    refine Wp.seq ?_
    refine Wp.go false none [[], [], [], [(28, false)], [(28, false)], [(28, false)], [], [], [(33, false)], [(33, false)], [(33, false)], [(33, false)], [(37, true), (33, false)], [(37, true), (33, false)], [(37, true), (33, false)], [(33, false)], []] [] [3, 4, 5, 6, 9, 42] mixed rfl rfl (by kernel_rfl) ?_ -- region 6
    refine RunR.move rfl rfl rfl ?_
    refine RunR.int rfl rfl rfl rfl rfl ?_
    refine RunR.move rfl rfl rfl ?_
    refine RunR.fieldAddr fo44_2 rfl rfl rfl rfl rfl ?_
    refine RunR.load1 tk3 rfl rfl rfl rfl ?_
    refine RunR.int rfl rfl rfl rfl rfl ?_
    refine RunR.pickOr rfl rfl rfl rfl ?_
    refine RunR.move rfl rfl rfl ?_
    refine RunR.fieldAddr fo44_0 rfl rfl rfl rfl rfl ?_
    refine RunR.load1 tk42 rfl rfl rfl rfl ?_
    refine RunR.int rfl rfl rfl rfl rfl ?_
    refine RunR.move rfl rfl rfl ?_
    refine RunR.fieldAddr fo44_0 rfl rfl rfl rfl rfl ?_
    refine RunR.load1 tk42 rfl rfl rfl rfl ?_
    refine RunR.int rfl rfl rfl rfl rfl ?_
    refine RunR.pickAnd rfl rfl rfl rfl ?_
    refine RunR.pickOr rfl rfl rfl rfl ?_
    refine RunR.doneQ (.cons rfl (.cons rfl (.cons rfl (.cons rfl (.cons rfl (.cons rfl .nil)))))) ?_
    refine Wp.condM h rfl (fun hc2 h => ?_) (fun hc2 h => ?_)
    · refine Wp.seq ?_
      refine Wp.weak (freezeW (h := 4) (ver := 0) (rows := y2.Diner.Sides.map eSide) (e' := [(3, .c (.ptr 0 0 0 0)), (4, .c (.ptr 1 0 0 0)), (5, .c (.ptr 2 0 0 0)), (6, .c (.ptr 3 0 0 0)), (9, .c (I y3)), (42, .c (B (((decide (y3 < 0)) || (a2.Num != 0)) || ((a2.Kind != 3) && (a2.Kind != 4)))))]) (H' := [.live 0 5 [[I y2.Diner.ID, I y2.Diner.Phase, .slv (y2.Diner.Sides.map eSide), I y2.Thirst, .slv (y2.Need.map eI)]], .live 0 1 [[I a1]], .live 0 3 [[I a2.Kind, I a2.Epoch, I a2.Num]], .live 0 5 [[I 0, I 0, nilS, I 0, nilS]], .dead]) rfl (by first | rfl | simp [-List.map_set]) (by first | rfl | simp [-List.map_set])) ?_
      obtain ⟨y4, hy4, h⟩ := bind_some h
      refine Wp.text [3, 6, 10, 11] rfl rfl ?_ -- region 7
      refine TextR.fieldAddr fo29_0 rfl rfl rfl ?_
      refine TextR.loadN (cs := [I y2.Diner.ID, I y2.Diner.Phase, .slv (y2.Diner.Sides.map eSide)]) tk25 rfl rfl ?_
      refine TextR.load1 tk3 rfl rfl ?_
      refine TextR.loadN (cs := [I a2.Kind, I a2.Epoch, I a2.Num]) tk44 rfl rfl ?_
      refine TextR.dcall rfl rfl (c_dine_Get N y2.Diner a1 a2 y4 hy4 _) ?_
      refine TextR.move rfl ?_
      refine TextR.extract rfl rfl ?_
      refine TextR.extract rfl rfl ?_
      refine TextR.alloc 5 zc25 rfl rfl (.cons (.cons (.cons (.cons (.cons .nil))))) ?_
      refine TextR.store1 tk25 rfl rfl rfl rfl rfl rfl (.succ (.succ (.succ (.succ (.succ .zero))))) ?_
      refine TextR.assign rfl ?_
      refine TextR.done (.cons rfl (.cons rfl (.cons rfl (.cons rfl .nil)))) ?_
      refine Wp.seq ?_
      refine Wp.seq ?_
      refine Wp.text [3, 6, 10, 11, 52] rfl rfl ?_ -- region 8
      refine TextR.move rfl ?_
      refine TextR.int rfl rfl rfl ?_
      refine TextR.done (.cons rfl (.cons rfl (.cons rfl (.cons rfl (.cons rfl .nil))))) ?_
      refine Wp.condM h rfl (fun hc3 h => ?_) (fun hc3 h => ?_)
      · refine Wp.seq ?_
        refine Wp.text [6, 7] rfl rfl ?_ -- region 9
        refine TextR.build cm29 rfl ?_
        refine TextR.move rfl ?_
        refine TextR.store1 tk29 rfl rfl rfl rfl rfl rfl (.succ (.succ (.succ .zero))) ?_
        refine TextR.assign rfl ?_
        refine TextR.done (.cons rfl (.cons rfl .nil)) ?_
        refine Wp.weak (keepW (live := [6, 7] ) (.cons rfl (.cons rfl .nil))) ?_
        refine Wp.weak (nzT (e' := [(6, .c (.ptr 3 0 0 0)), (7, .c (I y4.2))]) (H' := [.live 0 5 [[I y2.Diner.ID, I y2.Diner.Phase, .slv (y2.Diner.Sides.map eSide), I y2.Thirst, .slv (y2.Need.map eI)]], .live 0 1 [[I a1]], .live 0 3 [[I a2.Kind, I a2.Epoch, I a2.Num]], .live 0 5 [[I 0, I 0, .slv ([].map eSide), I 0, .slv ([].map eI)]], .dead, .live 0 3 [[I y4.1.ID, I y4.1.Phase, .slv (y4.1.Sides.map eSide)]]]) (by first | rfl | simp [-List.map_set]) (by first | rfl | simp [-List.map_set])) ?_
        refine Wp.ret ?_
        obtain rfl := Option.some.inj h
        exact Ret.two rfl (resV_cellN tk29 rfl rfl) (resV_tmp rfl) rfl
      · refine Wp.skip ?_
        refine Wp.seq ?_
        refine Wp.text [3, 6] rfl rfl ?_ -- region 10
        refine TextR.loadN (cs := [I y4.1.ID, I y4.1.Phase, .slv (y4.1.Sides.map eSide)]) tk25 rfl rfl ?_
        refine TextR.fieldAddr fo29_0 rfl rfl rfl ?_
        refine TextR.storeF (r' := [I y4.1.ID, I y4.1.Phase, .slv (y4.1.Sides.map eSide), I y2.Thirst, .slv (y2.Need.map eI)]) tk25 rfl rfl rfl rfl rfl rfl rfl .zero ?_
        refine TextR.done (.cons rfl (.cons rfl .nil)) ?_
        refine Wp.seq ?_
        refine Wp.text [6, 7] rfl rfl ?_ -- region 11
        refine TextR.loadN (cs := [I y4.1.ID, I y4.1.Phase, .slv (y4.1.Sides.map eSide), I y2.Thirst, .slv (y2.Need.map eI)]) tk29 rfl rfl ?_
        refine TextR.store1 tk29 rfl rfl rfl rfl rfl rfl (.succ (.succ (.succ .zero))) ?_
        refine TextR.assign rfl ?_
        refine TextR.done (.cons rfl (.cons rfl .nil)) ?_
        refine Wp.ret ?_
        obtain rfl := Option.some.inj h
        exact Ret.two rfl (resV_cellN tk29 rfl rfl) (resV_tmp rfl) rfl
    · refine Wp.skip ?_
      refine Wp.seq ?_
      obtain ⟨x5, hx5, h⟩ := bind_some h
      refine Wp.text [3, 5, 6, 9, 12] rfl rfl ?_ -- region 12
      refine TextR.fieldAddr fo29_0 rfl rfl rfl ?_
      refine TextR.fieldAddr fo25_2 rfl rfl rfl ?_
      refine TextR.load1 tk23 rfl rfl ?_
      refine TextR.move rfl ?_
      refine TextR.indexOA se23 rfl rfl rfl hx5 ?_
      refine TextR.fieldAddr fo53_6 rfl rfl rfl ?_
      refine TextR.assign rfl ?_
      refine TextR.done (.cons rfl (.cons rfl (.cons rfl (.cons rfl (.cons rfl .nil))))) ?_
      refine Wp.seq ?_
      refine Wp.seq ?_
      refine Wp.text [3, 6, 9, 12, 66] rfl rfl ?_ -- region 13
      refine TextR.fieldAddr fo44_0 rfl rfl rfl ?_
      refine TextR.load1 tk42 rfl rfl ?_
      refine TextR.int rfl rfl rfl ?_
      refine TextR.done (.cons rfl (.cons rfl (.cons rfl (.cons rfl (.cons rfl .nil))))) ?_
      refine Wp.condM h rfl (fun hc3 h => ?_) (fun hc3 h => ?_)
      · obtain ⟨x6, hx6, h⟩ := bind_some h
        refine Wp.text [3, 6, 12] rfl rfl ?_ -- region 14
        refine TextR.fieldAddr fo29_0 rfl rfl rfl ?_
        refine TextR.fieldAddr fo25_2 rfl rfl rfl ?_
        refine TextR.load1 tk23 rfl rfl ?_
        refine TextR.move rfl ?_
        refine TextR.indexOA se23 rfl rfl rfl hx6 ?_
        refine TextR.fieldAddr fo53_7 rfl rfl rfl ?_
        refine TextR.assign rfl ?_
        refine TextR.done (.cons rfl (.cons rfl (.cons rfl .nil))) ?_
        refine Wp.seq ?_
        refine Wp.seq ?_
        refine Wp.text [3, 6, 12, 75] rfl rfl ?_ -- region 15
        refine TextR.move rfl ?_
        refine TextR.nilCheck rfl rfl ?_
        refine TextR.load1O tk4 rfl rfl (at_get hx6) rfl ?_
        refine TextR.done (.cons rfl (.cons rfl (.cons rfl (.cons rfl .nil)))) ?_
        refine Wp.condM h rfl (fun hc4 h => ?_) (fun hc4 h => ?_)
        · refine Wp.seq ?_
          refine Wp.text [6, 7] rfl rfl ?_ -- region 16
          refine TextR.build cm29 rfl ?_
          refine TextR.store1 tk29 rfl rfl rfl rfl rfl rfl (.succ (.succ (.succ .zero))) ?_
          refine TextR.assign rfl ?_
          refine TextR.done (.cons rfl (.cons rfl .nil)) ?_
          refine Wp.weak (keepW (live := [6, 7] ) (.cons rfl (.cons rfl .nil))) ?_
          refine Wp.weak (nzT (e' := [(6, .c (.ptr 3 0 0 0)), (7, .c (I 132))]) (H' := [.live 0 5 [[I y2.Diner.ID, I y2.Diner.Phase, .sl 4 0 0 y2.Diner.Sides.length, I y2.Thirst, .slv (y2.Need.map eI)]], .live 0 1 [[I a1]], .live 0 3 [[I a2.Kind, I a2.Epoch, I a2.Num]], .live 0 5 [[I 0, I 0, .slv ([].map eSide), I 0, .slv ([].map eI)]], .live 0 8 (y2.Diner.Sides.map eSide)]) (by first | rfl | simp [-List.map_set]) (by first | rfl | simp [-List.map_set])) ?_
          refine Wp.ret ?_
          obtain rfl := Option.some.inj h
          exact Ret.two rfl (resV_cellN tk29 rfl rfl) (resV_tmp rfl) rfl
        · refine Wp.skip ?_
          refine Wp.seq ?_
          refine Wp.text [3, 6] rfl rfl ?_ -- region 17
          refine TextR.move rfl ?_
          refine TextR.nilCheck rfl rfl ?_
          refine TextR.storeO { x6 with Ask := true } tk4 rfl rfl rfl rfl rfl (at_get hx6) rfl rfl (.succ (.succ (.succ (.succ .zero)))) ?_
          refine TextR.done (.cons rfl (.cons rfl .nil)) ?_
          refine Wp.weak (eqW (S' := ⟨[(3, .c (.ptr 0 0 0 0)), (6, .c (.ptr 3 0 0 0))], [.live 0 5 [[I y2.Diner.ID, I y2.Diner.Phase, .sl 4 0 0 (y2.Diner.Sides.set y3.toNat { x6 with Ask := true }).length, I y2.Thirst, .slv (y2.Need.map eI)]], .live 0 1 [[I a1]], .live 0 3 [[I a2.Kind, I a2.Epoch, I a2.Num]], .live 0 5 [[I 0, I 0, nilS, I 0, nilS]], .live 0 8 ((y2.Diner.Sides.set y3.toNat { x6 with Ask := true }).map eSide)]⟩) (by first | rfl | (simp only [List.length_set]; done) | (simp only [List.length_set]; rfl))) ?_
          refine Wp.seq ?_
          refine Wp.text [6, 7] rfl rfl ?_ -- region 18
          refine TextR.loadN (cs := [I y2.Diner.ID, I y2.Diner.Phase, .sl 4 0 0 (y2.Diner.Sides.set y3.toNat { x6 with Ask := true }).length, I y2.Thirst, .slv (y2.Need.map eI)]) tk29 rfl rfl ?_
          refine TextR.store1 tk29 rfl rfl rfl rfl rfl rfl (.succ (.succ (.succ .zero))) ?_
          refine TextR.assign rfl ?_
          refine TextR.done (.cons rfl (.cons rfl .nil)) ?_
          refine Wp.weak (keepW (live := [6, 7] ) (.cons rfl (.cons rfl .nil))) ?_
          refine Wp.weak (freezeW (h := 4) (ver := 0) (rows := (y2.Diner.Sides.set y3.toNat { x6 with Ask := true }).map eSide) (e' := [(6, .c (.ptr 3 0 0 0)), (7, .c (I 0))]) (H' := [.live 0 5 [[I y2.Diner.ID, I y2.Diner.Phase, .slv ((y2.Diner.Sides.set y3.toNat { x6 with Ask := true }).map eSide), I y2.Thirst, .slv (y2.Need.map eI)]], .live 0 1 [[I a1]], .live 0 3 [[I a2.Kind, I a2.Epoch, I a2.Num]], .live 0 5 [[I y2.Diner.ID, I y2.Diner.Phase, .slv ((y2.Diner.Sides.set y3.toNat { x6 with Ask := true }).map eSide), I y2.Thirst, .slv (y2.Need.map eI)]], .dead]) rfl (by first | rfl | simp [-List.map_set]) (by first | rfl | simp [-List.map_set])) ?_
          refine Wp.ret ?_
          obtain rfl := Option.some.inj h
          exact Ret.two rfl (resV_cellN tk29 rfl rfl) (resV_tmp rfl) rfl
      · refine Wp.skip ?_
        refine Wp.seq ?_
        refine Wp.seq ?_
        refine Wp.text [3, 6, 12, 75] rfl rfl ?_ -- region 15
        refine TextR.move rfl ?_
        refine TextR.nilCheck rfl rfl ?_
        refine TextR.load1O tk4 rfl rfl (at_get hx5) rfl ?_
        refine TextR.done (.cons rfl (.cons rfl (.cons rfl (.cons rfl .nil)))) ?_
        refine Wp.condM h rfl (fun hc4 h => ?_) (fun hc4 h => ?_)
        · refine Wp.seq ?_
          refine Wp.text [6, 7] rfl rfl ?_ -- region 16
          refine TextR.build cm29 rfl ?_
          refine TextR.store1 tk29 rfl rfl rfl rfl rfl rfl (.succ (.succ (.succ .zero))) ?_
          refine TextR.assign rfl ?_
          refine TextR.done (.cons rfl (.cons rfl .nil)) ?_
          refine Wp.weak (keepW (live := [6, 7] ) (.cons rfl (.cons rfl .nil))) ?_
          refine Wp.weak (nzT (e' := [(6, .c (.ptr 3 0 0 0)), (7, .c (I 132))]) (H' := [.live 0 5 [[I y2.Diner.ID, I y2.Diner.Phase, .sl 4 0 0 y2.Diner.Sides.length, I y2.Thirst, .slv (y2.Need.map eI)]], .live 0 1 [[I a1]], .live 0 3 [[I a2.Kind, I a2.Epoch, I a2.Num]], .live 0 5 [[I 0, I 0, .slv ([].map eSide), I 0, .slv ([].map eI)]], .live 0 8 (y2.Diner.Sides.map eSide)]) (by first | rfl | simp [-List.map_set]) (by first | rfl | simp [-List.map_set])) ?_
          refine Wp.ret ?_
          obtain rfl := Option.some.inj h
          exact Ret.two rfl (resV_cellN tk29 rfl rfl) (resV_tmp rfl) rfl
        · refine Wp.skip ?_
          refine Wp.seq ?_
          refine Wp.text [3, 6] rfl rfl ?_ -- region 17
          refine TextR.move rfl ?_
          refine TextR.nilCheck rfl rfl ?_
          refine TextR.storeO { x5 with Bottle := true } tk4 rfl rfl rfl rfl rfl (at_get hx5) rfl rfl (.succ (.succ (.succ (.succ .zero)))) ?_
          refine TextR.done (.cons rfl (.cons rfl .nil)) ?_
          refine Wp.weak (eqW (S' := ⟨[(3, .c (.ptr 0 0 0 0)), (6, .c (.ptr 3 0 0 0))], [.live 0 5 [[I y2.Diner.ID, I y2.Diner.Phase, .sl 4 0 0 (y2.Diner.Sides.set y3.toNat { x5 with Bottle := true }).length, I y2.Thirst, .slv (y2.Need.map eI)]], .live 0 1 [[I a1]], .live 0 3 [[I a2.Kind, I a2.Epoch, I a2.Num]], .live 0 5 [[I 0, I 0, nilS, I 0, nilS]], .live 0 8 ((y2.Diner.Sides.set y3.toNat { x5 with Bottle := true }).map eSide)]⟩) (by first | rfl | (simp only [List.length_set]; done) | (simp only [List.length_set]; rfl))) ?_
          refine Wp.seq ?_
          refine Wp.text [6, 7] rfl rfl ?_ -- region 18
          refine TextR.loadN (cs := [I y2.Diner.ID, I y2.Diner.Phase, .sl 4 0 0 (y2.Diner.Sides.set y3.toNat { x5 with Bottle := true }).length, I y2.Thirst, .slv (y2.Need.map eI)]) tk29 rfl rfl ?_
          refine TextR.store1 tk29 rfl rfl rfl rfl rfl rfl (.succ (.succ (.succ .zero))) ?_
          refine TextR.assign rfl ?_
          refine TextR.done (.cons rfl (.cons rfl .nil)) ?_
          refine Wp.weak (keepW (live := [6, 7] ) (.cons rfl (.cons rfl .nil))) ?_
          refine Wp.weak (freezeW (h := 4) (ver := 0) (rows := (y2.Diner.Sides.set y3.toNat { x5 with Bottle := true }).map eSide) (e' := [(6, .c (.ptr 3 0 0 0)), (7, .c (I 0))]) (H' := [.live 0 5 [[I y2.Diner.ID, I y2.Diner.Phase, .slv ((y2.Diner.Sides.set y3.toNat { x5 with Bottle := true }).map eSide), I y2.Thirst, .slv (y2.Need.map eI)]], .live 0 1 [[I a1]], .live 0 3 [[I a2.Kind, I a2.Epoch, I a2.Num]], .live 0 5 [[I y2.Diner.ID, I y2.Diner.Phase, .slv ((y2.Diner.Sides.set y3.toNat { x5 with Bottle := true }).map eSide), I y2.Thirst, .slv (y2.Need.map eI)]], .dead]) rfl (by first | rfl | simp [-List.map_set]) (by first | rfl | simp [-List.map_set])) ?_
          refine Wp.ret ?_
          obtain rfl := Option.some.inj h
          exact Ret.two rfl (resV_cellN tk29 rfl rfl) (resV_tmp rfl) rfl
theorem c_drink_Get (N : Nat) (a0 : TDrinker) (a1 : Int) (a2 : TMsg) (r : TDrinker × Int) (h : drink_Get N a0 a1 a2 = some r) (H : List Ob) : DCall Try.prog 20 [.agg (eDrinker a0), .c (I a1), .agg (eMsg a2)] H (.tup [.agg (eDrinker r.1), .c (I r.2)]) := DCall.lift (by first | rfl | simp [-List.map_set]) (by first | rfl | simp [-List.map_set]) (fun _ => by simp [-List.map_set]) (w_drink_Get N a0 a1 a2 r h) H
-- narthex/drink.Close
theorem w_drink_Close (N : Nat) (a0 : TDrinker) (r : TDrinker × Int) (h : drink_Close N a0 = some r) : Nx.Call Try.prog 24 [.agg (eDrinker a0)] [] fun r' _ => r' = .tup [.agg (eDrinker r.1), .c (I r.2)] := by
  refine Nx.Call.of_body Try.func24 rfl en24 Try.ntmps24 rfl (fun Γ hok => ?_)
  unfold drink_Close at h
  refine Wp.seq ?_
  refine Wp.text [1, 2] rfl rfl ?_ -- region 0
  refine TextR.box (cs := [I a0.Diner.ID, I a0.Diner.Phase, .slv (a0.Diner.Sides.map eSide), I a0.Thirst, .slv (a0.Need.map eI)]) 0 rfl rfl rfl rfl .nil ?_
  refine TextR.alloc 1 zc29 rfl rfl (.cons .nil) ?_
  refine TextR.assign rfl ?_
  refine TextR.done (.cons rfl (.cons rfl .nil)) ?_
  refine Wp.seq ?_
  refine Wp.seq ?_
  obtain ⟨y1, hy1, h⟩ := bind_some h
  refine Wp.text [1, 2, 4] rfl rfl ?_ -- region 1
  refine TextR.loadN (cs := [I a0.Diner.ID, I a0.Diner.Phase, .slv (a0.Diner.Sides.map eSide), I a0.Thirst, .slv (a0.Need.map eI)]) tk29 rfl rfl ?_
  refine TextR.dcall rfl rfl (c_drink_Check N a0 y1 hy1 _) ?_
  refine TextR.assign rfl ?_
  refine TextR.done (.cons rfl (.cons rfl (.cons rfl .nil))) ?_
  refine Wp.seq ?_
  refine Wp.text [1, 2, 4, 8] rfl rfl ?_ -- region 2
  refine TextR.move rfl ?_
  refine TextR.int rfl rfl rfl ?_
  refine TextR.done (.cons rfl (.cons rfl (.cons rfl (.cons rfl .nil)))) ?_
  refine Wp.condM h rfl (fun hc1 h => ?_) (fun hc1 h => ?_)
  · refine Wp.seq ?_
    refine Wp.text [2, 3] rfl rfl ?_ -- region 3
    refine TextR.build cm29 rfl ?_
    refine TextR.move rfl ?_
    refine TextR.store1 tk29 rfl rfl rfl rfl rfl rfl (.succ .zero) ?_
    refine TextR.assign rfl ?_
    refine TextR.done (.cons rfl (.cons rfl .nil)) ?_
    refine Wp.weak (keepW (live := [2, 3] ) (.cons rfl (.cons rfl .nil))) ?_
    refine Wp.weak (nzT (e' := [(2, .c (.ptr 1 0 0 0)), (3, .c (I y1))]) (H' := [.live 0 5 [[I a0.Diner.ID, I a0.Diner.Phase, .slv (a0.Diner.Sides.map eSide), I a0.Thirst, .slv (a0.Need.map eI)]], .live 0 5 [[I 0, I 0, .slv ([].map eSide), I 0, .slv ([].map eI)]]]) (by first | rfl | simp [-List.map_set]) (by first | rfl | simp [-List.map_set])) ?_
    refine Wp.ret ?_
    obtain rfl := Option.some.inj h
    exact Ret.two rfl (resV_cellN tk29 rfl rfl) (resV_tmp rfl) rfl
  · refine Wp.skip ?_
    refine Wp.seq ?_
    refine Wp.seq ?_
    refine Wp.text [1, 2, 13] rfl rfl ?_ -- region 4
    refine TextR.fieldAddr fo29_1 rfl rfl rfl ?_
    refine TextR.load1 tk26 rfl rfl ?_
    refine TextR.int rfl rfl rfl ?_
    refine TextR.done (.cons rfl (.cons rfl (.cons rfl .nil))) ?_
    refine Wp.condM h rfl (fun hc2 h => ?_) (fun hc2 h => ?_)
    · refine Wp.seq ?_
      refine Wp.text [2, 3] rfl rfl ?_ -- region 5
      refine TextR.build cm29 rfl ?_
      refine TextR.store1 tk29 rfl rfl rfl rfl rfl rfl (.succ .zero) ?_
      refine TextR.assign rfl ?_
      refine TextR.done (.cons rfl (.cons rfl .nil)) ?_
      refine Wp.weak (keepW (live := [2, 3] ) (.cons rfl (.cons rfl .nil))) ?_
      refine Wp.weak (nzT (e' := [(2, .c (.ptr 1 0 0 0)), (3, .c (I 152))]) (H' := [.live 0 5 [[I a0.Diner.ID, I a0.Diner.Phase, .slv (a0.Diner.Sides.map eSide), I a0.Thirst, .slv (a0.Need.map eI)]], .live 0 5 [[I 0, I 0, .slv ([].map eSide), I 0, .slv ([].map eI)]]]) (by first | rfl | simp [-List.map_set]) (by first | rfl | simp [-List.map_set])) ?_
      refine Wp.ret ?_
      obtain rfl := Option.some.inj h
      exact Ret.two rfl (resV_cellN tk29 rfl rfl) (resV_tmp rfl) rfl
    · refine Wp.skip ?_
      refine Wp.seq ?_
      obtain ⟨y2, hy2, h⟩ := bind_some h
      refine Wp.text [1, 2] rfl rfl ?_ -- region 6
      refine TextR.loadN (cs := [I a0.Diner.ID, I a0.Diner.Phase, .slv (a0.Diner.Sides.map eSide), I a0.Thirst, .slv (a0.Need.map eI)]) tk29 rfl rfl ?_
      refine TextR.dcall rfl rfl (c_drink_own N a0 y2 hy2 _) ?_
      refine TextR.store1 tk29 rfl rfl rfl rfl rfl rfl .zero ?_
      refine TextR.done (.cons rfl (.cons rfl .nil)) ?_
      refine Wp.seq ?_
      refine Wp.text [1, 2] rfl rfl ?_ -- region 7
      refine TextR.fieldAddr fo29_1 rfl rfl rfl ?_
      refine TextR.storeF (r' := [I y2.Diner.ID, I y2.Diner.Phase, .slv (y2.Diner.Sides.map eSide), I 0, .slv (y2.Need.map eI)]) tk26 rfl rfl rfl rfl rfl rfl rfl .zero ?_
      refine TextR.fieldAddr fo29_2 rfl rfl rfl ?_
      refine TextR.storeF (r' := [I y2.Diner.ID, I y2.Diner.Phase, .slv (y2.Diner.Sides.map eSide), I 0, nilS]) tk27 rfl rfl rfl rfl rfl rfl rfl .zero ?_
      refine TextR.done (.cons rfl (.cons rfl .nil)) ?_
      refine Wp.seq ?_
      refine Wp.text [2, 3] rfl rfl ?_ -- region 8
      refine TextR.loadN (cs := [I y2.Diner.ID, I y2.Diner.Phase, .slv (y2.Diner.Sides.map eSide), I 0, nilS]) tk29 rfl rfl ?_
      refine TextR.store1 tk29 rfl rfl rfl rfl rfl rfl (.succ .zero) ?_
      refine TextR.assign rfl ?_
      refine TextR.done (.cons rfl (.cons rfl .nil)) ?_
      refine Wp.weak (keepW (live := [2, 3] ) (.cons rfl (.cons rfl .nil))) ?_
      refine Wp.weak (nzT (e' := [(2, .c (.ptr 1 0 0 0)), (3, .c (I 0))]) (H' := [.live 0 5 [[I y2.Diner.ID, I y2.Diner.Phase, .slv (y2.Diner.Sides.map eSide), I 0, .slv ([].map eI)]], .live 0 5 [[I y2.Diner.ID, I y2.Diner.Phase, .slv (y2.Diner.Sides.map eSide), I 0, .slv ([].map eI)]]]) (by first | rfl | simp [-List.map_set]) (by first | rfl | simp [-List.map_set])) ?_
      refine Wp.ret ?_
      obtain rfl := Option.some.inj h
      exact Ret.two rfl (resV_cellN tk29 rfl rfl) (resV_tmp rfl) rfl
theorem c_drink_Close (N : Nat) (a0 : TDrinker) (r : TDrinker × Int) (h : drink_Close N a0 = some r) (H : List Ob) : DCall Try.prog 24 [.agg (eDrinker a0)] H (.tup [.agg (eDrinker r.1), .c (I r.2)]) := DCall.lift (by first | rfl | simp [-List.map_set]) (by first | rfl | simp [-List.map_set]) (fun _ => by simp [-List.map_set]) (w_drink_Close N a0 r h) H
-- narthex/narthexlaw15.awake
theorem w_narthexlaw15_awake (N : Nat) (r : Bool) (h : narthexlaw15_awake N = some r) : Nx.Call Try.prog 10 [] [] fun r' _ => r' = .c (B r) := by
  refine Nx.Call.of_body Try.func10 rfl en10 Try.ntmps10 rfl (fun Γ hok => ?_)
  unfold narthexlaw15_awake at h
  refine Wp.seq ?_
  refine Wp.text [] rfl rfl ?_ -- region 0
  refine TextR.assign rfl ?_
  refine TextR.done .nil ?_
  refine Wp.seq ?_
  refine Wp.text [1] rfl rfl ?_ -- region 1
  refine TextR.build cm53 rfl ?_
  refine TextR.buildSlice (rows := [(⟨0, 0, 0, true, true, false, true, false⟩ : TSide)].map eSide) 0 se23 rfl rfl rfl .nil ?_
  refine TextR.build cm25 rfl ?_
  refine TextR.build cm29 rfl ?_
  refine TextR.alloc 1 zc29 rfl rfl (.cons .nil) ?_
  refine TextR.store1 tk29 rfl rfl rfl rfl rfl rfl (.succ .zero) ?_
  refine TextR.done (.cons rfl .nil) ?_
  refine Wp.seq ?_
  refine Wp.weak (freezeW (h := 0) (ver := 0) (rows := [(⟨0, 0, 0, true, true, false, true, false⟩ : TSide)].map eSide) (e' := [(1, .c (.ptr 1 0 0 0))]) (H' := [.dead, .live 0 5 [[I 1, I 0, .slv ([(⟨0, 0, 0, true, true, false, true, false⟩ : TSide)].map eSide), I 0, nilS]]]) rfl (by first | rfl | simp [-List.map_set]) (by first | rfl | simp [-List.map_set])) ?_
  obtain ⟨y1, hy1, h⟩ := bind_some h
  refine Wp.text [2, 3] rfl rfl ?_ -- region 2
  refine TextR.loadN (cs := [I 1, I 0, .slv ([(⟨0, 0, 0, true, true, false, true, false⟩ : TSide)].map eSide), I 0, nilS]) tk29 rfl rfl ?_
  refine TextR.buildSlice (rows := [0].map eI) 2 se27 rfl rfl rfl (.cons (.cons .nil)) ?_
  refine TextR.weak (keepW (F := ⟨Try.prog, 123, Γ⟩) (live := [1, 18, 19]) (.cons rfl (.cons rfl (.cons rfl .nil)))) ?_
  refine TextR.weak (freezeW (F := ⟨Try.prog, 123, Γ⟩) (h := 2) (ver := 0) (rows := [0].map eI) (e' := [(1, .c (.ptr 1 0 0 0)), (18, .agg [I 1, I 0, .slv ([(⟨0, 0, 0, true, true, false, true, false⟩ : TSide)].map eSide), I 0, nilS]), (19, .c (.slv ([0].map eI)))]) (H' := [.dead, .live 0 5 [[I 1, I 0, .slv ([(⟨0, 0, 0, true, true, false, true, false⟩ : TSide)].map eSide), I 0, nilS]], .dead]) rfl (by first | rfl | simp [-List.map_set]) (by first | rfl | simp [-List.map_set])) ?_
  refine TextR.dcall rfl rfl (DCall.nz rfl (c_drink_Open N (⟨(⟨1, 0, [(⟨0, 0, 0, true, true, false, true, false⟩ : TSide)]⟩ : TDiner), 0, []⟩ : TDrinker) [0] y1 hy1 _)) ?_
  refine TextR.move rfl ?_
  refine TextR.extract rfl rfl ?_
  refine TextR.extract rfl rfl ?_
  refine TextR.alloc 3 zc29 rfl rfl (.cons (.cons (.cons .nil))) ?_
  refine TextR.store1 tk29 rfl rfl rfl rfl rfl rfl (.succ (.succ (.succ .zero))) ?_
  refine TextR.assign rfl ?_
  refine TextR.done (.cons rfl (.cons rfl .nil)) ?_
  refine Wp.seq ?_
  obtain ⟨y2, hy2, h⟩ := bind_some h
  refine Wp.text [2, 3, 4, 5] rfl rfl ?_ -- region 3
  refine TextR.loadN (cs := [I y1.1.Diner.ID, I y1.1.Diner.Phase, .slv (y1.1.Diner.Sides.map eSide), I y1.1.Thirst, .slv (y1.1.Need.map eI)]) tk29 rfl rfl ?_
  refine TextR.dcall rfl rfl (c_drink_Fire N y1.1 y2 hy2 _) ?_
  refine TextR.move rfl ?_
  refine TextR.extract rfl rfl ?_
  refine TextR.extract rfl rfl ?_
  refine TextR.extract rfl rfl ?_
  refine TextR.store1 tk29 rfl rfl rfl rfl rfl rfl (.succ (.succ (.succ .zero))) ?_
  refine TextR.assign rfl ?_
  refine TextR.assign rfl ?_
  refine TextR.done (.cons rfl (.cons rfl (.cons rfl (.cons rfl .nil)))) ?_
  refine Wp.seq ?_
  obtain ⟨y3, hy3, h⟩ := bind_some h
  refine Wp.text [2, 3, 4, 5, 6] rfl rfl ?_ -- region 4
  refine TextR.loadN (cs := [I y2.1.Diner.ID, I y2.1.Diner.Phase, .slv (y2.1.Diner.Sides.map eSide), I y2.1.Thirst, .slv (y2.1.Need.map eI)]) tk29 rfl rfl ?_
  refine TextR.build cm44 rfl ?_
  refine TextR.dcall rfl rfl (c_drink_Get N y2.1 0 (⟨4, 0, 0⟩ : TMsg) y3 hy3 _) ?_
  refine TextR.move rfl ?_
  refine TextR.extract rfl rfl ?_
  refine TextR.extract rfl rfl ?_
  refine TextR.store1 tk29 rfl rfl rfl rfl rfl rfl (.succ (.succ (.succ .zero))) ?_
  refine TextR.assign rfl ?_
  refine TextR.done (.cons rfl (.cons rfl (.cons rfl (.cons rfl (.cons rfl .nil))))) ?_
  refine Wp.seq ?_
  obtain ⟨y4, hy4, h⟩ := bind_some h
  refine Wp.text [2, 3, 4, 5, 6, 7, 8] rfl rfl ?_ -- region 5
  refine TextR.loadN (cs := [I y3.1.Diner.ID, I y3.1.Diner.Phase, .slv (y3.1.Diner.Sides.map eSide), I y3.1.Thirst, .slv (y3.1.Need.map eI)]) tk29 rfl rfl ?_
  refine TextR.dcall rfl rfl (c_drink_Fire N y3.1 y4 hy4 _) ?_
  refine TextR.move rfl ?_
  refine TextR.extract rfl rfl ?_
  refine TextR.extract rfl rfl ?_
  refine TextR.extract rfl rfl ?_
  refine TextR.store1 tk29 rfl rfl rfl rfl rfl rfl (.succ (.succ (.succ .zero))) ?_
  refine TextR.assign rfl ?_
  refine TextR.assign rfl ?_
  refine TextR.done (.cons rfl (.cons rfl (.cons rfl (.cons rfl (.cons rfl (.cons rfl (.cons rfl .nil))))))) ?_
  refine Wp.seq ?_
  obtain ⟨y5, hy5, h⟩ := bind_some h
  refine Wp.text [2, 3, 4, 5, 6, 7, 8, 9, 10] rfl rfl ?_ -- region 6
  refine TextR.loadN (cs := [I y4.1.Diner.ID, I y4.1.Diner.Phase, .slv (y4.1.Diner.Sides.map eSide), I y4.1.Thirst, .slv (y4.1.Need.map eI)]) tk29 rfl rfl ?_
  refine TextR.dcall rfl rfl (c_drink_Close N y4.1 y5 hy5 _) ?_
  refine TextR.move rfl ?_
  refine TextR.extract rfl rfl ?_
  refine TextR.extract rfl rfl ?_
  refine TextR.alloc 4 zc29 rfl rfl (.cons (.cons (.cons (.cons .nil)))) ?_
  refine TextR.store1 tk29 rfl rfl rfl rfl rfl rfl (.succ (.succ (.succ (.succ .zero)))) ?_
  refine TextR.assign rfl ?_
  refine TextR.done (.cons rfl (.cons rfl (.cons rfl (.cons rfl (.cons rfl (.cons rfl (.cons rfl (.cons rfl (.cons rfl .nil))))))))) ?_
  refine Wp.seq ?_
  obtain ⟨y6, hy6, h⟩ := bind_some h
  refine Wp.text [2, 3, 4, 5, 6, 7, 8, 9, 10, 11, 12] rfl rfl ?_ -- region 7
  refine TextR.loadN (cs := [I y5.1.Diner.ID, I y5.1.Diner.Phase, .slv (y5.1.Diner.Sides.map eSide), I y5.1.Thirst, .slv (y5.1.Need.map eI)]) tk29 rfl rfl ?_
  refine TextR.dcall rfl rfl (c_drink_Fire N y5.1 y6 hy6 _) ?_
  refine TextR.move rfl ?_
  refine TextR.extract rfl rfl ?_
  refine TextR.extract rfl rfl ?_
  refine TextR.extract rfl rfl ?_
  refine TextR.store1 tk29 rfl rfl rfl rfl rfl rfl (.succ (.succ (.succ (.succ .zero)))) ?_
  refine TextR.assign rfl ?_
  refine TextR.assign rfl ?_
  refine TextR.done (.cons rfl (.cons rfl (.cons rfl (.cons rfl (.cons rfl (.cons rfl (.cons rfl (.cons rfl (.cons rfl (.cons rfl (.cons rfl .nil))))))))))) ?_
  refine Wp.seq ?_
  obtain ⟨x7, hx7, h⟩ := bind_some h
  obtain ⟨y8, hy8, h⟩ := bind_some h
  obtain ⟨y9, hy9, h⟩ := bind_some h
  obtain ⟨y10, hy10, h⟩ := bind_some h
  refine Wp.go false none [[], [], [], [(54, true)], [(54, true)], [], [], [(58, true)], [(58, true)], [(58, true)], [], [], [(63, true)], [(63, true)], [(63, true)], [], [], [(68, true)], [(68, true)], [], [], [(72, true)], [(72, true)], [], [], [(76, true)], [(76, true)], [(76, true)], [], [], [(81, true)], [(81, true)], [], [], [(85, true)], [(85, true)], [], [], [(89, true)], [(89, true)], [(89, true)], [], [], [(94, true)], [(94, true)], [(94, true)], [(94, true)], [(94, true)], [(94, true)], [], [], [(102, true)], [(102, true)], [(102, true)], [], [], [(107, true)], [(107, true)], [(107, true)], [], [], [(112, true)], [(112, true)], [(112, true)], [], [], [(117, true)], [(117, true)], [(117, true)], [(117, true)], [], []] [] [0] mixed rfl rfl (by kernel_rfl) ?_ -- region 8
  refine RunR.move rfl rfl rfl ?_
  refine RunR.int rfl rfl rfl rfl rfl ?_
  refine RunR.move rfl rfl rfl ?_
  refine RunR.move rfl rfl rfl ?_
  refine RunR.int rfl rfl rfl rfl rfl ?_
  refine RunR.pickAnd rfl rfl rfl rfl ?_
  refine RunR.move rfl rfl rfl ?_
  refine RunR.fieldAddr fo29_1 rfl rfl rfl rfl rfl ?_
  refine RunR.load1 tk26 rfl rfl rfl rfl ?_
  refine RunR.int rfl rfl rfl rfl rfl ?_
  refine RunR.pickAnd rfl rfl rfl rfl ?_
  refine RunR.move rfl rfl rfl ?_
  refine RunR.move rfl rfl rfl ?_
  refine RunR.lenM us32 rfl rfl rfl rfl ?_
  refine RunR.int rfl rfl rfl rfl rfl ?_
  refine RunR.pickAnd rfl rfl rfl rfl ?_
  refine RunR.move rfl rfl rfl ?_
  refine RunR.move rfl rfl rfl ?_
  refine RunR.int rfl rfl rfl rfl rfl ?_
  refine RunR.pickAnd rfl rfl rfl rfl ?_
  refine RunR.move rfl rfl rfl ?_
  refine RunR.move rfl rfl rfl ?_
  refine RunR.int rfl rfl rfl rfl rfl ?_
  refine RunR.pickAnd rfl rfl rfl rfl ?_
  refine RunR.move rfl rfl rfl ?_
  refine RunR.move rfl rfl rfl ?_
  refine RunR.lenM us32 rfl rfl rfl rfl ?_
  refine RunR.int rfl rfl rfl rfl rfl ?_
  refine RunR.pickAnd rfl rfl rfl rfl ?_
  refine RunR.move rfl rfl rfl ?_
  refine RunR.move rfl rfl rfl ?_
  refine RunR.int rfl rfl rfl rfl rfl ?_
  refine RunR.pickAnd rfl rfl rfl rfl ?_
  refine RunR.move rfl rfl rfl ?_
  refine RunR.move rfl rfl rfl ?_
  refine RunR.int rfl rfl rfl rfl rfl ?_
  refine RunR.pickAnd rfl rfl rfl rfl ?_
  refine RunR.move rfl rfl rfl ?_
  refine RunR.move rfl rfl rfl ?_
  refine RunR.lenM us32 rfl rfl rfl rfl ?_
  refine RunR.int rfl rfl rfl rfl rfl ?_
  refine RunR.pickAnd rfl rfl rfl rfl ?_
  refine RunR.move rfl rfl rfl ?_
  refine RunR.move rfl rfl rfl ?_
  refine RunR.indexAG se32 rfl rfl rfl rfl rfl (ifPos hx7 gT) (ifAt hx7 gT) rfl ?_
  refine RunR.fieldAddr fo61_2 rfl rfl rfl rfl rfl ?_
  refine RunR.fieldAddr fo44_0 rfl rfl rfl rfl rfl ?_
  refine RunR.load1G tk42 rfl rfl rfl (ifAt hx7 gT) rfl ?_
  refine RunR.int rfl rfl rfl rfl rfl ?_
  refine RunR.pickAnd rfl rfl rfl rfl ?_
  refine RunR.move rfl rfl rfl ?_
  refine RunR.fieldAddr fo29_1 rfl rfl rfl rfl rfl ?_
  refine RunR.load1 tk26 rfl rfl rfl rfl ?_
  refine RunR.int rfl rfl rfl rfl rfl ?_
  refine RunR.pickAnd rfl rfl rfl rfl ?_
  refine RunR.move rfl rfl rfl ?_
  refine RunR.loadN (cs := [I y6.1.Diner.ID, I y6.1.Diner.Phase, .slv (y6.1.Diner.Sides.map eSide), I y6.1.Thirst, .slv (y6.1.Need.map eI)]) tk29 rfl rfl rfl rfl ?_
  refine RunR.callG rfl rfl rfl (fun hb H => c_drink_Check N y6.1 y8 (ifT hy8 gT hb) H) ?_
  refine RunR.int rfl rfl rfl rfl rfl ?_
  refine RunR.pickAnd rfl rfl rfl rfl ?_
  refine RunR.move rfl rfl rfl ?_
  refine RunR.loadN (cs := [I y6.1.Diner.ID, I y6.1.Diner.Phase, .slv (y6.1.Diner.Sides.map eSide), I y6.1.Thirst, .slv (y6.1.Need.map eI)]) tk29 rfl rfl rfl rfl ?_
  refine RunR.loadN (cs := [I y6.1.Diner.ID, I y6.1.Diner.Phase, .slv (y6.1.Diner.Sides.map eSide), I y6.1.Thirst, .slv (y6.1.Need.map eI)]) tk29 rfl rfl rfl rfl ?_
  refine RunR.callG rfl rfl rfl (fun hb H => c_drink_Same N y6.1 y6.1 y9 (ifT hy9 gT hb) H) ?_
  refine RunR.pickAnd rfl rfl rfl rfl ?_
  refine RunR.move rfl rfl rfl ?_
  refine RunR.loadN (cs := [I y6.1.Diner.ID, I y6.1.Diner.Phase, .slv (y6.1.Diner.Sides.map eSide), I y6.1.Thirst, .slv (y6.1.Need.map eI)]) tk29 rfl rfl rfl rfl ?_
  refine RunR.loadN (cs := [I y4.1.Diner.ID, I y4.1.Diner.Phase, .slv (y4.1.Diner.Sides.map eSide), I y4.1.Thirst, .slv (y4.1.Need.map eI)]) tk29 rfl rfl rfl rfl ?_
  refine RunR.callG rfl rfl rfl (fun hb H => c_drink_Same N y6.1 y4.1 y10 (ifT hy10 gT hb) H) ?_
  refine RunR.not rfl rfl rfl ?_
  refine RunR.pickAnd rfl rfl rfl rfl ?_
  refine RunR.assign rfl rfl rfl ?_
  refine RunR.doneQ (.cons rfl .nil) ?_
  refine Wp.ret ?_
  obtain rfl := Option.some.inj h
  exact Ret.one rfl (resV_tmp rfl) rfl
theorem c_narthexlaw15_awake (N : Nat) (r : Bool) (h : narthexlaw15_awake N = some r) (H : List Ob) : DCall Try.prog 10 [] H (.c (B r)) := DCall.lift (by first | rfl | simp [-List.map_set]) (by first | rfl | simp [-List.map_set]) (fun _ => by simp [-List.map_set]) (w_narthexlaw15_awake N r h) H
-- narthex/narthexlaw15.few
theorem w_narthexlaw15_few (N : Nat) (a0 : TDrinker) (r : Bool) (h : narthexlaw15_few N a0 = some r) : Nx.Call Try.prog 11 [.agg (eDrinker a0)] [] fun r' _ => r' = .c (B r) := by
  refine Nx.Call.of_body Try.func11 rfl en11 Try.ntmps11 rfl (fun Γ hok => ?_)
  unfold narthexlaw15_few at h
  refine Wp.seq ?_
  refine Wp.text [1] rfl rfl ?_ -- region 0
  refine TextR.box (cs := [I a0.Diner.ID, I a0.Diner.Phase, .slv (a0.Diner.Sides.map eSide), I a0.Thirst, .slv (a0.Need.map eI)]) 0 rfl rfl rfl rfl .nil ?_
  refine TextR.assign rfl ?_
  refine TextR.done (.cons rfl .nil) ?_
  refine Wp.seq ?_
  refine Wp.go false none [[], [], [], [], [], [], [(8, true)], [(8, true)], [(8, true)], [(8, true)], [], []] [] [2] mixed rfl rfl (by kernel_rfl) ?_ -- region 1
  refine RunR.fieldAddr fo29_0 rfl rfl rfl rfl rfl ?_
  refine RunR.fieldAddr fo25_2 rfl rfl rfl rfl rfl ?_
  refine RunR.load1 tk23 rfl rfl rfl rfl ?_
  refine RunR.lenM us23 rfl rfl rfl rfl ?_
  refine RunR.int rfl rfl rfl rfl rfl ?_
  refine RunR.move rfl rfl rfl ?_
  refine RunR.fieldAddr fo29_2 rfl rfl rfl rfl rfl ?_
  refine RunR.load1 tk27 rfl rfl rfl rfl ?_
  refine RunR.lenM us27 rfl rfl rfl rfl ?_
  refine RunR.int rfl rfl rfl rfl rfl ?_
  refine RunR.pickAnd rfl rfl rfl rfl ?_
  refine RunR.assign rfl rfl rfl ?_
  refine RunR.doneQ (.cons rfl .nil) ?_
  refine Wp.ret ?_
  obtain rfl := Option.some.inj h
  exact Ret.one rfl (resV_tmp rfl) rfl
theorem c_narthexlaw15_few (N : Nat) (a0 : TDrinker) (r : Bool) (h : narthexlaw15_few N a0 = some r) (H : List Ob) : DCall Try.prog 11 [.agg (eDrinker a0)] H (.c (B r)) := DCall.lift (by first | rfl | simp [-List.map_set]) (by first | rfl | simp [-List.map_set]) (fun _ => by simp [-List.map_set]) (w_narthexlaw15_few N a0 r h) H
-- narthex/narthexlaw13.Own
theorem w_narthexlaw13_Own (N : Nat) (a0 : TDiner) (r : TDiner) (h : narthexlaw13_Own N a0 = some r) : Nx.Call Try.prog 31 [.agg (eDiner a0)] [] fun r' _ => r' = .agg (eDiner r) := by
  refine Nx.Call.of_body Try.func31 rfl en31 Try.ntmps31 rfl (fun Γ hok => ?_)
  unfold narthexlaw13_Own at h
  refine Wp.seq ?_
  refine Wp.text [1, 2] rfl rfl ?_ -- region 0
  refine TextR.box (cs := [I a0.ID, I a0.Phase, .slv (a0.Sides.map eSide)]) 0 rfl rfl rfl rfl .nil ?_
  refine TextR.alloc 1 zc25 rfl rfl (.cons .nil) ?_
  refine TextR.done (.cons rfl (.cons rfl .nil)) ?_
  refine Wp.seq ?_
  obtain ⟨x1, hx1, h⟩ := bind_some h
  refine Wp.text [1, 2] rfl rfl ?_ -- region 1
  refine TextR.buildSlice  2 se23 rfl rfl rfl (.cons (.cons .nil)) ?_
  refine TextR.fieldAddr fo25_2 rfl rfl rfl ?_
  refine TextR.load1 tk23 rfl rfl ?_
  refine TextR.appendM eSide ([] : List TSide) a0.Sides x1 (app_eq hx1) se23 rfl rfl rfl rfl (fun _ => rfl) rfl (app_len hx1) (.succ (.succ .zero)) ?_
  refine TextR.fieldAddr fo25_2 rfl rfl rfl ?_
  refine TextR.storeF (r' := [I a0.ID, I a0.Phase, .sl 2 1 0 x1.length]) tk23 rfl rfl rfl rfl rfl rfl rfl .zero ?_
  refine TextR.done (.cons rfl (.cons rfl .nil)) ?_
  refine Wp.seq ?_
  refine Wp.text [2] rfl rfl ?_ -- region 2
  refine TextR.loadN (cs := [I a0.ID, I a0.Phase, .sl 2 1 0 x1.length]) tk25 rfl rfl ?_
  refine TextR.store1 tk25 rfl rfl rfl rfl rfl rfl (.succ .zero) ?_
  refine TextR.done (.cons rfl .nil) ?_
  refine Wp.weak (keepW (live := [2] ) (.cons rfl .nil)) ?_
  refine Wp.weak (freezeW (h := 2) (ver := 1) (rows := x1.map eSide) (e' := [(2, .c (.ptr 1 0 0 0))]) (H' := [.live 0 3 [[I a0.ID, I a0.Phase, .slv (x1.map eSide)]], .live 0 3 [[I a0.ID, I a0.Phase, .slv (x1.map eSide)]], .dead]) rfl (by first | rfl | simp [-List.map_set]) (by first | rfl | simp [-List.map_set])) ?_
  refine Wp.ret ?_
  obtain rfl := Option.some.inj h
  exact Ret.one rfl (resV_cellN tk25 rfl rfl) rfl
theorem c_narthexlaw13_Own (N : Nat) (a0 : TDiner) (r : TDiner) (h : narthexlaw13_Own N a0 = some r) (H : List Ob) : DCall Try.prog 31 [.agg (eDiner a0)] H (.agg (eDiner r)) := DCall.lift (by first | rfl | simp [-List.map_set]) (by first | rfl | simp [-List.map_set]) (fun _ => by simp [-List.map_set]) (w_narthexlaw13_Own N a0 r h) H
-- narthex/narthexlaw15.Own
theorem w_narthexlaw15_Own (N : Nat) (a0 : TDrinker) (r : TDrinker) (h : narthexlaw15_Own N a0 = some r) : Nx.Call Try.prog 13 [.agg (eDrinker a0)] [] fun r' _ => r' = .agg (eDrinker r) := by
  refine Nx.Call.of_body Try.func13 rfl en13 Try.ntmps13 rfl (fun Γ hok => ?_)
  unfold narthexlaw15_Own at h
  refine Wp.seq ?_
  refine Wp.text [1, 2] rfl rfl ?_ -- region 0
  refine TextR.box (cs := [I a0.Diner.ID, I a0.Diner.Phase, .slv (a0.Diner.Sides.map eSide), I a0.Thirst, .slv (a0.Need.map eI)]) 0 rfl rfl rfl rfl .nil ?_
  refine TextR.alloc 1 zc29 rfl rfl (.cons .nil) ?_
  refine TextR.done (.cons rfl (.cons rfl .nil)) ?_
  refine Wp.seq ?_
  obtain ⟨y1, hy1, h⟩ := bind_some h
  refine Wp.text [1, 2] rfl rfl ?_ -- region 1
  refine TextR.fieldAddr fo29_0 rfl rfl rfl ?_
  refine TextR.loadN (cs := [I a0.Diner.ID, I a0.Diner.Phase, .slv (a0.Diner.Sides.map eSide)]) tk25 rfl rfl ?_
  refine TextR.dcall rfl rfl (c_narthexlaw13_Own N a0.Diner y1 hy1 _) ?_
  refine TextR.fieldAddr fo29_0 rfl rfl rfl ?_
  refine TextR.storeF (r' := [I y1.ID, I y1.Phase, .slv (y1.Sides.map eSide), I a0.Thirst, .slv (a0.Need.map eI)]) tk25 rfl rfl rfl rfl rfl rfl rfl .zero ?_
  refine TextR.done (.cons rfl (.cons rfl .nil)) ?_
  refine Wp.seq ?_
  obtain ⟨x2, hx2, h⟩ := bind_some h
  refine Wp.text [1, 2] rfl rfl ?_ -- region 2
  refine TextR.buildSlice  2 se27 rfl rfl rfl (.cons (.cons .nil)) ?_
  refine TextR.fieldAddr fo29_2 rfl rfl rfl ?_
  refine TextR.load1 tk27 rfl rfl ?_
  refine TextR.appendM eI ([] : List Int) a0.Need x2 (app_eq hx2) se27 rfl rfl rfl rfl (fun _ => rfl) rfl (app_len hx2) (.succ (.succ .zero)) ?_
  refine TextR.fieldAddr fo29_2 rfl rfl rfl ?_
  refine TextR.storeF (r' := [I y1.ID, I y1.Phase, .slv (y1.Sides.map eSide), I a0.Thirst, .sl 2 1 0 x2.length]) tk27 rfl rfl rfl rfl rfl rfl rfl .zero ?_
  refine TextR.done (.cons rfl (.cons rfl .nil)) ?_
  refine Wp.seq ?_
  refine Wp.text [2] rfl rfl ?_ -- region 3
  refine TextR.loadN (cs := [I y1.ID, I y1.Phase, .slv (y1.Sides.map eSide), I a0.Thirst, .sl 2 1 0 x2.length]) tk29 rfl rfl ?_
  refine TextR.store1 tk29 rfl rfl rfl rfl rfl rfl (.succ .zero) ?_
  refine TextR.done (.cons rfl .nil) ?_
  refine Wp.weak (keepW (live := [2] ) (.cons rfl .nil)) ?_
  refine Wp.weak (freezeW (h := 2) (ver := 1) (rows := x2.map eI) (e' := [(2, .c (.ptr 1 0 0 0))]) (H' := [.live 0 5 [[I y1.ID, I y1.Phase, .slv (y1.Sides.map eSide), I a0.Thirst, .slv (x2.map eI)]], .live 0 5 [[I y1.ID, I y1.Phase, .slv (y1.Sides.map eSide), I a0.Thirst, .slv (x2.map eI)]], .dead]) rfl (by first | rfl | simp [-List.map_set]) (by first | rfl | simp [-List.map_set])) ?_
  refine Wp.ret ?_
  obtain rfl := Option.some.inj h
  exact Ret.one rfl (resV_cellN tk29 rfl rfl) rfl
theorem c_narthexlaw15_Own (N : Nat) (a0 : TDrinker) (r : TDrinker) (h : narthexlaw15_Own N a0 = some r) (H : List Ob) : DCall Try.prog 13 [.agg (eDrinker a0)] H (.agg (eDrinker r)) := DCall.lift (by first | rfl | simp [-List.map_set]) (by first | rfl | simp [-List.map_set]) (fun _ => by simp [-List.map_set]) (w_narthexlaw15_Own N a0 r h) H
-- narthex/narthexref12.SameOne
theorem w_narthexref12_SameOne (N : Nat) (a0 : TDiner) (a1 : TDiner) (r : Bool) (h : narthexref12_SameOne N a0 a1 = some r) : Nx.Call Try.prog 34 [.agg (eDiner a0), .agg (eDiner a1)] [] fun r' _ => r' = .c (B r) := by
  refine Nx.Call.of_body Try.func34 rfl en34 Try.ntmps34 rfl (fun Γ hok => ?_)
  unfold narthexref12_SameOne at h
  refine Wp.seq ?_
  refine Wp.text [2, 3] rfl rfl ?_ -- region 0
  refine TextR.box (cs := [I a0.ID, I a0.Phase, .slv (a0.Sides.map eSide)]) 0 rfl rfl rfl rfl .nil ?_
  refine TextR.box (cs := [I a1.ID, I a1.Phase, .slv (a1.Sides.map eSide)]) 1 rfl rfl rfl rfl (.cons .nil) ?_
  refine TextR.assign rfl ?_
  refine TextR.done (.cons rfl (.cons rfl .nil)) ?_
  refine Wp.seq ?_
  refine Wp.seq ?_
  refine Wp.go false none [[], [], [], [], [], [], [(11, false)], [(11, false)], [(11, false)], [(11, false)], [(11, false)], [], [], [(18, false)], [(18, false)], [(18, false)], [(18, false)], [(18, false)], [(18, false)], [(18, false)], []] [] [2, 3, 26] mixed rfl rfl (by kernel_rfl) ?_ -- region 1
  refine RunR.fieldAddr fo25_0 rfl rfl rfl rfl rfl ?_
  refine RunR.load1 tk3 rfl rfl rfl rfl ?_
  refine RunR.fieldAddr fo25_0 rfl rfl rfl rfl rfl ?_
  refine RunR.load1 tk3 rfl rfl rfl rfl ?_
  refine RunR.int rfl rfl rfl rfl rfl ?_
  refine RunR.move rfl rfl rfl ?_
  refine RunR.fieldAddr fo25_1 rfl rfl rfl rfl rfl ?_
  refine RunR.load1 tk22 rfl rfl rfl rfl ?_
  refine RunR.fieldAddr fo25_1 rfl rfl rfl rfl rfl ?_
  refine RunR.load1 tk22 rfl rfl rfl rfl ?_
  refine RunR.int rfl rfl rfl rfl rfl ?_
  refine RunR.pickOr rfl rfl rfl rfl ?_
  refine RunR.move rfl rfl rfl ?_
  refine RunR.fieldAddr fo25_2 rfl rfl rfl rfl rfl ?_
  refine RunR.load1 tk23 rfl rfl rfl rfl ?_
  refine RunR.lenM us23 rfl rfl rfl rfl ?_
  refine RunR.fieldAddr fo25_2 rfl rfl rfl rfl rfl ?_
  refine RunR.load1 tk23 rfl rfl rfl rfl ?_
  refine RunR.lenM us23 rfl rfl rfl rfl ?_
  refine RunR.int rfl rfl rfl rfl rfl ?_
  refine RunR.pickOr rfl rfl rfl rfl ?_
  refine RunR.doneQ (.cons rfl (.cons rfl (.cons rfl .nil))) ?_
  refine Wp.condM h rfl (fun hc1 h => ?_) (fun hc1 h => ?_)
  · refine Wp.seq ?_
    refine Wp.text [4] rfl rfl ?_ -- region 2
    refine TextR.assign rfl ?_
    refine TextR.done (.cons rfl .nil) ?_
    refine Wp.ret ?_
    obtain rfl := Option.some.inj h
    exact Ret.one rfl (resV_tmp rfl) rfl
  · refine Wp.skip ?_
    refine Wp.seq ?_
    refine Wp.seq ?_
    refine Wp.text [2, 3, 5] rfl rfl ?_ -- region 3
    refine TextR.assign rfl ?_
    refine TextR.done (.cons rfl (.cons rfl (.cons rfl .nil))) ?_
    obtain ⟨z1, hz1, h⟩ := bind_some h
    refine Wp.fragR (fun S => ∃ z3, z1 = .inr z3 ∧ ∃ S', St.Weak ⟨Try.prog, 45, Γ⟩ S S' ∧ S' = ⟨[], []⟩) (fun S => ∃ v, z1 = .inl v ∧ Ret Try.prog Try.f34 (fun r' _ => r' = .c (B v)) .ret S) ?_ ?_ ?_
    · replace h := hz1
      refine Wp.block ?_
      refine Wp.weak (keepW (live := [2, 3, 5]) (.cons rfl (.cons rfl (.cons rfl .nil)))) ?_
      refine Wp.loop (fun m S => ∃ s5_1, narthexref12_SameOne_L1 N a0 a1 m s5_1 = some z1 ∧ S = ⟨[(2, .c (.ptr 0 0 0 0)), (3, .c (.ptr 1 0 0 0)), (5, .c (I s5_1))], [.live 0 3 [[I a0.ID, I a0.Phase, .slv (a0.Sides.map eSide)]], .live 0 3 [[I a1.ID, I a1.Phase, .slv (a1.Sides.map eSide)]]]⟩) N ⟨_, h, rfl⟩ ?_
      rintro m1 _ ⟨s5_1, h, rfl⟩
      cases m1 with
      | zero => rw [narthexref12_SameOne_L1.eq_1] at h; cases h
      | succ m1 =>
      rw [narthexref12_SameOne_L1.eq_2] at h
      refine Wp.seq ?_
      refine Wp.seq ?_
      refine Wp.text [2, 3, 5, 31] rfl rfl ?_ -- region 4
      refine TextR.move rfl ?_
      refine TextR.fieldAddr fo25_2 rfl rfl rfl ?_
      refine TextR.load1 tk23 rfl rfl ?_
      refine TextR.lenM us23 rfl rfl ?_
      refine TextR.int rfl rfl rfl ?_
      refine TextR.done (.cons rfl (.cons rfl (.cons rfl (.cons rfl .nil)))) ?_
      refine Wp.condM h rfl (fun hc3 h => ?_) (fun hc3 h => ?_)
      · refine Wp.skip ?_
        refine Wp.seq ?_
        refine Wp.block ?_
        refine Wp.seq ?_
        obtain ⟨x4, hx4, h⟩ := bind_some h
        obtain ⟨x5, hx5, h⟩ := bind_some h
        refine Wp.go true (some ⟨[], []⟩) [] [] [2, 3, 5, 44] mixed rfl rfl (by kernel_rfl) ?_ -- region 6
        refine RunR.fieldAddr fo25_2 rfl rfl rfl rfl rfl ?_
        refine RunR.load1 tk23 rfl rfl rfl rfl ?_
        refine RunR.move rfl rfl rfl ?_
        refine RunR.indexA se23 rfl rfl rfl rfl rfl hx4 rfl ?_
        refine RunR.loadNM tk53 rfl rfl rfl (at_get hx4) rfl ?_
        refine RunR.fieldAddr fo25_2 rfl rfl rfl rfl rfl ?_
        refine RunR.load1 tk23 rfl rfl rfl rfl ?_
        refine RunR.move rfl rfl rfl ?_
        refine RunR.indexA se23 rfl rfl rfl rfl rfl hx5 rfl ?_
        refine RunR.loadNM tk53 rfl rfl rfl (at_get hx5) rfl ?_
        refine RunR.neAgg eqs53 rfl rfl rfl rfl (q_Side x4 x5) ?_
        refine RunR.doneQ (.cons rfl (.cons rfl (.cons rfl (.cons rfl .nil)))) ?_
        refine Wp.condM h rfl (fun hc4 h => ?_) (fun hc4 h => ?_)
        · refine Wp.seq ?_
          refine Wp.text [4] rfl rfl ?_ -- region 7
          refine TextR.assign rfl ?_
          refine TextR.done (.cons rfl .nil) ?_
          refine Wp.ret ?_
          exact ⟨_, (Option.some.inj h).symm, Ret.one rfl (resV_tmp rfl) rfl⟩
        · refine Wp.skip ?_
          refine Wp.text [2, 3, 5] rfl rfl ?_ -- region 5
          refine TextR.move rfl ?_
          refine TextR.int rfl rfl rfl ?_
          refine TextR.assign rfl ?_
          refine TextR.done (.cons rfl (.cons rfl (.cons rfl .nil))) ?_
          exact ⟨m1, Nat.lt_succ_self _, _, (keepW (live := [2, 3, 5]) (.cons rfl (.cons rfl (.cons rfl .nil)))), _, h, rfl⟩
      · refine Wp.exit ?_
        exact ⟨_, (Option.some.inj h).symm, _, (St.Weak.trans (keepW (live := []) .nil) (pickT (e' := []) (H' := []) [] [0, 0] 0 hok.len.symm rfl rfl (by decide) (by first | rfl | simp [-List.map_set]) (by first | rfl | simp [-List.map_set]) (by first | rfl | simp [-List.map_set]) (by first | rfl | simp [-List.map_set]))), rfl⟩
    · rintro _ ⟨z3, rfl, _, hw, rfl⟩
      dsimp only at h
      clear hz1
      refine Wp.weak hw ?_
      refine Wp.seq ?_
      refine Wp.text [4] rfl rfl ?_ -- region 8
      refine TextR.assign rfl ?_
      refine TextR.done (.cons rfl .nil) ?_
      refine Wp.ret ?_
      obtain rfl := Option.some.inj h
      exact Ret.one rfl (resV_tmp rfl) rfl
    · rintro S' ⟨r2, rfl, hR⟩
      dsimp only at h
      obtain rfl := Option.some.inj h
      exact hR
theorem c_narthexref12_SameOne (N : Nat) (a0 : TDiner) (a1 : TDiner) (r : Bool) (h : narthexref12_SameOne N a0 a1 = some r) (H : List Ob) : DCall Try.prog 34 [.agg (eDiner a0), .agg (eDiner a1)] H (.c (B r)) := DCall.lift (by first | rfl | simp [-List.map_set]) (by first | rfl | simp [-List.map_set]) (fun _ => by simp [-List.map_set]) (w_narthexref12_SameOne N a0 a1 r h) H
-- narthex/narthexref01.Same
theorem w_narthexref01_Same (N : Nat) (a0 : List Int) (a1 : List Int) (r : Bool) (h : narthexref01_Same N a0 a1 = some r) : Nx.Call Try.prog 28 [.c (.slv (a0.map eI)), .c (.slv (a1.map eI))] [] fun r' _ => r' = .c (B r) := by
  refine Nx.Call.of_body Try.func28 rfl en28 Try.ntmps28 rfl (fun Γ hok => ?_)
  unfold narthexref01_Same at h
  refine Wp.seq ?_
  refine Wp.text [0, 1] rfl rfl ?_ -- region 0
  refine TextR.assign rfl ?_
  refine TextR.done (.cons rfl (.cons rfl .nil)) ?_
  refine Wp.seq ?_
  refine Wp.seq ?_
  refine Wp.text [0, 1, 10] rfl rfl ?_ -- region 1
  refine TextR.move rfl ?_
  refine TextR.lenM us27 rfl rfl ?_
  refine TextR.move rfl ?_
  refine TextR.lenM us27 rfl rfl ?_
  refine TextR.int rfl rfl rfl ?_
  refine TextR.done (.cons rfl (.cons rfl (.cons rfl .nil))) ?_
  refine Wp.condM h rfl (fun hc1 h => ?_) (fun hc1 h => ?_)
  · refine Wp.seq ?_
    refine Wp.text [4] rfl rfl ?_ -- region 2
    refine TextR.assign rfl ?_
    refine TextR.done (.cons rfl .nil) ?_
    refine Wp.ret ?_
    obtain rfl := Option.some.inj h
    exact Ret.one rfl (resV_tmp rfl) rfl
  · refine Wp.skip ?_
    refine Wp.seq ?_
    refine Wp.seq ?_
    refine Wp.text [0, 1, 5] rfl rfl ?_ -- region 3
    refine TextR.assign rfl ?_
    refine TextR.done (.cons rfl (.cons rfl (.cons rfl .nil))) ?_
    obtain ⟨z1, hz1, h⟩ := bind_some h
    refine Wp.fragR (fun S => ∃ z3, z1 = .inr z3 ∧ ∃ S', St.Weak ⟨Try.prog, 26, Γ⟩ S S' ∧ S' = ⟨[], []⟩) (fun S => ∃ v, z1 = .inl v ∧ Ret Try.prog Try.f28 (fun r' _ => r' = .c (B v)) .ret S) ?_ ?_ ?_
    · replace h := hz1
      refine Wp.block ?_
      refine Wp.weak (keepW (live := [0, 1, 5]) (.cons rfl (.cons rfl (.cons rfl .nil)))) ?_
      refine Wp.loop (fun m S => ∃ s5_1, narthexref01_Same_L1 N a0 a1 m s5_1 = some z1 ∧ S = ⟨[(0, .c (.slv (a0.map eI))), (1, .c (.slv (a1.map eI))), (5, .c (I s5_1))], []⟩) N ⟨_, h, rfl⟩ ?_
      rintro m1 _ ⟨s5_1, h, rfl⟩
      cases m1 with
      | zero => rw [narthexref01_Same_L1.eq_1] at h; cases h
      | succ m1 =>
      rw [narthexref01_Same_L1.eq_2] at h
      refine Wp.seq ?_
      refine Wp.seq ?_
      refine Wp.text [0, 1, 5, 14] rfl rfl ?_ -- region 4
      refine TextR.move rfl ?_
      refine TextR.move rfl ?_
      refine TextR.lenM us27 rfl rfl ?_
      refine TextR.int rfl rfl rfl ?_
      refine TextR.done (.cons rfl (.cons rfl (.cons rfl (.cons rfl .nil)))) ?_
      refine Wp.condM h rfl (fun hc3 h => ?_) (fun hc3 h => ?_)
      · refine Wp.skip ?_
        refine Wp.seq ?_
        refine Wp.block ?_
        refine Wp.seq ?_
        obtain ⟨x4, hx4, h⟩ := bind_some h
        obtain ⟨x5, hx5, h⟩ := bind_some h
        refine Wp.go true (some ⟨[], []⟩) [] [] [0, 1, 5, 25] mixed rfl rfl (by kernel_rfl) ?_ -- region 6
        refine RunR.move rfl rfl rfl ?_
        refine RunR.move rfl rfl rfl ?_
        refine RunR.indexA se27 rfl rfl rfl rfl rfl hx4 rfl ?_
        refine RunR.load1M tk3 rfl rfl rfl (at_get hx4) rfl ?_
        refine RunR.move rfl rfl rfl ?_
        refine RunR.move rfl rfl rfl ?_
        refine RunR.indexA se27 rfl rfl rfl rfl rfl hx5 rfl ?_
        refine RunR.load1M tk3 rfl rfl rfl (at_get hx5) rfl ?_
        refine RunR.int rfl rfl rfl rfl rfl ?_
        refine RunR.doneQ (.cons rfl (.cons rfl (.cons rfl (.cons rfl .nil)))) ?_
        refine Wp.condM h rfl (fun hc4 h => ?_) (fun hc4 h => ?_)
        · refine Wp.seq ?_
          refine Wp.text [4] rfl rfl ?_ -- region 7
          refine TextR.assign rfl ?_
          refine TextR.done (.cons rfl .nil) ?_
          refine Wp.ret ?_
          exact ⟨_, (Option.some.inj h).symm, Ret.one rfl (resV_tmp rfl) rfl⟩
        · refine Wp.skip ?_
          refine Wp.text [0, 1, 5] rfl rfl ?_ -- region 5
          refine TextR.move rfl ?_
          refine TextR.int rfl rfl rfl ?_
          refine TextR.assign rfl ?_
          refine TextR.done (.cons rfl (.cons rfl (.cons rfl .nil))) ?_
          exact ⟨m1, Nat.lt_succ_self _, _, (keepW (live := [0, 1, 5]) (.cons rfl (.cons rfl (.cons rfl .nil)))), _, h, rfl⟩
      · refine Wp.exit ?_
        exact ⟨_, (Option.some.inj h).symm, _, (keepW (live := []) .nil), rfl⟩
    · rintro _ ⟨z3, rfl, _, hw, rfl⟩
      dsimp only at h
      clear hz1
      refine Wp.weak hw ?_
      refine Wp.seq ?_
      refine Wp.text [4] rfl rfl ?_ -- region 8
      refine TextR.assign rfl ?_
      refine TextR.done (.cons rfl .nil) ?_
      refine Wp.ret ?_
      obtain rfl := Option.some.inj h
      exact Ret.one rfl (resV_tmp rfl) rfl
    · rintro S' ⟨r2, rfl, hR⟩
      dsimp only at h
      obtain rfl := Option.some.inj h
      exact hR
theorem c_narthexref01_Same (N : Nat) (a0 : List Int) (a1 : List Int) (r : Bool) (h : narthexref01_Same N a0 a1 = some r) (H : List Ob) : DCall Try.prog 28 [.c (.slv (a0.map eI)), .c (.slv (a1.map eI))] H (.c (B r)) := DCall.lift (by first | rfl | simp [-List.map_set]) (by first | rfl | simp [-List.map_set]) (fun _ => by simp [-List.map_set]) (w_narthexref01_Same N a0 a1 r h) H
-- narthex/narthexref15.Same
theorem w_narthexref15_Same (N : Nat) (a0 : TDrinker) (a1 : TDrinker) (r : Bool) (h : narthexref15_Same N a0 a1 = some r) : Nx.Call Try.prog 15 [.agg (eDrinker a0), .agg (eDrinker a1)] [] fun r' _ => r' = .c (B r) := by
  refine Nx.Call.of_body Try.func15 rfl en15 Try.ntmps15 rfl (fun Γ hok => ?_)
  unfold narthexref15_Same at h
  refine Wp.seq ?_
  refine Wp.text [2, 3] rfl rfl ?_ -- region 0
  refine TextR.box (cs := [I a0.Diner.ID, I a0.Diner.Phase, .slv (a0.Diner.Sides.map eSide), I a0.Thirst, .slv (a0.Need.map eI)]) 0 rfl rfl rfl rfl .nil ?_
  refine TextR.box (cs := [I a1.Diner.ID, I a1.Diner.Phase, .slv (a1.Diner.Sides.map eSide), I a1.Thirst, .slv (a1.Need.map eI)]) 1 rfl rfl rfl rfl (.cons .nil) ?_
  refine TextR.assign rfl ?_
  refine TextR.done (.cons rfl (.cons rfl .nil)) ?_
  refine Wp.seq ?_
  obtain ⟨y1, hy1, h⟩ := bind_some h
  obtain ⟨y2, hy2, h⟩ := bind_some h
  refine Wp.go false none [[], [], [], [], [], [], [(10, true)], [(10, true)], [(10, true)], [(10, true)], [(10, true)], [], [], [(17, true)], [(17, true)], [(17, true)], [(17, true)], [(17, true)], [], []] [] [4] mixed rfl rfl (by kernel_rfl) ?_ -- region 1
  refine RunR.fieldAddr fo29_0 rfl rfl rfl rfl rfl ?_
  refine RunR.loadN (cs := [I a0.Diner.ID, I a0.Diner.Phase, .slv (a0.Diner.Sides.map eSide)]) tk25 rfl rfl rfl rfl ?_
  refine RunR.fieldAddr fo29_0 rfl rfl rfl rfl rfl ?_
  refine RunR.loadN (cs := [I a1.Diner.ID, I a1.Diner.Phase, .slv (a1.Diner.Sides.map eSide)]) tk25 rfl rfl rfl rfl ?_
  refine RunR.call rfl rfl rfl (fun H => c_narthexref12_SameOne N a0.Diner a1.Diner y1 hy1 H) ?_
  refine RunR.move rfl rfl rfl ?_
  refine RunR.fieldAddr fo29_1 rfl rfl rfl rfl rfl ?_
  refine RunR.load1 tk26 rfl rfl rfl rfl ?_
  refine RunR.fieldAddr fo29_1 rfl rfl rfl rfl rfl ?_
  refine RunR.load1 tk26 rfl rfl rfl rfl ?_
  refine RunR.int rfl rfl rfl rfl rfl ?_
  refine RunR.pickAnd rfl rfl rfl rfl ?_
  refine RunR.move rfl rfl rfl ?_
  refine RunR.fieldAddr fo29_2 rfl rfl rfl rfl rfl ?_
  refine RunR.load1 tk27 rfl rfl rfl rfl ?_
  refine RunR.fieldAddr fo29_2 rfl rfl rfl rfl rfl ?_
  refine RunR.load1 tk27 rfl rfl rfl rfl ?_
  refine RunR.callG rfl rfl rfl (fun hb H => c_narthexref01_Same N a0.Need a1.Need y2 (ifT hy2 gT hb) H) ?_
  refine RunR.pickAnd rfl rfl rfl rfl ?_
  refine RunR.assign rfl rfl rfl ?_
  refine RunR.doneQ (.cons rfl .nil) ?_
  refine Wp.ret ?_
  obtain rfl := Option.some.inj h
  exact Ret.one rfl (resV_tmp rfl) rfl
theorem c_narthexref15_Same (N : Nat) (a0 : TDrinker) (a1 : TDrinker) (r : Bool) (h : narthexref15_Same N a0 a1 = some r) (H : List Ob) : DCall Try.prog 15 [.agg (eDrinker a0), .agg (eDrinker a1)] H (.c (B r)) := DCall.lift (by first | rfl | simp [-List.map_set]) (by first | rfl | simp [-List.map_set]) (fun _ => by simp [-List.map_set]) (w_narthexref15_Same N a0 a1 r h) H
-- narthex/narthexref13.Check
theorem w_narthexref13_Check (N : Nat) (a0 : TDiner) (r : Bool) (h : narthexref13_Check N a0 = some r) : Nx.Call Try.prog 35 [.agg (eDiner a0)] [] fun r' _ => r' = .c (B r) := by
  refine Nx.Call.of_body Try.func35 rfl en35 Try.ntmps35 rfl (fun Γ hok => ?_)
  unfold narthexref13_Check at h
  refine Wp.seq ?_
  refine Wp.text [1] rfl rfl ?_ -- region 0
  refine TextR.box (cs := [I a0.ID, I a0.Phase, .slv (a0.Sides.map eSide)]) 0 rfl rfl rfl rfl .nil ?_
  refine TextR.assign rfl ?_
  refine TextR.done (.cons rfl .nil) ?_
  refine Wp.seq ?_
  refine Wp.seq ?_
  refine Wp.go false none [[], [], [], [], [(8, false)], [(8, false)], [(8, false)], [(8, false)], [(12, true), (8, false)], [(12, true), (8, false)], [(12, true), (8, false)], [(8, false)], [(8, false)], [(17, true), (8, false)], [(17, true), (8, false)], [(17, true), (8, false)], [(8, false)], [], [], [(23, false)], [(23, false)], [(23, false)], [(23, false)], []] [] [1, 28] mixed rfl rfl (by kernel_rfl) ?_ -- region 1
  refine RunR.fieldAddr fo25_0 rfl rfl rfl rfl rfl ?_
  refine RunR.load1 tk3 rfl rfl rfl rfl ?_
  refine RunR.int rfl rfl rfl rfl rfl ?_
  refine RunR.move rfl rfl rfl ?_
  refine RunR.fieldAddr fo25_1 rfl rfl rfl rfl rfl ?_
  refine RunR.load1 tk22 rfl rfl rfl rfl ?_
  refine RunR.int rfl rfl rfl rfl rfl ?_
  refine RunR.move rfl rfl rfl ?_
  refine RunR.fieldAddr fo25_1 rfl rfl rfl rfl rfl ?_
  refine RunR.load1 tk22 rfl rfl rfl rfl ?_
  refine RunR.int rfl rfl rfl rfl rfl ?_
  refine RunR.pickAnd rfl rfl rfl rfl ?_
  refine RunR.move rfl rfl rfl ?_
  refine RunR.fieldAddr fo25_1 rfl rfl rfl rfl rfl ?_
  refine RunR.load1 tk22 rfl rfl rfl rfl ?_
  refine RunR.int rfl rfl rfl rfl rfl ?_
  refine RunR.pickAnd rfl rfl rfl rfl ?_
  refine RunR.pickOr rfl rfl rfl rfl ?_
  refine RunR.move rfl rfl rfl ?_
  refine RunR.fieldAddr fo25_2 rfl rfl rfl rfl rfl ?_
  refine RunR.load1 tk23 rfl rfl rfl rfl ?_
  refine RunR.lenM us23 rfl rfl rfl rfl ?_
  refine RunR.int rfl rfl rfl rfl rfl ?_
  refine RunR.pickOr rfl rfl rfl rfl ?_
  refine RunR.doneQ (.cons rfl (.cons rfl .nil)) ?_
  refine Wp.condM h rfl (fun hc1 h => ?_) (fun hc1 h => ?_)
  · refine Wp.seq ?_
    refine Wp.text [2] rfl rfl ?_ -- region 2
    refine TextR.assign rfl ?_
    refine TextR.done (.cons rfl .nil) ?_
    refine Wp.ret ?_
    obtain rfl := Option.some.inj h
    exact Ret.one rfl (resV_tmp rfl) rfl
  · refine Wp.skip ?_
    refine Wp.seq ?_
    refine Wp.seq ?_
    refine Wp.text [1, 3] rfl rfl ?_ -- region 3
    refine TextR.assign rfl ?_
    refine TextR.done (.cons rfl (.cons rfl .nil)) ?_
    obtain ⟨z1, hz1, h⟩ := bind_some h
    refine Wp.fragR (fun S => ∃ z3, z1 = .inr z3 ∧ ∃ S', St.Weak ⟨Try.prog, 96, Γ⟩ S S' ∧ S' = ⟨[], []⟩) (fun S => ∃ v, z1 = .inl v ∧ Ret Try.prog Try.f35 (fun r' _ => r' = .c (B v)) .ret S) ?_ ?_ ?_
    · replace h := hz1
      refine Wp.block ?_
      refine Wp.weak (keepW (live := [1, 3]) (.cons rfl (.cons rfl .nil))) ?_
      refine Wp.loop (fun m S => ∃ s3_1, narthexref13_Check_L1 N a0 m s3_1 = some z1 ∧ S = ⟨[(1, .c (.ptr 0 0 0 0)), (3, .c (I s3_1))], [.live 0 3 [[I a0.ID, I a0.Phase, .slv (a0.Sides.map eSide)]]]⟩) N ⟨_, h, rfl⟩ ?_
      rintro m1 _ ⟨s3_1, h, rfl⟩
      cases m1 with
      | zero => rw [narthexref13_Check_L1.eq_1] at h; cases h
      | succ m1 =>
      rw [narthexref13_Check_L1.eq_2] at h
      refine Wp.seq ?_
      refine Wp.seq ?_
      refine Wp.text [1, 3, 33] rfl rfl ?_ -- region 4
      refine TextR.move rfl ?_
      refine TextR.fieldAddr fo25_2 rfl rfl rfl ?_
      refine TextR.load1 tk23 rfl rfl ?_
      refine TextR.lenM us23 rfl rfl ?_
      refine TextR.int rfl rfl rfl ?_
      refine TextR.done (.cons rfl (.cons rfl (.cons rfl .nil))) ?_
      refine Wp.condM h rfl (fun hc3 h => ?_) (fun hc3 h => ?_)
      · refine Wp.skip ?_
        refine Wp.seq ?_
        refine Wp.block ?_
        refine Wp.seq ?_
        obtain ⟨x4, hx4, h⟩ := bind_some h
        refine Wp.text [1, 3, 4] rfl rfl ?_ -- region 6
        refine TextR.fieldAddr fo25_2 rfl rfl rfl ?_
        refine TextR.load1 tk23 rfl rfl ?_
        refine TextR.move rfl ?_
        refine TextR.indexA se23 rfl rfl rfl hx4 rfl ?_
        refine TextR.loadNM tk53 rfl (at_get hx4) rfl ?_
        refine TextR.alloc 1 zc53 rfl rfl (.cons .nil) ?_
        refine TextR.store1 tk53 rfl rfl rfl rfl rfl rfl (.succ .zero) ?_
        refine TextR.done (.cons rfl (.cons rfl (.cons rfl .nil))) ?_
        refine Wp.seq ?_
        obtain ⟨x5, hx5, h⟩ := bind_some h
        refine Wp.go true (some ⟨[], []⟩) [[], [], [], [], [(44, false)], [(44, false)], [(44, false)], [(44, false)], [(44, false)], [], [], [(51, false)], [(51, false)], [(51, false)], [(54, true), (51, false)], [(54, true), (51, false)], [(54, true), (51, false)], [(54, true), (51, false)], [(54, true), (51, false)], [(54, true), (51, false)], [(54, true), (51, false)], [(54, true), (51, false)], [(54, true), (51, false)], [(54, true), (51, false)], [(51, false)], [], [], [(67, false)], [(67, false)], [(67, false)], [], [], [(72, false)], [(72, false)], [(72, false)], [], [], [(77, false)], [(77, false)], [(77, false)], [], [], [(82, false)], [(82, false)], [(82, false)], [], [], [(87, false)], [(87, false)], [(87, false)], [(90, true), (87, false)], [(90, true), (87, false)], [(90, true), (87, false)], [(87, false)], []] [] [1, 3, 95] mixed rfl rfl (by kernel_rfl) ?_ -- region 7
        refine RunR.fieldAddr fo53_0 rfl rfl rfl rfl rfl ?_
        refine RunR.load1 tk3 rfl rfl rfl rfl ?_
        refine RunR.int rfl rfl rfl rfl rfl ?_
        refine RunR.move rfl rfl rfl ?_
        refine RunR.fieldAddr fo53_0 rfl rfl rfl rfl rfl ?_
        refine RunR.load1 tk3 rfl rfl rfl rfl ?_
        refine RunR.fieldAddr fo25_0 rfl rfl rfl rfl rfl ?_
        refine RunR.load1 tk3 rfl rfl rfl rfl ?_
        refine RunR.int rfl rfl rfl rfl rfl ?_
        refine RunR.pickOr rfl rfl rfl rfl ?_
        refine RunR.move rfl rfl rfl ?_
        refine RunR.move rfl rfl rfl ?_
        refine RunR.int rfl rfl rfl rfl rfl ?_
        refine RunR.move rfl rfl rfl ?_
        refine RunR.fieldAddr fo25_2 rfl rfl rfl rfl rfl ?_
        refine RunR.load1 tk23 rfl rfl rfl rfl ?_
        refine RunR.move rfl rfl rfl ?_
        refine RunR.int rfl rfl rfl rfl rfl ?_
        refine RunR.indexAG se23 rfl rfl rfl rfl rfl (ifPos hx5 (fun hb => (gAnd (gF (gN hb)) (gT hb)))) (ifAt hx5 (fun hb => (gAnd (gF (gN hb)) (gT hb)))) rfl ?_
        refine RunR.fieldAddr fo53_0 rfl rfl rfl rfl rfl ?_
        refine RunR.load1G tk3 rfl rfl rfl (ifAt hx5 (fun hb => (gAnd (gF (gN hb)) (gT hb)))) rfl ?_
        refine RunR.fieldAddr fo53_0 rfl rfl rfl rfl rfl ?_
        refine RunR.load1 tk3 rfl rfl rfl rfl ?_
        refine RunR.int rfl rfl rfl rfl rfl ?_
        refine RunR.pickAnd rfl rfl rfl rfl ?_
        refine RunR.pickOr rfl rfl rfl rfl ?_
        refine RunR.move rfl rfl rfl ?_
        refine RunR.fieldAddr fo53_1 rfl rfl rfl rfl rfl ?_
        refine RunR.load1 tk3 rfl rfl rfl rfl ?_
        refine RunR.int rfl rfl rfl rfl rfl ?_
        refine RunR.pickOr rfl rfl rfl rfl ?_
        refine RunR.move rfl rfl rfl ?_
        refine RunR.fieldAddr fo53_1 rfl rfl rfl rfl rfl ?_
        refine RunR.load1 tk3 rfl rfl rfl rfl ?_
        refine RunR.int rfl rfl rfl rfl rfl ?_
        refine RunR.pickOr rfl rfl rfl rfl ?_
        refine RunR.move rfl rfl rfl ?_
        refine RunR.fieldAddr fo53_2 rfl rfl rfl rfl rfl ?_
        refine RunR.load1 tk51 rfl rfl rfl rfl ?_
        refine RunR.int rfl rfl rfl rfl rfl ?_
        refine RunR.pickOr rfl rfl rfl rfl ?_
        refine RunR.move rfl rfl rfl ?_
        refine RunR.fieldAddr fo53_2 rfl rfl rfl rfl rfl ?_
        refine RunR.load1 tk51 rfl rfl rfl rfl ?_
        refine RunR.int rfl rfl rfl rfl rfl ?_
        refine RunR.pickOr rfl rfl rfl rfl ?_
        refine RunR.move rfl rfl rfl ?_
        refine RunR.fieldAddr fo53_4 rfl rfl rfl rfl rfl ?_
        refine RunR.load1 tk4 rfl rfl rfl rfl ?_
        refine RunR.move rfl rfl rfl ?_
        refine RunR.fieldAddr fo53_3 rfl rfl rfl rfl rfl ?_
        refine RunR.load1 tk4 rfl rfl rfl rfl ?_
        refine RunR.not rfl rfl rfl ?_
        refine RunR.pickAnd rfl rfl rfl rfl ?_
        refine RunR.pickOr rfl rfl rfl rfl ?_
        refine RunR.doneQ (.cons rfl (.cons rfl (.cons rfl .nil))) ?_
        refine Wp.condM h rfl (fun hc4 h => ?_) (fun hc4 h => ?_)
        · refine Wp.seq ?_
          refine Wp.text [2] rfl rfl ?_ -- region 8
          refine TextR.assign rfl ?_
          refine TextR.done (.cons rfl .nil) ?_
          refine Wp.ret ?_
          exact ⟨_, (Option.some.inj h).symm, Ret.one rfl (resV_tmp rfl) rfl⟩
        · refine Wp.skip ?_
          refine Wp.text [1, 3] rfl rfl ?_ -- region 5
          refine TextR.move rfl ?_
          refine TextR.int rfl rfl rfl ?_
          refine TextR.assign rfl ?_
          refine TextR.done (.cons rfl (.cons rfl .nil)) ?_
          exact ⟨m1, Nat.lt_succ_self _, _, (St.Weak.trans (keepW (live := [1, 3]) (.cons rfl (.cons rfl .nil))) (pickT (e' := [(1, .c (.ptr 0 0 0 0)), (3, .c (I (w64 (s3_1 + 1))))]) (H' := [.live 0 3 [[I a0.ID, I a0.Phase, .slv (a0.Sides.map eSide)]]]) [0] [0, 0] 0 hok.len.symm rfl rfl (by decide) (by first | rfl | simp [-List.map_set]) (by first | rfl | simp [-List.map_set]) (by first | rfl | simp [-List.map_set]) (by first | rfl | simp [-List.map_set]))), _, h, rfl⟩
      · refine Wp.exit ?_
        exact ⟨_, (Option.some.inj h).symm, _, (St.Weak.trans (keepW (live := []) .nil) (pickT (e' := []) (H' := []) [] [0] 0 hok.len.symm rfl rfl (by decide) (by first | rfl | simp [-List.map_set]) (by first | rfl | simp [-List.map_set]) (by first | rfl | simp [-List.map_set]) (by first | rfl | simp [-List.map_set]))), rfl⟩
    · rintro _ ⟨z3, rfl, _, hw, rfl⟩
      dsimp only at h
      clear hz1
      refine Wp.weak hw ?_
      refine Wp.seq ?_
      refine Wp.text [2] rfl rfl ?_ -- region 9
      refine TextR.assign rfl ?_
      refine TextR.done (.cons rfl .nil) ?_
      refine Wp.ret ?_
      obtain rfl := Option.some.inj h
      exact Ret.one rfl (resV_tmp rfl) rfl
    · rintro S' ⟨r2, rfl, hR⟩
      dsimp only at h
      obtain rfl := Option.some.inj h
      exact hR
theorem c_narthexref13_Check (N : Nat) (a0 : TDiner) (r : Bool) (h : narthexref13_Check N a0 = some r) (H : List Ob) : DCall Try.prog 35 [.agg (eDiner a0)] H (.c (B r)) := DCall.lift (by first | rfl | simp [-List.map_set]) (by first | rfl | simp [-List.map_set]) (fun _ => by simp [-List.map_set]) (w_narthexref13_Check N a0 r h) H
-- narthex/narthexref15.side
theorem w_narthexref15_side (N : Nat) (a0 : TDrinker) (a1 : Int) (r : Int) (h : narthexref15_side N a0 a1 = some r) : Nx.Call Try.prog 36 [.agg (eDrinker a0), .c (I a1)] [] fun r' _ => r' = .c (I r) := by
  refine Nx.Call.of_body Try.func36 rfl en36 Try.ntmps36 rfl (fun Γ hok => ?_)
  unfold narthexref15_side at h
  refine Wp.seq ?_
  refine Wp.text [1, 2] rfl rfl ?_ -- region 0
  refine TextR.box (cs := [I a0.Diner.ID, I a0.Diner.Phase, .slv (a0.Diner.Sides.map eSide), I a0.Thirst, .slv (a0.Need.map eI)]) 0 rfl rfl rfl rfl .nil ?_
  refine TextR.assign rfl ?_
  refine TextR.done (.cons rfl (.cons rfl .nil)) ?_
  refine Wp.seq ?_
  refine Wp.seq ?_
  refine Wp.text [1, 2, 5] rfl rfl ?_ -- region 1
  refine TextR.assign rfl ?_
  refine TextR.done (.cons rfl (.cons rfl (.cons rfl .nil))) ?_
  obtain ⟨z1, hz1, h⟩ := bind_some h
  refine Wp.fragR (fun S => ∃ z3, z1 = .inr z3 ∧ ∃ S', St.Weak ⟨Try.prog, 24, Γ⟩ S S' ∧ S' = ⟨[], []⟩) (fun S => ∃ v, z1 = .inl v ∧ Ret Try.prog Try.f36 (fun r' _ => r' = .c (I v)) .ret S) ?_ ?_ ?_
  · replace h := hz1
    refine Wp.block ?_
    refine Wp.weak (keepW (live := [1, 2, 5]) (.cons rfl (.cons rfl (.cons rfl .nil)))) ?_
    refine Wp.loop (fun m S => ∃ s5_1, narthexref15_side_L1 N a0 a1 m s5_1 = some z1 ∧ S = ⟨[(1, .c (I a1)), (2, .c (.ptr 0 0 0 0)), (5, .c (I s5_1))], [.live 0 5 [[I a0.Diner.ID, I a0.Diner.Phase, .slv (a0.Diner.Sides.map eSide), I a0.Thirst, .slv (a0.Need.map eI)]]]⟩) N ⟨_, h, rfl⟩ ?_
    rintro m1 _ ⟨s5_1, h, rfl⟩
    cases m1 with
    | zero => rw [narthexref15_side_L1.eq_1] at h; cases h
    | succ m1 =>
    rw [narthexref15_side_L1.eq_2] at h
    refine Wp.seq ?_
    refine Wp.seq ?_
    refine Wp.text [1, 2, 5, 11] rfl rfl ?_ -- region 2
    refine TextR.move rfl ?_
    refine TextR.fieldAddr fo29_0 rfl rfl rfl ?_
    refine TextR.fieldAddr fo25_2 rfl rfl rfl ?_
    refine TextR.load1 tk23 rfl rfl ?_
    refine TextR.lenM us23 rfl rfl ?_
    refine TextR.int rfl rfl rfl ?_
    refine TextR.done (.cons rfl (.cons rfl (.cons rfl (.cons rfl .nil)))) ?_
    refine Wp.condM h rfl (fun hc2 h => ?_) (fun hc2 h => ?_)
    · refine Wp.skip ?_
      refine Wp.seq ?_
      refine Wp.block ?_
      refine Wp.seq ?_
      obtain ⟨x4, hx4, h⟩ := bind_some h
      refine Wp.text [1, 2, 5, 22] rfl rfl ?_ -- region 4
      refine TextR.fieldAddr fo29_0 rfl rfl rfl ?_
      refine TextR.fieldAddr fo25_2 rfl rfl rfl ?_
      refine TextR.load1 tk23 rfl rfl ?_
      refine TextR.move rfl ?_
      refine TextR.indexA se23 rfl rfl rfl hx4 rfl ?_
      refine TextR.fieldAddr fo53_0 rfl rfl rfl ?_
      refine TextR.load1M tk3 rfl (at_get hx4) rfl ?_
      refine TextR.move rfl ?_
      refine TextR.int rfl rfl rfl ?_
      refine TextR.done (.cons rfl (.cons rfl (.cons rfl (.cons rfl .nil)))) ?_
      refine Wp.condM h rfl (fun hc3 h => ?_) (fun hc3 h => ?_)
      · refine Wp.seq ?_
        refine Wp.text [4] rfl rfl ?_ -- region 5
        refine TextR.move rfl ?_
        refine TextR.assign rfl ?_
        refine TextR.done (.cons rfl .nil) ?_
        refine Wp.ret ?_
        exact ⟨_, (Option.some.inj h).symm, Ret.one rfl (resV_tmp rfl) rfl⟩
      · refine Wp.skip ?_
        refine Wp.text [1, 2, 5] rfl rfl ?_ -- region 3
        refine TextR.move rfl ?_
        refine TextR.int rfl rfl rfl ?_
        refine TextR.assign rfl ?_
        refine TextR.done (.cons rfl (.cons rfl (.cons rfl .nil))) ?_
        exact ⟨m1, Nat.lt_succ_self _, _, (keepW (live := [1, 2, 5]) (.cons rfl (.cons rfl (.cons rfl .nil)))), _, h, rfl⟩
    · refine Wp.exit ?_
      exact ⟨_, (Option.some.inj h).symm, _, (St.Weak.trans (keepW (live := []) .nil) (pickT (e' := []) (H' := []) [] [0] 0 hok.len.symm rfl rfl (by decide) (by first | rfl | simp [-List.map_set]) (by first | rfl | simp [-List.map_set]) (by first | rfl | simp [-List.map_set]) (by first | rfl | simp [-List.map_set]))), rfl⟩
  · rintro _ ⟨z3, rfl, _, hw, rfl⟩
    dsimp only at h
    clear hz1
    refine Wp.weak hw ?_
    refine Wp.seq ?_
    refine Wp.text [4] rfl rfl ?_ -- region 6
    refine TextR.assign rfl ?_
    refine TextR.done (.cons rfl .nil) ?_
    refine Wp.ret ?_
    obtain rfl := Option.some.inj h
    exact Ret.one rfl (resV_tmp rfl) rfl
  · rintro S' ⟨r2, rfl, hR⟩
    dsimp only at h
    obtain rfl := Option.some.inj h
    exact hR
theorem c_narthexref15_side (N : Nat) (a0 : TDrinker) (a1 : Int) (r : Int) (h : narthexref15_side N a0 a1 = some r) (H : List Ob) : DCall Try.prog 36 [.agg (eDrinker a0), .c (I a1)] H (.c (I r)) := DCall.lift (by first | rfl | simp [-List.map_set]) (by first | rfl | simp [-List.map_set]) (fun _ => by simp [-List.map_set]) (w_narthexref15_side N a0 a1 r h) H
-- narthex/narthexref15.Check
theorem w_narthexref15_Check (N : Nat) (a0 : TDrinker) (r : Bool) (h : narthexref15_Check N a0 = some r) : Nx.Call Try.prog 16 [.agg (eDrinker a0)] [] fun r' _ => r' = .c (B r) := by
  refine Nx.Call.of_body Try.func16 rfl en16 Try.ntmps16 rfl (fun Γ hok => ?_)
  unfold narthexref15_Check at h
  refine Wp.seq ?_
  refine Wp.text [1] rfl rfl ?_ -- region 0
  refine TextR.box (cs := [I a0.Diner.ID, I a0.Diner.Phase, .slv (a0.Diner.Sides.map eSide), I a0.Thirst, .slv (a0.Need.map eI)]) 0 rfl rfl rfl rfl .nil ?_
  refine TextR.assign rfl ?_
  refine TextR.done (.cons rfl .nil) ?_
  refine Wp.seq ?_
  refine Wp.seq ?_
  obtain ⟨y1, hy1, h⟩ := bind_some h
  refine Wp.go false none [[], [], [], [], [], [(8, false)], [(8, false)], [(8, false)], [], [], [(13, false)], [(13, false)], [(13, false)], [], [], [(18, false)], [(18, false)], [(18, false)], [(18, false)], [(22, true), (18, false)], [(22, true), (18, false)], [(22, true), (18, false)], [(22, true), (18, false)], [(18, false)], []] [] [1, 28] mixed rfl rfl (by kernel_rfl) ?_ -- region 1
  refine RunR.fieldAddr fo29_0 rfl rfl rfl rfl rfl ?_
  refine RunR.loadN (cs := [I a0.Diner.ID, I a0.Diner.Phase, .slv (a0.Diner.Sides.map eSide)]) tk25 rfl rfl rfl rfl ?_
  refine RunR.call rfl rfl rfl (fun H => c_narthexref13_Check N a0.Diner y1 hy1 H) ?_
  refine RunR.not rfl rfl rfl ?_
  refine RunR.move rfl rfl rfl ?_
  refine RunR.fieldAddr fo29_1 rfl rfl rfl rfl rfl ?_
  refine RunR.load1 tk26 rfl rfl rfl rfl ?_
  refine RunR.int rfl rfl rfl rfl rfl ?_
  refine RunR.pickOr rfl rfl rfl rfl ?_
  refine RunR.move rfl rfl rfl ?_
  refine RunR.fieldAddr fo29_1 rfl rfl rfl rfl rfl ?_
  refine RunR.load1 tk26 rfl rfl rfl rfl ?_
  refine RunR.int rfl rfl rfl rfl rfl ?_
  refine RunR.pickOr rfl rfl rfl rfl ?_
  refine RunR.move rfl rfl rfl ?_
  refine RunR.fieldAddr fo29_1 rfl rfl rfl rfl rfl ?_
  refine RunR.load1 tk26 rfl rfl rfl rfl ?_
  refine RunR.int rfl rfl rfl rfl rfl ?_
  refine RunR.move rfl rfl rfl ?_
  refine RunR.fieldAddr fo29_2 rfl rfl rfl rfl rfl ?_
  refine RunR.load1 tk27 rfl rfl rfl rfl ?_
  refine RunR.lenM us27 rfl rfl rfl rfl ?_
  refine RunR.int rfl rfl rfl rfl rfl ?_
  refine RunR.pickAnd rfl rfl rfl rfl ?_
  refine RunR.pickOr rfl rfl rfl rfl ?_
  refine RunR.doneQ (.cons rfl (.cons rfl .nil)) ?_
  refine Wp.condM h rfl (fun hc1 h => ?_) (fun hc1 h => ?_)
  · refine Wp.seq ?_
    refine Wp.text [2] rfl rfl ?_ -- region 2
    refine TextR.assign rfl ?_
    refine TextR.done (.cons rfl .nil) ?_
    refine Wp.ret ?_
    obtain rfl := Option.some.inj h
    exact Ret.one rfl (resV_tmp rfl) rfl
  · refine Wp.skip ?_
    refine Wp.seq ?_
    refine Wp.seq ?_
    refine Wp.text [1, 3] rfl rfl ?_ -- region 3
    refine TextR.assign rfl ?_
    refine TextR.done (.cons rfl (.cons rfl .nil)) ?_
    obtain ⟨z2, hz2, h⟩ := bind_some h
    refine Wp.fragR (fun S => ∃ z4, z2 = .inr z4 ∧ ∃ S', St.Weak ⟨Try.prog, 62, Γ⟩ S S' ∧ S' = ⟨[], []⟩) (fun S => ∃ v, z2 = .inl v ∧ Ret Try.prog Try.f16 (fun r' _ => r' = .c (B v)) .ret S) ?_ ?_ ?_
    · replace h := hz2
      refine Wp.block ?_
      refine Wp.weak (keepW (live := [1, 3]) (.cons rfl (.cons rfl .nil))) ?_
      refine Wp.loop (fun m S => ∃ s3_1, narthexref15_Check_L1 N a0 m s3_1 = some z2 ∧ S = ⟨[(1, .c (.ptr 0 0 0 0)), (3, .c (I s3_1))], [.live 0 5 [[I a0.Diner.ID, I a0.Diner.Phase, .slv (a0.Diner.Sides.map eSide), I a0.Thirst, .slv (a0.Need.map eI)]]]⟩) N ⟨_, h, rfl⟩ ?_
      rintro m1 _ ⟨s3_1, h, rfl⟩
      cases m1 with
      | zero => rw [narthexref15_Check_L1.eq_1] at h; cases h
      | succ m1 =>
      rw [narthexref15_Check_L1.eq_2] at h
      refine Wp.seq ?_
      refine Wp.seq ?_
      refine Wp.text [1, 3, 33] rfl rfl ?_ -- region 4
      refine TextR.move rfl ?_
      refine TextR.fieldAddr fo29_2 rfl rfl rfl ?_
      refine TextR.load1 tk27 rfl rfl ?_
      refine TextR.lenM us27 rfl rfl ?_
      refine TextR.int rfl rfl rfl ?_
      refine TextR.done (.cons rfl (.cons rfl (.cons rfl .nil))) ?_
      refine Wp.condM h rfl (fun hc3 h => ?_) (fun hc3 h => ?_)
      · refine Wp.skip ?_
        refine Wp.seq ?_
        refine Wp.block ?_
        refine Wp.seq ?_
        obtain ⟨x5, hx5, h⟩ := bind_some h
        obtain ⟨y6, hy6, h⟩ := bind_some h
        obtain ⟨x7, hx7, h⟩ := bind_some h
        obtain ⟨x8, hx8, h⟩ := bind_some h
        refine Wp.go true (some ⟨[], []⟩) [[], [], [], [], [], [], [], [], [], [(44, false)], [(44, false)], [(44, false)], [(47, true), (44, false)], [(47, true), (44, false)], [(47, true), (44, false)], [(47, true), (44, false)], [(47, true), (44, false)], [(47, true), (44, false)], [(47, true), (44, false)], [(47, true), (44, false)], [(47, true), (44, false)], [(47, true), (44, false)], [(47, true), (44, false)], [(47, true), (44, false)], [(44, false)], []] [] [1, 3, 61] mixed rfl rfl (by kernel_rfl) ?_ -- region 6
        refine RunR.loadN (cs := [I a0.Diner.ID, I a0.Diner.Phase, .slv (a0.Diner.Sides.map eSide), I a0.Thirst, .slv (a0.Need.map eI)]) tk29 rfl rfl rfl rfl ?_
        refine RunR.fieldAddr fo29_2 rfl rfl rfl rfl rfl ?_
        refine RunR.load1 tk27 rfl rfl rfl rfl ?_
        refine RunR.move rfl rfl rfl ?_
        refine RunR.indexA se27 rfl rfl rfl rfl rfl hx5 rfl ?_
        refine RunR.load1M tk3 rfl rfl rfl (at_get hx5) rfl ?_
        refine RunR.call rfl rfl rfl (fun H => c_narthexref15_side N a0 x5 y6 hy6 H) ?_
        refine RunR.int rfl rfl rfl rfl rfl ?_
        refine RunR.move rfl rfl rfl ?_
        refine RunR.move rfl rfl rfl ?_
        refine RunR.int rfl rfl rfl rfl rfl ?_
        refine RunR.move rfl rfl rfl ?_
        refine RunR.fieldAddr fo29_2 rfl rfl rfl rfl rfl ?_
        refine RunR.load1 tk27 rfl rfl rfl rfl ?_
        refine RunR.move rfl rfl rfl ?_
        refine RunR.int rfl rfl rfl rfl rfl ?_
        refine RunR.indexAG se27 rfl rfl rfl rfl rfl (ifPos hx7 (fun hb => (gAnd (gF (gN hb)) (gT hb)))) (ifAt hx7 (fun hb => (gAnd (gF (gN hb)) (gT hb)))) rfl ?_
        refine RunR.load1G tk3 rfl rfl rfl (ifAt hx7 (fun hb => (gAnd (gF (gN hb)) (gT hb)))) rfl ?_
        refine RunR.fieldAddr fo29_2 rfl rfl rfl rfl rfl ?_
        refine RunR.load1 tk27 rfl rfl rfl rfl ?_
        refine RunR.move rfl rfl rfl ?_
        refine RunR.indexAG se27 rfl rfl rfl rfl rfl (ifPos hx8 (fun hb => (gAnd (gF (gN hb)) (gT hb)))) (ifAt hx8 (fun hb => (gAnd (gF (gN hb)) (gT hb)))) rfl ?_
        refine RunR.load1G tk3 rfl rfl rfl (ifAt hx8 (fun hb => (gAnd (gF (gN hb)) (gT hb)))) rfl ?_
        refine RunR.int rfl rfl rfl rfl rfl ?_
        refine RunR.pickAnd rfl rfl rfl rfl ?_
        refine RunR.pickOr rfl rfl rfl rfl ?_
        refine RunR.doneQ (.cons rfl (.cons rfl (.cons rfl .nil))) ?_
        refine Wp.condM h rfl (fun hc4 h => ?_) (fun hc4 h => ?_)
        · refine Wp.seq ?_
          refine Wp.text [2] rfl rfl ?_ -- region 7
          refine TextR.assign rfl ?_
          refine TextR.done (.cons rfl .nil) ?_
          refine Wp.ret ?_
          exact ⟨_, (Option.some.inj h).symm, Ret.one rfl (resV_tmp rfl) rfl⟩
        · refine Wp.skip ?_
          refine Wp.text [1, 3] rfl rfl ?_ -- region 5
          refine TextR.move rfl ?_
          refine TextR.int rfl rfl rfl ?_
          refine TextR.assign rfl ?_
          refine TextR.done (.cons rfl (.cons rfl .nil)) ?_
          exact ⟨m1, Nat.lt_succ_self _, _, (keepW (live := [1, 3]) (.cons rfl (.cons rfl .nil))), _, h, rfl⟩
      · refine Wp.exit ?_
        exact ⟨_, (Option.some.inj h).symm, _, (St.Weak.trans (keepW (live := []) .nil) (pickT (e' := []) (H' := []) [] [0] 0 hok.len.symm rfl rfl (by decide) (by first | rfl | simp [-List.map_set]) (by first | rfl | simp [-List.map_set]) (by first | rfl | simp [-List.map_set]) (by first | rfl | simp [-List.map_set]))), rfl⟩
    · rintro _ ⟨z4, rfl, _, hw, rfl⟩
      dsimp only at h
      clear hz2
      refine Wp.weak hw ?_
      refine Wp.seq ?_
      refine Wp.text [2] rfl rfl ?_ -- region 8
      refine TextR.assign rfl ?_
      refine TextR.done (.cons rfl .nil) ?_
      refine Wp.ret ?_
      obtain rfl := Option.some.inj h
      exact Ret.one rfl (resV_tmp rfl) rfl
    · rintro S' ⟨r3, rfl, hR⟩
      dsimp only at h
      obtain rfl := Option.some.inj h
      exact hR
theorem c_narthexref15_Check (N : Nat) (a0 : TDrinker) (r : Bool) (h : narthexref15_Check N a0 = some r) (H : List Ob) : DCall Try.prog 16 [.agg (eDrinker a0)] H (.c (B r)) := DCall.lift (by first | rfl | simp [-List.map_set]) (by first | rfl | simp [-List.map_set]) (fun _ => by simp [-List.map_set]) (w_narthexref15_Check N a0 r h) H
-- narthex/narthexref13.Set
theorem w_narthexref13_Set (N : Nat) (a0 : TDiner) (a1 : Int) (a2 : TSide) (r : TDiner) (h : narthexref13_Set N a0 a1 a2 = some r) : Nx.Call Try.prog 47 [.agg (eDiner a0), .c (I a1), .agg (eSide a2)] [] fun r' _ => r' = .agg (eDiner r) := by
  refine Nx.Call.of_body Try.func47 rfl en47 Try.ntmps47 rfl (fun Γ hok => ?_)
  unfold narthexref13_Set at h
  refine Wp.seq ?_
  refine Wp.text [1, 3, 5, 6] rfl rfl ?_ -- region 0
  refine TextR.box (cs := [I a0.ID, I a0.Phase, .slv (a0.Sides.map eSide)]) 0 rfl rfl rfl rfl .nil ?_
  refine TextR.box (cs := [I a2.Peer, I a2.Epoch, I a2.State, B a2.Fork, B a2.Dirty, B a2.Token, B a2.Bottle, B a2.Ask]) 1 rfl rfl rfl rfl (.cons .nil) ?_
  refine TextR.alloc 2 zc25 rfl rfl (.cons (.cons .nil)) ?_
  refine TextR.done (.cons rfl (.cons rfl (.cons rfl (.cons rfl .nil)))) ?_
  refine Wp.seq ?_
  obtain ⟨x1, hx1, h⟩ := bind_some h
  refine Wp.text [1, 3, 5, 6] rfl rfl ?_ -- region 1
  refine TextR.buildSlice  3 se23 rfl rfl rfl (.cons (.cons (.cons .nil))) ?_
  refine TextR.fieldAddr fo25_2 rfl rfl rfl ?_
  refine TextR.load1 tk23 rfl rfl ?_
  refine TextR.appendM eSide ([] : List TSide) a0.Sides x1 (app_eq hx1) se23 rfl rfl rfl rfl (fun _ => rfl) rfl (app_len hx1) (.succ (.succ (.succ .zero))) ?_
  refine TextR.fieldAddr fo25_2 rfl rfl rfl ?_
  refine TextR.storeF (r' := [I a0.ID, I a0.Phase, .sl 3 1 0 x1.length]) tk23 rfl rfl rfl rfl rfl rfl rfl .zero ?_
  refine TextR.done (.cons rfl (.cons rfl (.cons rfl (.cons rfl .nil)))) ?_
  refine Wp.seq ?_
  obtain ⟨x2, hx2, h⟩ := bind_some h
  refine Wp.text [3, 6] rfl rfl ?_ -- region 2
  refine TextR.fieldAddr fo25_2 rfl rfl rfl ?_
  refine TextR.load1 tk23 rfl rfl ?_
  refine TextR.move rfl ?_
  refine TextR.loadN (cs := [I a2.Peer, I a2.Epoch, I a2.State, B a2.Fork, B a2.Dirty, B a2.Token, B a2.Bottle, B a2.Ask]) tk53 rfl rfl ?_
  refine TextR.indexOA se23 rfl rfl rfl hx2 ?_
  refine TextR.storeO a2 tk53 rfl rfl rfl rfl rfl (at_get hx2) rfl rfl (.succ (.succ (.succ .zero))) ?_
  refine TextR.done (.cons rfl (.cons rfl .nil)) ?_
  refine Wp.weak (eqW (S' := ⟨[(3, .c (.ptr 0 0 0 0)), (6, .c (.ptr 2 0 0 0))], [.live 0 3 [[I a0.ID, I a0.Phase, .sl 3 1 0 (x1.set a1.toNat a2).length]], .live 0 8 [[I a2.Peer, I a2.Epoch, I a2.State, B a2.Fork, B a2.Dirty, B a2.Token, B a2.Bottle, B a2.Ask]], .live 0 3 [[I 0, I 0, nilS]], .live 1 8 ((x1.set a1.toNat a2).map eSide)]⟩) (by first | rfl | (simp only [List.length_set]; done) | (simp only [List.length_set]; rfl))) ?_
  refine Wp.seq ?_
  refine Wp.text [6] rfl rfl ?_ -- region 3
  refine TextR.loadN (cs := [I a0.ID, I a0.Phase, .sl 3 1 0 (x1.set a1.toNat a2).length]) tk25 rfl rfl ?_
  refine TextR.store1 tk25 rfl rfl rfl rfl rfl rfl (.succ (.succ .zero)) ?_
  refine TextR.done (.cons rfl .nil) ?_
  refine Wp.weak (keepW (live := [6] ) (.cons rfl .nil)) ?_
  refine Wp.weak (freezeW (h := 3) (ver := 1) (rows := (x1.set a1.toNat a2).map eSide) (e' := [(6, .c (.ptr 2 0 0 0))]) (H' := [.live 0 3 [[I a0.ID, I a0.Phase, .slv ((x1.set a1.toNat a2).map eSide)]], .live 0 8 [[I a2.Peer, I a2.Epoch, I a2.State, B a2.Fork, B a2.Dirty, B a2.Token, B a2.Bottle, B a2.Ask]], .live 0 3 [[I a0.ID, I a0.Phase, .slv ((x1.set a1.toNat a2).map eSide)]], .dead]) rfl (by first | rfl | simp [-List.map_set]) (by first | rfl | simp [-List.map_set])) ?_
  refine Wp.ret ?_
  obtain rfl := Option.some.inj h
  exact Ret.one rfl (resV_cellN tk25 rfl rfl) rfl
theorem c_narthexref13_Set (N : Nat) (a0 : TDiner) (a1 : Int) (a2 : TSide) (r : TDiner) (h : narthexref13_Set N a0 a1 a2 = some r) (H : List Ob) : DCall Try.prog 47 [.agg (eDiner a0), .c (I a1), .agg (eSide a2)] H (.agg (eDiner r)) := DCall.lift (by first | rfl | simp [-List.map_set]) (by first | rfl | simp [-List.map_set]) (fun _ => by simp [-List.map_set]) (w_narthexref13_Set N a0 a1 a2 r h) H
-- narthex/narthexref13.mail
theorem w_narthexref13_mail (N : Nat) (a0 : TDiner) (a1 : TSide) (a2 : Int) (r : TMail) (h : narthexref13_mail N a0 a1 a2 = some r) : Nx.Call Try.prog 74 [.agg (eDiner a0), .agg (eSide a1), .c (I a2)] [] fun r' _ => r' = .agg (eMail r) := by
  refine Nx.Call.of_body Try.func74 rfl en74 Try.ntmps74 rfl (fun Γ hok => ?_)
  unfold narthexref13_mail at h
  refine Wp.seq ?_
  refine Wp.text [2, 3, 4, 6] rfl rfl ?_ -- region 0
  refine TextR.box (cs := [I a0.ID, I a0.Phase, .slv (a0.Sides.map eSide)]) 0 rfl rfl rfl rfl .nil ?_
  refine TextR.box (cs := [I a1.Peer, I a1.Epoch, I a1.State, B a1.Fork, B a1.Dirty, B a1.Token, B a1.Bottle, B a1.Ask]) 1 rfl rfl rfl rfl (.cons .nil) ?_
  refine TextR.alloc 2 zc61 rfl rfl (.cons (.cons .nil)) ?_
  refine TextR.done (.cons rfl (.cons rfl (.cons rfl (.cons rfl .nil)))) ?_
  refine Wp.seq ?_
  refine Wp.text [6] rfl rfl ?_ -- region 1
  refine TextR.fieldAddr fo25_0 rfl rfl rfl ?_
  refine TextR.load1 tk3 rfl rfl ?_
  refine TextR.fieldAddr fo53_0 rfl rfl rfl ?_
  refine TextR.load1 tk3 rfl rfl ?_
  refine TextR.move rfl ?_
  refine TextR.fieldAddr fo53_1 rfl rfl rfl ?_
  refine TextR.load1 tk3 rfl rfl ?_
  refine TextR.build cm44 rfl ?_
  refine TextR.build cm61 rfl ?_
  refine TextR.store1 tk61 rfl rfl rfl rfl rfl rfl (.succ (.succ .zero)) ?_
  refine TextR.done (.cons rfl .nil) ?_
  refine Wp.ret ?_
  obtain rfl := Option.some.inj h
  exact Ret.one rfl (resV_cellN tk61 rfl rfl) rfl
theorem c_narthexref13_mail (N : Nat) (a0 : TDiner) (a1 : TSide) (a2 : Int) (r : TMail) (h : narthexref13_mail N a0 a1 a2 = some r) (H : List Ob) : DCall Try.prog 74 [.agg (eDiner a0), .agg (eSide a1), .c (I a2)] H (.agg (eMail r)) := DCall.lift (by first | rfl | simp [-List.map_set]) (by first | rfl | simp [-List.map_set]) (fun _ => by simp [-List.map_set]) (w_narthexref13_mail N a0 a1 a2 r h) H
-- narthex/narthexref13.one
theorem w_narthexref13_one (N : Nat) (a0 : TDiner) (r : TDiner × (List TMail) × Bool) (h : narthexref13_one N a0 = some r) : Nx.Call Try.prog 70 [.agg (eDiner a0)] [] fun r' _ => r' = .tup [.agg (eDiner r.1), .c (.slv (r.2.1.map eMail)), .c (B r.2.2)] := by
  refine Nx.Call.of_body Try.func70 rfl en70 Try.ntmps70 rfl (fun Γ hok => ?_)
  unfold narthexref13_one at h
  refine Wp.seq ?_
  refine Wp.text [1, 2] rfl rfl ?_ -- region 0
  refine TextR.box (cs := [I a0.ID, I a0.Phase, .slv (a0.Sides.map eSide)]) 0 rfl rfl rfl rfl .nil ?_
  refine TextR.alloc 1 zc25 rfl rfl (.cons .nil) ?_
  refine TextR.assign rfl ?_
  refine TextR.assign rfl ?_
  refine TextR.done (.cons rfl (.cons rfl .nil)) ?_
  refine Wp.seq ?_
  refine Wp.seq ?_
  refine Wp.text [1, 2, 5] rfl rfl ?_ -- region 1
  refine TextR.assign rfl ?_
  refine TextR.done (.cons rfl (.cons rfl (.cons rfl .nil))) ?_
  obtain ⟨z1, hz1, h⟩ := bind_some h
  refine Wp.fragR (fun S => ∃ z3, z1 = .inr z3 ∧ ∃ S', St.Weak ⟨Try.prog, 110, Γ⟩ S S' ∧ S' = ⟨[(1, .c (.ptr 0 0 0 0)), (2, .c (.ptr 1 0 0 0))], [.live 0 3 [[I a0.ID, I a0.Phase, .slv (a0.Sides.map eSide)]], .live 0 3 [[I 0, I 0, nilS]]]⟩) (fun S => ∃ v, z1 = .inl v ∧ Ret Try.prog Try.f70 (fun r' _ => r' = .tup [.agg (eDiner v.1), .c (.slv (v.2.1.map eMail)), .c (B v.2.2)]) .ret S) ?_ ?_ ?_
  · replace h := hz1
    refine Wp.block ?_
    refine Wp.weak (keepW (live := [1, 2, 5]) (.cons rfl (.cons rfl (.cons rfl .nil)))) ?_
    refine Wp.loop (fun m S => ∃ s5_1, narthexref13_one_L1 N a0 m s5_1 = some z1 ∧ S = ⟨[(1, .c (.ptr 0 0 0 0)), (2, .c (.ptr 1 0 0 0)), (5, .c (I s5_1))], [.live 0 3 [[I a0.ID, I a0.Phase, .slv (a0.Sides.map eSide)]], .live 0 3 [[I 0, I 0, nilS]]]⟩) N ⟨_, h, rfl⟩ ?_
    rintro m1 _ ⟨s5_1, h, rfl⟩
    cases m1 with
    | zero => rw [narthexref13_one_L1.eq_1] at h; cases h
    | succ m1 =>
    rw [narthexref13_one_L1.eq_2] at h
    refine Wp.seq ?_
    refine Wp.seq ?_
    refine Wp.text [1, 2, 5, 16] rfl rfl ?_ -- region 2
    refine TextR.move rfl ?_
    refine TextR.fieldAddr fo25_2 rfl rfl rfl ?_
    refine TextR.load1 tk23 rfl rfl ?_
    refine TextR.lenM us23 rfl rfl ?_
    refine TextR.int rfl rfl rfl ?_
    refine TextR.done (.cons rfl (.cons rfl (.cons rfl (.cons rfl .nil)))) ?_
    refine Wp.condM h rfl (fun hc2 h => ?_) (fun hc2 h => ?_)
    · refine Wp.skip ?_
      refine Wp.seq ?_
      refine Wp.block ?_
      refine Wp.seq ?_
      obtain ⟨x4, hx4, h⟩ := bind_some h
      refine Wp.text [1, 2, 5, 6] rfl rfl ?_ -- region 4
      refine TextR.fieldAddr fo25_2 rfl rfl rfl ?_
      refine TextR.load1 tk23 rfl rfl ?_
      refine TextR.move rfl ?_
      refine TextR.indexA se23 rfl rfl rfl hx4 rfl ?_
      refine TextR.loadNM tk53 rfl (at_get hx4) rfl ?_
      refine TextR.alloc 2 zc53 rfl rfl (.cons (.cons .nil)) ?_
      refine TextR.store1 tk53 rfl rfl rfl rfl rfl rfl (.succ (.succ .zero)) ?_
      refine TextR.done (.cons rfl (.cons rfl (.cons rfl (.cons rfl .nil)))) ?_
      refine Wp.seq ?_
      refine Wp.seq ?_
      refine Wp.go false none [[], [], [], [(26, true)], [(26, true)], [], [], [(30, true)], [(30, true)], [], [], [(34, true)], [(34, true)], [(34, true)], []] [] [1, 2, 5, 6, 38] mixed rfl rfl (by kernel_rfl) ?_ -- region 5
      refine RunR.fieldAddr fo53_3 rfl rfl rfl rfl rfl ?_
      refine RunR.load1 tk4 rfl rfl rfl rfl ?_
      refine RunR.move rfl rfl rfl ?_
      refine RunR.fieldAddr fo53_4 rfl rfl rfl rfl rfl ?_
      refine RunR.load1 tk4 rfl rfl rfl rfl ?_
      refine RunR.pickAnd rfl rfl rfl rfl ?_
      refine RunR.move rfl rfl rfl ?_
      refine RunR.fieldAddr fo53_5 rfl rfl rfl rfl rfl ?_
      refine RunR.load1 tk4 rfl rfl rfl rfl ?_
      refine RunR.pickAnd rfl rfl rfl rfl ?_
      refine RunR.move rfl rfl rfl ?_
      refine RunR.fieldAddr fo25_1 rfl rfl rfl rfl rfl ?_
      refine RunR.load1 tk22 rfl rfl rfl rfl ?_
      refine RunR.int rfl rfl rfl rfl rfl ?_
      refine RunR.pickAnd rfl rfl rfl rfl ?_
      refine RunR.doneQ (.cons rfl (.cons rfl (.cons rfl (.cons rfl (.cons rfl .nil))))) ?_
      refine Wp.condM h rfl (fun hc3 h => ?_) (fun hc3 h => ?_)
      · refine Wp.seq ?_
        refine Wp.text [1, 2, 5, 6, 7] rfl rfl ?_ -- region 6
        refine TextR.loadN (cs := [I x4.Peer, I x4.Epoch, I x4.State, B x4.Fork, B x4.Dirty, B x4.Token, B x4.Bottle, B x4.Ask]) tk53 rfl rfl ?_
        refine TextR.alloc 3 zc53 rfl rfl (.cons (.cons (.cons .nil))) ?_
        refine TextR.store1 tk53 rfl rfl rfl rfl rfl rfl (.succ (.succ (.succ .zero))) ?_
        refine TextR.done (.cons rfl (.cons rfl (.cons rfl (.cons rfl (.cons rfl .nil))))) ?_
        refine Wp.seq ?_
        refine Wp.text [1, 2, 5, 6, 7] rfl rfl ?_ -- region 7
        refine TextR.fieldAddr fo53_3 rfl rfl rfl ?_
        refine TextR.storeF (r' := [I x4.Peer, I x4.Epoch, I x4.State, B false, B x4.Dirty, B x4.Token, B x4.Bottle, B x4.Ask]) tk4 rfl rfl rfl rfl rfl rfl rfl (.succ (.succ (.succ .zero))) ?_
        refine TextR.fieldAddr fo53_4 rfl rfl rfl ?_
        refine TextR.storeF (r' := [I x4.Peer, I x4.Epoch, I x4.State, B false, B false, B x4.Token, B x4.Bottle, B x4.Ask]) tk4 rfl rfl rfl rfl rfl rfl rfl (.succ (.succ (.succ .zero))) ?_
        refine TextR.done (.cons rfl (.cons rfl (.cons rfl (.cons rfl (.cons rfl .nil))))) ?_
        refine Wp.seq ?_
        obtain ⟨y5, hy5, h⟩ := bind_some h
        obtain ⟨y6, hy6, h⟩ := bind_some h
        apply Wp.forkS 7 ⟨[1, 4], []⟩ [[], [], [], [], [], [], [], [], [], [], []] [false, false, false, false, false, false, false, false, false, false, false] [[], [], [], [], [], [], [], [], [], [], []] [false, false, false, false, false, false, false, false, false, false, false] [2, 3, 4] mixed rfl (by kernel_rfl) (by kernel_rfl) (by kernel_rfl) (by kernel_rfl) (by kernel_rfl) -- region 8 FORK
        · refine RunR.loadN (cs := [I a0.ID, I a0.Phase, .slv (a0.Sides.map eSide)]) tk25 rfl rfl rfl rfl ?_
          refine RunR.move rfl rfl rfl ?_
          refine RunR.loadN (cs := [I x4.Peer, I x4.Epoch, I x4.State, B false, B false, B x4.Token, B x4.Bottle, B x4.Ask]) tk53 rfl rfl rfl rfl ?_
          refine RunR.call rfl rfl rfl (fun H => c_narthexref13_Set N a0 s5_1 { x4 with Fork := false, Dirty := false } y5 hy5 H) ?_
          refine RunR.loadN (cs := [I a0.ID, I a0.Phase, .slv (a0.Sides.map eSide)]) tk25 rfl rfl rfl rfl ?_
          refine RunR.loadN (cs := [I x4.Peer, I x4.Epoch, I x4.State, B x4.Fork, B x4.Dirty, B x4.Token, B x4.Bottle, B x4.Ask]) tk53 rfl rfl rfl rfl ?_
          refine RunR.call rfl rfl rfl (fun H => c_narthexref13_mail N a0 x4 1 y6 hy6 H) ?_
          refine RunR.nil ⟨?_, ?_⟩
          · refine RunR.buildSlice (rows := [y6].map eMail) 4 se32 rfl rfl rfl rfl rfl (.cons (.cons (.cons (.cons .nil)))) ?_
            refine RunR.store1 tk25 rfl rfl rfl rfl rfl rfl rfl rfl (.succ .zero) ?_
            refine RunR.assign rfl rfl rfl ?_
            refine RunR.assign rfl rfl rfl ?_
            refine RunR.nil ⟨_, (.cons rfl (.cons rfl (.cons rfl .nil))), rfl⟩
          · refine RunR.store1 tk25 rfl rfl rfl rfl rfl rfl rfl rfl (.succ .zero) ?_
            refine RunR.buildSlice (rows := [y6].map eMail) 4 se32 rfl rfl rfl rfl rfl (.cons (.cons (.cons (.cons .nil)))) ?_
            refine RunR.assign rfl rfl rfl ?_
            refine RunR.assign rfl rfl rfl ?_
            refine RunR.nil ⟨_, (.cons rfl (.cons rfl (.cons rfl .nil))), .refl⟩
        refine Wp.weak (keepW (live := [2, 3, 4] ) (.cons rfl (.cons rfl (.cons rfl .nil)))) ?_
        refine Wp.weak (freezeW (h := 4) (ver := 0) (rows := [y6].map eMail) (e' := [(2, .c (.ptr 1 0 0 0)), (3, .c (.slv ([y6].map eMail))), (4, .c (B true))]) (H' := [.live 0 3 [[I a0.ID, I a0.Phase, .slv (a0.Sides.map eSide)]], .live 0 3 [[I y5.ID, I y5.Phase, .slv (y5.Sides.map eSide)]], .live 0 8 [[I x4.Peer, I x4.Epoch, I x4.State, B x4.Fork, B x4.Dirty, B x4.Token, B x4.Bottle, B x4.Ask]], .live 0 8 [[I x4.Peer, I x4.Epoch, I x4.State, B false, B false, B x4.Token, B x4.Bottle, B x4.Ask]], .dead]) rfl (by first | rfl | simp [-List.map_set]) (by first | rfl | simp [-List.map_set])) ?_
        refine Wp.ret ?_
        exact ⟨_, (Option.some.inj h).symm, Ret.three rfl (resV_cellN tk25 rfl rfl) (resV_tmp rfl) (resV_tmp rfl) rfl⟩
      · refine Wp.skip ?_
        refine Wp.seq ?_
        refine Wp.go false none [[], [], [], [], [(53, true)], [(53, true)], [], [], [(57, true)], [(57, true)], [(57, true)], []] [] [1, 2, 5, 6, 61] mixed rfl rfl (by kernel_rfl) ?_ -- region 9
        refine RunR.fieldAddr fo53_3 rfl rfl rfl rfl rfl ?_
        refine RunR.load1 tk4 rfl rfl rfl rfl ?_
        refine RunR.not rfl rfl rfl ?_
        refine RunR.move rfl rfl rfl ?_
        refine RunR.fieldAddr fo53_5 rfl rfl rfl rfl rfl ?_
        refine RunR.load1 tk4 rfl rfl rfl rfl ?_
        refine RunR.pickAnd rfl rfl rfl rfl ?_
        refine RunR.move rfl rfl rfl ?_
        refine RunR.fieldAddr fo25_1 rfl rfl rfl rfl rfl ?_
        refine RunR.load1 tk22 rfl rfl rfl rfl ?_
        refine RunR.int rfl rfl rfl rfl rfl ?_
        refine RunR.pickAnd rfl rfl rfl rfl ?_
        refine RunR.doneQ (.cons rfl (.cons rfl (.cons rfl (.cons rfl (.cons rfl .nil))))) ?_
        refine Wp.condM h rfl (fun hc4 h => ?_) (fun hc4 h => ?_)
        · refine Wp.seq ?_
          refine Wp.text [1, 2, 5, 6, 8] rfl rfl ?_ -- region 10
          refine TextR.loadN (cs := [I x4.Peer, I x4.Epoch, I x4.State, B x4.Fork, B x4.Dirty, B x4.Token, B x4.Bottle, B x4.Ask]) tk53 rfl rfl ?_
          refine TextR.alloc 3 zc53 rfl rfl (.cons (.cons (.cons .nil))) ?_
          refine TextR.store1 tk53 rfl rfl rfl rfl rfl rfl (.succ (.succ (.succ .zero))) ?_
          refine TextR.done (.cons rfl (.cons rfl (.cons rfl (.cons rfl (.cons rfl .nil))))) ?_
          refine Wp.seq ?_
          refine Wp.text [1, 2, 5, 6, 8] rfl rfl ?_ -- region 11
          refine TextR.fieldAddr fo53_5 rfl rfl rfl ?_
          refine TextR.storeF (r' := [I x4.Peer, I x4.Epoch, I x4.State, B x4.Fork, B x4.Dirty, B false, B x4.Bottle, B x4.Ask]) tk4 rfl rfl rfl rfl rfl rfl rfl (.succ (.succ (.succ .zero))) ?_
          refine TextR.done (.cons rfl (.cons rfl (.cons rfl (.cons rfl (.cons rfl .nil))))) ?_
          refine Wp.seq ?_
          obtain ⟨y7, hy7, h⟩ := bind_some h
          obtain ⟨y8, hy8, h⟩ := bind_some h
          apply Wp.forkS 7 ⟨[1, 4], []⟩ [[], [], [], [], [], [], [], [], [], [], []] [false, false, false, false, false, false, false, false, false, false, false] [[], [], [], [], [], [], [], [], [], [], []] [false, false, false, false, false, false, false, false, false, false, false] [2, 3, 4] mixed rfl (by kernel_rfl) (by kernel_rfl) (by kernel_rfl) (by kernel_rfl) (by kernel_rfl) -- region 12 FORK
          · refine RunR.loadN (cs := [I a0.ID, I a0.Phase, .slv (a0.Sides.map eSide)]) tk25 rfl rfl rfl rfl ?_
            refine RunR.move rfl rfl rfl ?_
            refine RunR.loadN (cs := [I x4.Peer, I x4.Epoch, I x4.State, B x4.Fork, B x4.Dirty, B false, B x4.Bottle, B x4.Ask]) tk53 rfl rfl rfl rfl ?_
            refine RunR.call rfl rfl rfl (fun H => c_narthexref13_Set N a0 s5_1 { x4 with Token := false } y7 hy7 H) ?_
            refine RunR.loadN (cs := [I a0.ID, I a0.Phase, .slv (a0.Sides.map eSide)]) tk25 rfl rfl rfl rfl ?_
            refine RunR.loadN (cs := [I x4.Peer, I x4.Epoch, I x4.State, B x4.Fork, B x4.Dirty, B x4.Token, B x4.Bottle, B x4.Ask]) tk53 rfl rfl rfl rfl ?_
            refine RunR.call rfl rfl rfl (fun H => c_narthexref13_mail N a0 x4 2 y8 hy8 H) ?_
            refine RunR.nil ⟨?_, ?_⟩
            · refine RunR.buildSlice (rows := [y8].map eMail) 4 se32 rfl rfl rfl rfl rfl (.cons (.cons (.cons (.cons .nil)))) ?_
              refine RunR.store1 tk25 rfl rfl rfl rfl rfl rfl rfl rfl (.succ .zero) ?_
              refine RunR.assign rfl rfl rfl ?_
              refine RunR.assign rfl rfl rfl ?_
              refine RunR.nil ⟨_, (.cons rfl (.cons rfl (.cons rfl .nil))), rfl⟩
            · refine RunR.store1 tk25 rfl rfl rfl rfl rfl rfl rfl rfl (.succ .zero) ?_
              refine RunR.buildSlice (rows := [y8].map eMail) 4 se32 rfl rfl rfl rfl rfl (.cons (.cons (.cons (.cons .nil)))) ?_
              refine RunR.assign rfl rfl rfl ?_
              refine RunR.assign rfl rfl rfl ?_
              refine RunR.nil ⟨_, (.cons rfl (.cons rfl (.cons rfl .nil))), .refl⟩
          refine Wp.weak (keepW (live := [2, 3, 4] ) (.cons rfl (.cons rfl (.cons rfl .nil)))) ?_
          refine Wp.weak (freezeW (h := 4) (ver := 0) (rows := [y8].map eMail) (e' := [(2, .c (.ptr 1 0 0 0)), (3, .c (.slv ([y8].map eMail))), (4, .c (B true))]) (H' := [.live 0 3 [[I a0.ID, I a0.Phase, .slv (a0.Sides.map eSide)]], .live 0 3 [[I y7.ID, I y7.Phase, .slv (y7.Sides.map eSide)]], .live 0 8 [[I x4.Peer, I x4.Epoch, I x4.State, B x4.Fork, B x4.Dirty, B x4.Token, B x4.Bottle, B x4.Ask]], .live 0 8 [[I x4.Peer, I x4.Epoch, I x4.State, B x4.Fork, B x4.Dirty, B false, B x4.Bottle, B x4.Ask]], .dead]) rfl (by first | rfl | simp [-List.map_set]) (by first | rfl | simp [-List.map_set])) ?_
          refine Wp.ret ?_
          exact ⟨_, (Option.some.inj h).symm, Ret.three rfl (resV_cellN tk25 rfl rfl) (resV_tmp rfl) (resV_tmp rfl) rfl⟩
        · refine Wp.skip ?_
          refine Wp.text [1, 2, 5] rfl rfl ?_ -- region 3
          refine TextR.move rfl ?_
          refine TextR.int rfl rfl rfl ?_
          refine TextR.assign rfl ?_
          refine TextR.done (.cons rfl (.cons rfl (.cons rfl .nil))) ?_
          exact ⟨m1, Nat.lt_succ_self _, _, (St.Weak.trans (keepW (live := [1, 2, 5]) (.cons rfl (.cons rfl (.cons rfl .nil)))) (pickT (e' := [(1, .c (.ptr 0 0 0 0)), (2, .c (.ptr 1 0 0 0)), (5, .c (I (w64 (s5_1 + 1))))]) (H' := [.live 0 3 [[I a0.ID, I a0.Phase, .slv (a0.Sides.map eSide)]], .live 0 3 [[I 0, I 0, nilS]]]) [0, 1] [0, 1, 0] 0 hok.len.symm rfl rfl (by decide) (by first | rfl | simp [-List.map_set]) (by first | rfl | simp [-List.map_set]) (by first | rfl | simp [-List.map_set]) (by first | rfl | simp [-List.map_set]))), _, h, rfl⟩
    · refine Wp.exit ?_
      exact ⟨_, (Option.some.inj h).symm, _, (keepW (live := [1, 2]) (.cons rfl (.cons rfl .nil))), rfl⟩
  · rintro _ ⟨z3, rfl, _, hw, rfl⟩
    dsimp only at h
    clear hz1
    refine Wp.weak hw ?_
    refine Wp.seq ?_
    refine Wp.seq ?_
    refine Wp.text [1, 2, 74] rfl rfl ?_ -- region 13
    refine TextR.fieldAddr fo25_1 rfl rfl rfl ?_
    refine TextR.load1 tk22 rfl rfl ?_
    refine TextR.int rfl rfl rfl ?_
    refine TextR.done (.cons rfl (.cons rfl (.cons rfl .nil))) ?_
    refine Wp.condM h rfl (fun hc2 h => ?_) (fun hc2 h => ?_)
    · refine Wp.seq ?_
      refine Wp.text [2, 3, 4] rfl rfl ?_ -- region 14
      refine TextR.loadN (cs := [I a0.ID, I a0.Phase, .slv (a0.Sides.map eSide)]) tk25 rfl rfl ?_
      refine TextR.store1 tk25 rfl rfl rfl rfl rfl rfl (.succ .zero) ?_
      refine TextR.assign rfl ?_
      refine TextR.assign rfl ?_
      refine TextR.done (.cons rfl (.cons rfl (.cons rfl .nil))) ?_
      refine Wp.weak (keepW (live := [2, 3, 4] ) (.cons rfl (.cons rfl (.cons rfl .nil)))) ?_
      refine Wp.weak (nzT (e' := [(2, .c (.ptr 1 0 0 0)), (3, .c (.slv ([].map eMail))), (4, .c (B false))]) (H' := [.live 0 3 [[I a0.ID, I a0.Phase, .slv (a0.Sides.map eSide)]], .live 0 3 [[I a0.ID, I a0.Phase, .slv (a0.Sides.map eSide)]]]) (by first | rfl | simp [-List.map_set]) (by first | rfl | simp [-List.map_set])) ?_
      refine Wp.ret ?_
      obtain rfl := Option.some.inj h
      exact Ret.three rfl (resV_cellN tk25 rfl rfl) (resV_tmp rfl) (resV_tmp rfl) rfl
    · refine Wp.skip ?_
      refine Wp.seq ?_
      refine Wp.seq ?_
      refine Wp.text [1, 2, 9] rfl rfl ?_ -- region 15
      refine TextR.assign rfl ?_
      refine TextR.done (.cons rfl (.cons rfl (.cons rfl .nil))) ?_
      obtain ⟨z9, hz9, h⟩ := bind_some h
      refine Wp.fragR (fun S => ∃ z11, z9 = .inr z11 ∧ ∃ S', St.Weak ⟨Try.prog, 110, Γ⟩ S S' ∧ S' = ⟨[(1, .c (.ptr 0 0 0 0)), (2, .c (.ptr 1 0 0 0))], [.live 0 3 [[I a0.ID, I a0.Phase, .slv (a0.Sides.map eSide)]], .live 0 3 [[I 0, I 0, nilS]]]⟩) (fun S => ∃ v, z9 = .inl v ∧ Ret Try.prog Try.f70 (fun r' _ => r' = .tup [.agg (eDiner v.1), .c (.slv (v.2.1.map eMail)), .c (B v.2.2)]) .ret S) ?_ ?_ ?_
      · replace h := hz9
        refine Wp.block ?_
        refine Wp.weak (keepW (live := [1, 2, 9]) (.cons rfl (.cons rfl (.cons rfl .nil)))) ?_
        refine Wp.loop (fun m S => ∃ s9_2, narthexref13_one_L2 N a0 m s9_2 = some z9 ∧ S = ⟨[(1, .c (.ptr 0 0 0 0)), (2, .c (.ptr 1 0 0 0)), (9, .c (I s9_2))], [.live 0 3 [[I a0.ID, I a0.Phase, .slv (a0.Sides.map eSide)]], .live 0 3 [[I 0, I 0, nilS]]]⟩) N ⟨_, h, rfl⟩ ?_
        rintro m2 _ ⟨s9_2, h, rfl⟩
        cases m2 with
        | zero => rw [narthexref13_one_L2.eq_1] at h; cases h
        | succ m2 =>
        rw [narthexref13_one_L2.eq_2] at h
        refine Wp.seq ?_
        refine Wp.seq ?_
        refine Wp.text [1, 2, 9, 80] rfl rfl ?_ -- region 16
        refine TextR.move rfl ?_
        refine TextR.fieldAddr fo25_2 rfl rfl rfl ?_
        refine TextR.load1 tk23 rfl rfl ?_
        refine TextR.lenM us23 rfl rfl ?_
        refine TextR.int rfl rfl rfl ?_
        refine TextR.done (.cons rfl (.cons rfl (.cons rfl (.cons rfl .nil)))) ?_
        refine Wp.condM h rfl (fun hc4 h => ?_) (fun hc4 h => ?_)
        · refine Wp.skip ?_
          refine Wp.seq ?_
          refine Wp.block ?_
          refine Wp.seq ?_
          obtain ⟨x12, hx12, h⟩ := bind_some h
          refine Wp.text [1, 2, 9, 89] rfl rfl ?_ -- region 18
          refine TextR.fieldAddr fo25_2 rfl rfl rfl ?_
          refine TextR.load1 tk23 rfl rfl ?_
          refine TextR.move rfl ?_
          refine TextR.indexA se23 rfl rfl rfl hx12 rfl ?_
          refine TextR.fieldAddr fo53_3 rfl rfl rfl ?_
          refine TextR.load1M tk4 rfl (at_get hx12) rfl ?_
          refine TextR.not rfl ?_
          refine TextR.done (.cons rfl (.cons rfl (.cons rfl (.cons rfl .nil)))) ?_
          refine Wp.condM h rfl (fun hc5 h => ?_) (fun hc5 h => ?_)
          · refine Wp.seq ?_
            refine Wp.text [2, 3, 4] rfl rfl ?_ -- region 19
            refine TextR.loadN (cs := [I a0.ID, I a0.Phase, .slv (a0.Sides.map eSide)]) tk25 rfl rfl ?_
            refine TextR.store1 tk25 rfl rfl rfl rfl rfl rfl (.succ .zero) ?_
            refine TextR.assign rfl ?_
            refine TextR.assign rfl ?_
            refine TextR.done (.cons rfl (.cons rfl (.cons rfl .nil))) ?_
            refine Wp.weak (keepW (live := [2, 3, 4] ) (.cons rfl (.cons rfl (.cons rfl .nil)))) ?_
            refine Wp.weak (nzT (e' := [(2, .c (.ptr 1 0 0 0)), (3, .c (.slv ([].map eMail))), (4, .c (B false))]) (H' := [.live 0 3 [[I a0.ID, I a0.Phase, .slv (a0.Sides.map eSide)]], .live 0 3 [[I a0.ID, I a0.Phase, .slv (a0.Sides.map eSide)]]]) (by first | rfl | simp [-List.map_set]) (by first | rfl | simp [-List.map_set])) ?_
            refine Wp.ret ?_
            exact ⟨_, (Option.some.inj h).symm, Ret.three rfl (resV_cellN tk25 rfl rfl) (resV_tmp rfl) (resV_tmp rfl) rfl⟩
          · refine Wp.skip ?_
            refine Wp.text [1, 2, 9] rfl rfl ?_ -- region 17
            refine TextR.move rfl ?_
            refine TextR.int rfl rfl rfl ?_
            refine TextR.assign rfl ?_
            refine TextR.done (.cons rfl (.cons rfl (.cons rfl .nil))) ?_
            exact ⟨m2, Nat.lt_succ_self _, _, (keepW (live := [1, 2, 9]) (.cons rfl (.cons rfl (.cons rfl .nil)))), _, h, rfl⟩
        · refine Wp.exit ?_
          exact ⟨_, (Option.some.inj h).symm, _, (keepW (live := [1, 2]) (.cons rfl (.cons rfl .nil))), rfl⟩
      · rintro _ ⟨z11, rfl, _, hw, rfl⟩
        dsimp only at h
        clear hz9
        refine Wp.weak hw ?_
        refine Wp.seq ?_
        refine Wp.text [1, 2] rfl rfl ?_ -- region 20
        refine TextR.fieldAddr fo25_1 rfl rfl rfl ?_
        refine TextR.storeF (r' := [I a0.ID, I 2, .slv (a0.Sides.map eSide)]) tk22 rfl rfl rfl rfl rfl rfl rfl .zero ?_
        refine TextR.done (.cons rfl (.cons rfl .nil)) ?_
        refine Wp.seq ?_
        refine Wp.seq ?_
        refine Wp.text [1, 2, 10] rfl rfl ?_ -- region 21
        refine TextR.assign rfl ?_
        refine TextR.done (.cons rfl (.cons rfl (.cons rfl .nil))) ?_
        obtain ⟨z13, hz13, h⟩ := bind_some h
        refine Wp.fragN (fun S => ∃ S', St.Weak ⟨Try.prog, 110, Γ⟩ S S' ∧ S' = ⟨[(1, .c (.ptr 0 0 0 0)), (2, .c (.ptr 1 0 0 0))], [.live 0 3 [[I z13.1, I z13.2.1, .slv (z13.2.2.map eSide)]], .live 0 3 [[I 0, I 0, nilS]]]⟩) ?_ ?_
        · replace h := hz13
          refine Wp.block ?_
          refine Wp.weak (keepW (live := [1, 2, 10]) (.cons rfl (.cons rfl (.cons rfl .nil)))) ?_
          refine Wp.loop (fun m S => ∃ c0_0_3, ∃ c0_1_3, ∃ c0_2_3, ∃ s10_3, narthexref13_one_L3 N m c0_0_3 c0_1_3 c0_2_3 s10_3 = some z13 ∧ S = ⟨[(1, .c (.ptr 0 0 0 0)), (2, .c (.ptr 1 0 0 0)), (10, .c (I s10_3))], [.live 0 3 [[I c0_0_3, I c0_1_3, .slv (c0_2_3.map eSide)]], .live 0 3 [[I 0, I 0, nilS]]]⟩) N ⟨_, _, _, _, h, rfl⟩ ?_
          rintro m3 _ ⟨c0_0_3, c0_1_3, c0_2_3, s10_3, h, rfl⟩
          cases m3 with
          | zero => rw [narthexref13_one_L3.eq_1] at h; cases h
          | succ m3 =>
          rw [narthexref13_one_L3.eq_2] at h
          refine Wp.seq ?_
          refine Wp.seq ?_
          refine Wp.text [1, 2, 10, 96] rfl rfl ?_ -- region 22
          refine TextR.move rfl ?_
          refine TextR.fieldAddr fo25_2 rfl rfl rfl ?_
          refine TextR.load1 tk23 rfl rfl ?_
          refine TextR.lenM us23 rfl rfl ?_
          refine TextR.int rfl rfl rfl ?_
          refine TextR.done (.cons rfl (.cons rfl (.cons rfl (.cons rfl .nil)))) ?_
          refine Wp.condM h rfl (fun hc5 h => ?_) (fun hc5 h => ?_)
          · refine Wp.skip ?_
            refine Wp.seq ?_
            refine Wp.block ?_
            refine Wp.seq ?_
            obtain ⟨x14, hx14, h⟩ := bind_some h
            refine Wp.text [1, 2, 10, 11] rfl rfl ?_ -- region 24
            refine TextR.fieldAddr fo25_2 rfl rfl rfl ?_
            refine TextR.load1 tk23 rfl rfl ?_
            refine TextR.move rfl ?_
            refine TextR.indexA se23 rfl rfl rfl hx14 rfl ?_
            refine TextR.loadNM tk53 rfl (at_get hx14) rfl ?_
            refine TextR.alloc 2 zc53 rfl rfl (.cons (.cons .nil)) ?_
            refine TextR.store1 tk53 rfl rfl rfl rfl rfl rfl (.succ (.succ .zero)) ?_
            refine TextR.done (.cons rfl (.cons rfl (.cons rfl (.cons rfl .nil)))) ?_
            refine Wp.seq ?_
            refine Wp.text [1, 2, 10, 11] rfl rfl ?_ -- region 25
            refine TextR.fieldAddr fo53_4 rfl rfl rfl ?_
            refine TextR.storeF (r' := [I x14.Peer, I x14.Epoch, I x14.State, B x14.Fork, B true, B x14.Token, B x14.Bottle, B x14.Ask]) tk4 rfl rfl rfl rfl rfl rfl rfl (.succ (.succ .zero)) ?_
            refine TextR.done (.cons rfl (.cons rfl (.cons rfl (.cons rfl .nil)))) ?_
            obtain ⟨y15, hy15, h⟩ := bind_some h
            refine Wp.text [1, 2, 10] rfl rfl ?_ -- region 26
            refine TextR.loadN (cs := [I c0_0_3, I c0_1_3, .slv (c0_2_3.map eSide)]) tk25 rfl rfl ?_
            refine TextR.move rfl ?_
            refine TextR.loadN (cs := [I x14.Peer, I x14.Epoch, I x14.State, B x14.Fork, B true, B x14.Token, B x14.Bottle, B x14.Ask]) tk53 rfl rfl ?_
            refine TextR.dcall rfl rfl (c_narthexref13_Set N (⟨c0_0_3, c0_1_3, c0_2_3⟩ : TDiner) s10_3 { x14 with Dirty := true } y15 hy15 _) ?_
            refine TextR.store1 tk25 rfl rfl rfl rfl rfl rfl .zero ?_
            refine TextR.done (.cons rfl (.cons rfl (.cons rfl .nil))) ?_
            refine Wp.text [1, 2, 10] rfl rfl ?_ -- region 23
            refine TextR.move rfl ?_
            refine TextR.int rfl rfl rfl ?_
            refine TextR.assign rfl ?_
            refine TextR.done (.cons rfl (.cons rfl (.cons rfl .nil))) ?_
            exact ⟨m3, Nat.lt_succ_self _, _, (St.Weak.trans (keepW (live := [1, 2, 10]) (.cons rfl (.cons rfl (.cons rfl .nil)))) (pickT (e' := [(1, .c (.ptr 0 0 0 0)), (2, .c (.ptr 1 0 0 0)), (10, .c (I (w64 (s10_3 + 1))))]) (H' := [.live 0 3 [[I y15.ID, I y15.Phase, .slv (y15.Sides.map eSide)]], .live 0 3 [[I 0, I 0, nilS]]]) [0, 1] [0, 1, 0] 0 hok.len.symm rfl rfl (by decide) (by first | rfl | simp [-List.map_set]) (by first | rfl | simp [-List.map_set]) (by first | rfl | simp [-List.map_set]) (by first | rfl | simp [-List.map_set]))), _, _, _, _, h, rfl⟩
          · refine Wp.exit ?_
            obtain rfl := Option.some.inj h
            exact ⟨_, (keepW (live := [1, 2]) (.cons rfl (.cons rfl .nil))), rfl⟩
        rintro _ ⟨S', hw, rfl⟩
        clear hz13
        refine Wp.weak hw ?_
        refine Wp.seq ?_
        refine Wp.text [2, 3, 4] rfl rfl ?_ -- region 27
        refine TextR.loadN (cs := [I z13.1, I z13.2.1, .slv (z13.2.2.map eSide)]) tk25 rfl rfl ?_
        refine TextR.store1 tk25 rfl rfl rfl rfl rfl rfl (.succ .zero) ?_
        refine TextR.assign rfl ?_
        refine TextR.assign rfl ?_
        refine TextR.done (.cons rfl (.cons rfl (.cons rfl .nil))) ?_
        refine Wp.weak (keepW (live := [2, 3, 4] ) (.cons rfl (.cons rfl (.cons rfl .nil)))) ?_
        refine Wp.weak (nzT (e' := [(2, .c (.ptr 1 0 0 0)), (3, .c (.slv ([].map eMail))), (4, .c (B true))]) (H' := [.live 0 3 [[I z13.1, I z13.2.1, .slv (z13.2.2.map eSide)]], .live 0 3 [[I z13.1, I z13.2.1, .slv (z13.2.2.map eSide)]]]) (by first | rfl | simp [-List.map_set]) (by first | rfl | simp [-List.map_set])) ?_
        refine Wp.ret ?_
        obtain rfl := Option.some.inj h
        exact Ret.three rfl (resV_cellN tk25 rfl rfl) (resV_tmp rfl) (resV_tmp rfl) rfl
      · rintro S' ⟨r10, rfl, hR⟩
        dsimp only at h
        obtain rfl := Option.some.inj h
        exact hR
  · rintro S' ⟨r2, rfl, hR⟩
    dsimp only at h
    obtain rfl := Option.some.inj h
    exact hR
theorem c_narthexref13_one (N : Nat) (a0 : TDiner) (r : TDiner × (List TMail) × Bool) (h : narthexref13_one N a0 = some r) (H : List Ob) : DCall Try.prog 70 [.agg (eDiner a0)] H (.tup [.agg (eDiner r.1), .c (.slv (r.2.1.map eMail)), .c (B r.2.2)]) := DCall.lift (by first | rfl | simp [-List.map_set]) (by first | rfl | simp [-List.map_set]) (fun _ => by simp [-List.map_set]) (w_narthexref13_one N a0 r h) H
-- narthex/narthexref13.Fire
theorem b_narthexref13_Fire (N : Nat) (a0 : TDiner) (r : TDiner × (List TMail)) (h : narthexref13_Fire N a0 = some r) : Nx.Call Try.prog 61 [.agg (eDiner a0)] [] fun r' H' => r' = .tup [.agg (eDiner r.1), .c (.sl 0 0 0 r.2.length)] ∧ ∃ junk, H' = [.live 0 5 (r.2.map eMail)] ++ junk := by
  refine Nx.Call.of_body Try.func61 rfl en61 Try.ntmps61 rfl (fun Γ hok => ?_)
  unfold narthexref13_Fire at h
  refine Wp.seq ?_
  refine Wp.text [1, 2] rfl rfl ?_ -- region 0
  refine TextR.box (cs := [I a0.ID, I a0.Phase, .slv (a0.Sides.map eSide)]) 0 rfl rfl rfl rfl .nil ?_
  refine TextR.alloc 1 zc25 rfl rfl (.cons .nil) ?_
  refine TextR.assign rfl ?_
  refine TextR.done (.cons rfl (.cons rfl .nil)) ?_
  refine Wp.seq ?_
  refine Wp.text [1, 2, 4] rfl rfl ?_ -- region 1
  refine TextR.buildSlice  2 se32 rfl rfl rfl (.cons (.cons .nil)) ?_
  refine TextR.assign rfl ?_
  refine TextR.done (.cons rfl (.cons rfl (.cons rfl .nil))) ?_
  refine Wp.seq ?_
  obtain ⟨y1, hy1, h⟩ := bind_some h
  refine Wp.text [1, 2, 4, 5, 6, 7] rfl rfl ?_ -- region 2
  refine TextR.loadN (cs := [I a0.ID, I a0.Phase, .slv (a0.Sides.map eSide)]) tk25 rfl rfl ?_
  refine TextR.dcall rfl rfl (c_narthexref13_one N a0 y1 hy1 _) ?_
  refine TextR.move rfl ?_
  refine TextR.extract rfl rfl ?_
  refine TextR.extract rfl rfl ?_
  refine TextR.extract rfl rfl ?_
  refine TextR.alloc 3 zc25 rfl rfl (.cons (.cons (.cons .nil))) ?_
  refine TextR.store1 tk25 rfl rfl rfl rfl rfl rfl (.succ (.succ (.succ .zero))) ?_
  refine TextR.assign rfl ?_
  refine TextR.assign rfl ?_
  refine TextR.done (.cons rfl (.cons rfl (.cons rfl (.cons rfl (.cons rfl (.cons rfl .nil)))))) ?_
  refine Wp.seq ?_
  obtain ⟨z2, hz2, h⟩ := bind_some h
  refine Wp.fragN (fun S => ∃ wz2_2, ∃ S', St.Weak ⟨Try.prog, 28, Γ⟩ S S' ∧ S' = ⟨[(1, .c (.ptr 0 0 0 0)), (2, .c (.ptr 1 0 0 0)), (4, .c (.sl 2 wz2_2 0 z2.1.length))], [.live 0 3 [[I z2.2.1, I z2.2.2.1, .slv (z2.2.2.2.map eSide)]], .live 0 3 [[I 0, I 0, nilS]], .live wz2_2 5 (z2.1.map eMail)]⟩) ?_ ?_
  · replace h := hz2
    refine Wp.block ?_
    refine Wp.weak (keepW (live := [1, 2, 4, 5, 6, 7]) (.cons rfl (.cons rfl (.cons rfl (.cons rfl (.cons rfl (.cons rfl .nil))))))) ?_
    refine Wp.loop (fun m S => ∃ l2_1, ∃ c0_0_1, ∃ c0_1_1, ∃ c0_2_1, ∃ c3_0_1, ∃ c3_1_1, ∃ c3_2_1, ∃ s6_1, ∃ s7_1, ∃ wh2_1, narthexref13_Fire_L1 N m l2_1 c0_0_1 c0_1_1 c0_2_1 c3_0_1 c3_1_1 c3_2_1 s6_1 s7_1 = some z2 ∧ S = ⟨[(1, .c (.ptr 0 0 0 0)), (2, .c (.ptr 1 0 0 0)), (4, .c (.sl 2 wh2_1 0 l2_1.length)), (5, .c (.ptr 3 0 0 0)), (6, .c (.slv (s6_1.map eMail))), (7, .c (B s7_1))], [.live 0 3 [[I c0_0_1, I c0_1_1, .slv (c0_2_1.map eSide)]], .live 0 3 [[I 0, I 0, nilS]], .live wh2_1 5 (l2_1.map eMail), .live 0 3 [[I c3_0_1, I c3_1_1, .slv (c3_2_1.map eSide)]]]⟩) N ⟨_, _, _, _, _, _, _, _, _, _, h, rfl⟩ ?_
    rintro m1 _ ⟨l2_1, c0_0_1, c0_1_1, c0_2_1, c3_0_1, c3_1_1, c3_2_1, s6_1, s7_1, wh2_1, h, rfl⟩
    cases m1 with
    | zero => rw [narthexref13_Fire_L1.eq_1] at h; cases h
    | succ m1 =>
    rw [narthexref13_Fire_L1.eq_2] at h
    refine Wp.seq ?_
    refine Wp.seq ?_
    refine Wp.text [1, 2, 4, 5, 6, 15] rfl rfl ?_ -- region 3
    refine TextR.move rfl ?_
    refine TextR.done (.cons rfl (.cons rfl (.cons rfl (.cons rfl (.cons rfl (.cons rfl .nil)))))) ?_
    refine Wp.condM h rfl (fun hc2 h => ?_) (fun hc2 h => ?_)
    · refine Wp.skip ?_
      refine Wp.block ?_
      refine Wp.seq ?_
      refine Wp.text [1, 2, 4, 5, 6] rfl rfl ?_ -- region 4
      refine TextR.loadN (cs := [I c3_0_1, I c3_1_1, .slv (c3_2_1.map eSide)]) tk25 rfl rfl ?_
      refine TextR.store1 tk25 rfl rfl rfl rfl rfl rfl .zero ?_
      refine TextR.done (.cons rfl (.cons rfl (.cons rfl (.cons rfl (.cons rfl .nil))))) ?_
      refine Wp.seq ?_
      obtain ⟨x3, hx3, h⟩ := bind_some h
      refine Wp.text [1, 2, 4, 5] rfl rfl ?_ -- region 5
      refine TextR.move rfl ?_
      refine TextR.move rfl ?_
      refine TextR.appendM eMail l2_1 s6_1 x3 (app_eq hx3) se32 rfl (obj_of rfl) rfl rfl (fun _ => rfl) rfl (app_len hx3) (.succ (.succ .zero)) ?_
      refine TextR.assign rfl ?_
      refine TextR.done (.cons rfl (.cons rfl (.cons rfl (.cons rfl .nil)))) ?_
      obtain ⟨y4, hy4, h⟩ := bind_some h
      refine Wp.text [1, 2, 4, 5, 6, 7] rfl rfl ?_ -- region 6
      refine TextR.loadN (cs := [I c3_0_1, I c3_1_1, .slv (c3_2_1.map eSide)]) tk25 rfl rfl ?_
      refine TextR.dcall rfl rfl (c_narthexref13_one N (⟨c3_0_1, c3_1_1, c3_2_1⟩ : TDiner) y4 hy4 _) ?_
      refine TextR.move rfl ?_
      refine TextR.extract rfl rfl ?_
      refine TextR.extract rfl rfl ?_
      refine TextR.extract rfl rfl ?_
      refine TextR.store1 tk25 rfl rfl rfl rfl rfl rfl (.succ (.succ (.succ .zero))) ?_
      refine TextR.assign rfl ?_
      refine TextR.assign rfl ?_
      refine TextR.done (.cons rfl (.cons rfl (.cons rfl (.cons rfl (.cons rfl (.cons rfl .nil)))))) ?_
      exact ⟨m1, Nat.lt_succ_self _, _, (keepW (live := [1, 2, 4, 5, 6, 7]) (.cons rfl (.cons rfl (.cons rfl (.cons rfl (.cons rfl (.cons rfl .nil))))))), _, _, _, _, _, _, _, _, _, _, h, rfl⟩
    · refine Wp.exit ?_
      obtain rfl := Option.some.inj h
      exact ⟨_, _, (St.Weak.trans (keepW (live := [1, 2, 4]) (.cons rfl (.cons rfl (.cons rfl .nil)))) (pickT (e' := [(1, .c (.ptr 0 0 0 0)), (2, .c (.ptr 1 0 0 0)), (4, .c (.sl 2 wh2_1 0 l2_1.length))]) (H' := [.live 0 3 [[I c0_0_1, I c0_1_1, .slv (c0_2_1.map eSide)]], .live 0 3 [[I 0, I 0, nilS]], .live wh2_1 5 (l2_1.map eMail)]) [0, 1, 2] [0, 1, 2, 0] 0 hok.len.symm rfl rfl (by decide) (by first | rfl | simp [-List.map_set]) (by first | rfl | simp [-List.map_set]) (by first | rfl | simp [-List.map_set]) (by first | rfl | simp [-List.map_set]))), rfl⟩
  rintro _ ⟨wz2_2, S', hw, rfl⟩
  clear hz2
  refine Wp.weak hw ?_
  refine Wp.seq ?_
  refine Wp.text [2, 3] rfl rfl ?_ -- region 7
  refine TextR.loadN (cs := [I z2.2.1, I z2.2.2.1, .slv (z2.2.2.2.map eSide)]) tk25 rfl rfl ?_
  refine TextR.move rfl ?_
  refine TextR.store1 tk25 rfl rfl rfl rfl rfl rfl (.succ .zero) ?_
  refine TextR.assign rfl ?_
  refine TextR.done (.cons rfl (.cons rfl .nil)) ?_
  refine Wp.weak (keepW (live := [2, 3] ) (.cons rfl (.cons rfl .nil))) ?_
  refine Wp.weak (pickT (e' := [(2, .c (.ptr 2 0 0 0)), (3, .c (.sl 0 wz2_2 0 z2.1.length))]) (H' := [.live wz2_2 5 (z2.1.map eMail), .live 0 3 [[I z2.2.1, I z2.2.2.1, .slv (z2.2.2.2.map eSide)]], .live 0 3 [[I z2.2.1, I z2.2.2.1, .slv (z2.2.2.2.map eSide)]]]) [2, 0, 1] [1, 2, 0] 0 hok.len.symm rfl rfl (by decide) (by first | rfl | simp [-List.map_set]) (by first | rfl | simp [-List.map_set]) (by first | rfl | simp [-List.map_set]) (by first | rfl | simp [-List.map_set])) ?_
  refine Wp.weak (reverW (h := 0) (ver := wz2_2) (rows := z2.1.map eMail) (e' := [(2, .c (.ptr 2 0 0 0)), (3, .c (.sl 0 0 0 z2.1.length))]) (H' := [.live 0 5 (z2.1.map eMail), .live 0 3 [[I z2.2.1, I z2.2.2.1, .slv (z2.2.2.2.map eSide)]], .live 0 3 [[I z2.2.1, I z2.2.2.1, .slv (z2.2.2.2.map eSide)]]]) 0 hok.len.symm rfl (obj_of rfl) (rv_self ok_eMail fx_eMail _) (by simp [rvK, allVp, allO, -List.map_set]) (by simp [rvK, allVp, allO, -List.map_set]) (by first | rfl | simp [-List.map_set]) (by first | rfl | simp [-List.map_set])) ?_
  refine Wp.ret ?_
  obtain rfl := Option.some.inj h
  exact Ret.two rfl (resV_cellN tk25 rfl rfl) (resV_tmp rfl) ⟨rfl, _, rfl⟩
theorem o_narthexref13_Fire (N : Nat) (a0 : TDiner) (r : TDiner × (List TMail)) (h : narthexref13_Fire N a0 = some r) {H H1 : List Ob} (k0 : Nat) (hh0 : H.length = k0) (hs : H ++ [.live 0 5 (r.2.map eMail)] = H1) : Nx.Call Try.prog 61 [.agg (eDiner a0)] H fun r' H' => r' = .tup [.agg (eDiner r.1), .c (.sl k0 0 0 r.2.length)] ∧ H' = H1 := by
  have hc := Call.lift (objs := [.live 0 5 (r.2.map eMail)]) (by first | rfl | simp [-List.map_set]) (by first | rfl | simp [-List.map_set]) (by have q0 := okR_eMail (p := mvL 1) r.2; simp [mvO, q0]) (b_narthexref13_Fire N a0 r h) H
  refine Call.mono hc fun r' H' ⟨h1, h2⟩ => ⟨by subst hh0; simpa [shV, shL, -List.map_set] using h1, ?_⟩
  rw [h2, ← hs]
  simp [shO, fx_eMail]
-- narthex/narthexref01.Has
theorem w_narthexref01_Has (N : Nat) (a0 : List Int) (a1 : Int) (r : Bool) (h : narthexref01_Has N a0 a1 = some r) : Nx.Call Try.prog 26 [.c (.slv (a0.map eI)), .c (I a1)] [] fun r' _ => r' = .c (B r) := by
  refine Nx.Call.of_body Try.func26 rfl en26 Try.ntmps26 rfl (fun Γ hok => ?_)
  unfold narthexref01_Has at h
  refine Wp.seq ?_
  refine Wp.text [0, 1] rfl rfl ?_ -- region 0
  refine TextR.assign rfl ?_
  refine TextR.done (.cons rfl (.cons rfl .nil)) ?_
  refine Wp.seq ?_
  refine Wp.seq ?_
  refine Wp.text [0, 1, 5] rfl rfl ?_ -- region 1
  refine TextR.assign rfl ?_
  refine TextR.done (.cons rfl (.cons rfl (.cons rfl .nil))) ?_
  obtain ⟨z1, hz1, h⟩ := bind_some h
  refine Wp.fragR (fun S => ∃ z3, z1 = .inr z3 ∧ ∃ S', St.Weak ⟨Try.prog, 18, Γ⟩ S S' ∧ S' = ⟨[], []⟩) (fun S => ∃ v, z1 = .inl v ∧ Ret Try.prog Try.f26 (fun r' _ => r' = .c (B v)) .ret S) ?_ ?_ ?_
  · replace h := hz1
    refine Wp.block ?_
    refine Wp.weak (keepW (live := [0, 1, 5]) (.cons rfl (.cons rfl (.cons rfl .nil)))) ?_
    refine Wp.loop (fun m S => ∃ s5_1, narthexref01_Has_L1 N a0 a1 m s5_1 = some z1 ∧ S = ⟨[(0, .c (.slv (a0.map eI))), (1, .c (I a1)), (5, .c (I s5_1))], []⟩) N ⟨_, h, rfl⟩ ?_
    rintro m1 _ ⟨s5_1, h, rfl⟩
    cases m1 with
    | zero => rw [narthexref01_Has_L1.eq_1] at h; cases h
    | succ m1 =>
    rw [narthexref01_Has_L1.eq_2] at h
    refine Wp.seq ?_
    refine Wp.seq ?_
    refine Wp.text [0, 1, 5, 9] rfl rfl ?_ -- region 2
    refine TextR.move rfl ?_
    refine TextR.move rfl ?_
    refine TextR.lenM us27 rfl rfl ?_
    refine TextR.int rfl rfl rfl ?_
    refine TextR.done (.cons rfl (.cons rfl (.cons rfl (.cons rfl .nil)))) ?_
    refine Wp.condM h rfl (fun hc2 h => ?_) (fun hc2 h => ?_)
    · refine Wp.skip ?_
      refine Wp.seq ?_
      refine Wp.block ?_
      refine Wp.seq ?_
      obtain ⟨x4, hx4, h⟩ := bind_some h
      refine Wp.text [0, 1, 5, 17] rfl rfl ?_ -- region 4
      refine TextR.move rfl ?_
      refine TextR.move rfl ?_
      refine TextR.indexA se27 rfl rfl rfl hx4 rfl ?_
      refine TextR.load1M tk3 rfl (at_get hx4) rfl ?_
      refine TextR.move rfl ?_
      refine TextR.int rfl rfl rfl ?_
      refine TextR.done (.cons rfl (.cons rfl (.cons rfl (.cons rfl .nil)))) ?_
      refine Wp.condM h rfl (fun hc3 h => ?_) (fun hc3 h => ?_)
      · refine Wp.seq ?_
        refine Wp.text [4] rfl rfl ?_ -- region 5
        refine TextR.assign rfl ?_
        refine TextR.done (.cons rfl .nil) ?_
        refine Wp.ret ?_
        exact ⟨_, (Option.some.inj h).symm, Ret.one rfl (resV_tmp rfl) rfl⟩
      · refine Wp.skip ?_
        refine Wp.text [0, 1, 5] rfl rfl ?_ -- region 3
        refine TextR.move rfl ?_
        refine TextR.int rfl rfl rfl ?_
        refine TextR.assign rfl ?_
        refine TextR.done (.cons rfl (.cons rfl (.cons rfl .nil))) ?_
        exact ⟨m1, Nat.lt_succ_self _, _, (keepW (live := [0, 1, 5]) (.cons rfl (.cons rfl (.cons rfl .nil)))), _, h, rfl⟩
    · refine Wp.exit ?_
      exact ⟨_, (Option.some.inj h).symm, _, (keepW (live := []) .nil), rfl⟩
  · rintro _ ⟨z3, rfl, _, hw, rfl⟩
    dsimp only at h
    clear hz1
    refine Wp.weak hw ?_
    refine Wp.seq ?_
    refine Wp.text [4] rfl rfl ?_ -- region 6
    refine TextR.assign rfl ?_
    refine TextR.done (.cons rfl .nil) ?_
    refine Wp.ret ?_
    obtain rfl := Option.some.inj h
    exact Ret.one rfl (resV_tmp rfl) rfl
  · rintro S' ⟨r2, rfl, hR⟩
    dsimp only at h
    obtain rfl := Option.some.inj h
    exact hR
theorem c_narthexref01_Has (N : Nat) (a0 : List Int) (a1 : Int) (r : Bool) (h : narthexref01_Has N a0 a1 = some r) (H : List Ob) : DCall Try.prog 26 [.c (.slv (a0.map eI)), .c (I a1)] H (.c (B r)) := DCall.lift (by first | rfl | simp [-List.map_set]) (by first | rfl | simp [-List.map_set]) (fun _ => by simp [-List.map_set]) (w_narthexref01_Has N a0 a1 r h) H
-- narthex/narthexref15.bottle
theorem w_narthexref15_bottle (N : Nat) (a0 : TDrinker) (a1 : TSide) (r : TSide × (List TMail)) (h : narthexref15_bottle N a0 a1 = some r) : Nx.Call Try.prog 62 [.agg (eDrinker a0), .agg (eSide a1)] [] fun r' _ => r' = .tup [.agg (eSide r.1), .c (.slv (r.2.map eMail))] := by
  refine Nx.Call.of_body Try.func62 rfl en62 Try.ntmps62 rfl (fun Γ hok => ?_)
  unfold narthexref15_bottle at h
  refine Wp.seq ?_
  refine Wp.text [2, 3, 4] rfl rfl ?_ -- region 0
  refine TextR.box (cs := [I a0.Diner.ID, I a0.Diner.Phase, .slv (a0.Diner.Sides.map eSide), I a0.Thirst, .slv (a0.Need.map eI)]) 0 rfl rfl rfl rfl .nil ?_
  refine TextR.box (cs := [I a1.Peer, I a1.Epoch, I a1.State, B a1.Fork, B a1.Dirty, B a1.Token, B a1.Bottle, B a1.Ask]) 1 rfl rfl rfl rfl (.cons .nil) ?_
  refine TextR.alloc 2 zc53 rfl rfl (.cons (.cons .nil)) ?_
  refine TextR.assign rfl ?_
  refine TextR.done (.cons rfl (.cons rfl (.cons rfl .nil))) ?_
  refine Wp.seq ?_
  refine Wp.text [2, 3, 4, 6] rfl rfl ?_ -- region 1
  refine TextR.buildSlice  3 se32 rfl rfl rfl (.cons (.cons (.cons .nil))) ?_
  refine TextR.assign rfl ?_
  refine TextR.done (.cons rfl (.cons rfl (.cons rfl (.cons rfl .nil)))) ?_
  refine Wp.seq ?_
  obtain ⟨y1, hy1, h⟩ := bind_some h
  refine Wp.text [2, 3, 4, 6, 7] rfl rfl ?_ -- region 2
  refine TextR.fieldAddr fo29_2 rfl rfl rfl ?_
  refine TextR.load1 tk27 rfl rfl ?_
  refine TextR.fieldAddr fo53_0 rfl rfl rfl ?_
  refine TextR.load1 tk3 rfl rfl ?_
  refine TextR.dcall rfl rfl (c_narthexref01_Has N a0.Need a1.Peer y1 hy1 _) ?_
  refine TextR.assign rfl ?_
  refine TextR.done (.cons rfl (.cons rfl (.cons rfl (.cons rfl (.cons rfl .nil))))) ?_
  refine Wp.seq ?_
  refine Wp.go false none [[], [], [(16, true)], [(16, true)], [(16, true)], [(16, true)], [(20, false), (16, true)], [(20, false), (16, true)], [(20, false), (16, true)], [(20, false), (16, true)], [(24, true), (20, false), (16, true)], [(24, true), (20, false), (16, true)], [(20, false), (16, true)], [(16, true)], [], []] [] [2, 3, 4, 6, 7, 8] mixed rfl rfl (by kernel_rfl) ?_ -- region 3
  refine RunR.move rfl rfl rfl ?_
  refine RunR.move rfl rfl rfl ?_
  refine RunR.fieldAddr fo29_1 rfl rfl rfl rfl rfl ?_
  refine RunR.load1 tk26 rfl rfl rfl rfl ?_
  refine RunR.int rfl rfl rfl rfl rfl ?_
  refine RunR.move rfl rfl rfl ?_
  refine RunR.fieldAddr fo29_1 rfl rfl rfl rfl rfl ?_
  refine RunR.load1 tk26 rfl rfl rfl rfl ?_
  refine RunR.int rfl rfl rfl rfl rfl ?_
  refine RunR.move rfl rfl rfl ?_
  refine RunR.fieldAddr fo53_3 rfl rfl rfl rfl rfl ?_
  refine RunR.load1 tk4 rfl rfl rfl rfl ?_
  refine RunR.pickAnd rfl rfl rfl rfl ?_
  refine RunR.pickOr rfl rfl rfl rfl ?_
  refine RunR.pickAnd rfl rfl rfl rfl ?_
  refine RunR.assign rfl rfl rfl ?_
  refine RunR.doneQ (.cons rfl (.cons rfl (.cons rfl (.cons rfl (.cons rfl (.cons rfl .nil)))))) ?_
  refine Wp.seq ?_
  refine Wp.seq ?_
  refine Wp.go false none [[], [], [], [(32, true)], [(32, true)], [], [], [(36, true)], [(36, true)], []] [] [2, 3, 4, 6, 7, 39] mixed rfl rfl (by kernel_rfl) ?_ -- region 4
  refine RunR.fieldAddr fo53_6 rfl rfl rfl rfl rfl ?_
  refine RunR.load1 tk4 rfl rfl rfl rfl ?_
  refine RunR.move rfl rfl rfl ?_
  refine RunR.fieldAddr fo53_7 rfl rfl rfl rfl rfl ?_
  refine RunR.load1 tk4 rfl rfl rfl rfl ?_
  refine RunR.pickAnd rfl rfl rfl rfl ?_
  refine RunR.move rfl rfl rfl ?_
  refine RunR.move rfl rfl rfl ?_
  refine RunR.not rfl rfl rfl ?_
  refine RunR.pickAnd rfl rfl rfl rfl ?_
  refine RunR.doneQ (.cons rfl (.cons rfl (.cons rfl (.cons rfl (.cons rfl (.cons rfl .nil)))))) ?_
  obtain ⟨z2, hz2, h⟩ := bind_some h
  refine Wp.fragN (fun S => ∃ wz2_3, ∃ S', St.Weak ⟨Try.prog, 83, Γ⟩ S S' ∧ S' = ⟨[(2, .c (.ptr 0 0 0 0)), (3, .c (.ptr 1 0 0 0)), (4, .c (.ptr 2 0 0 0)), (6, .c (.sl 3 wz2_3 0 z2.1.length)), (7, .c (B y1))], [.live 0 5 [[I a0.Diner.ID, I a0.Diner.Phase, .slv (a0.Diner.Sides.map eSide), I a0.Thirst, .slv (a0.Need.map eI)]], .live 0 8 [[I a1.Peer, I a1.Epoch, I a1.State, B a1.Fork, B a1.Dirty, B a1.Token, B z2.2, B a1.Ask]], .live 0 8 [[I 0, I 0, I 0, B false, B false, B false, B false, B false]], .live wz2_3 5 (z2.1.map eMail)]⟩) ?_ ?_
  · replace h := hz2
    refine Wp.condM h rfl (fun hc2 h => ?_) (fun hc2 h => ?_)
    · refine Wp.seq ?_
      refine Wp.text [2, 3, 4, 6, 7] rfl rfl ?_ -- region 5
      refine TextR.fieldAddr fo53_6 rfl rfl rfl ?_
      refine TextR.storeF (r' := [I a1.Peer, I a1.Epoch, I a1.State, B a1.Fork, B a1.Dirty, B a1.Token, B false, B a1.Ask]) tk4 rfl rfl rfl rfl rfl rfl rfl (.succ .zero) ?_
      refine TextR.done (.cons rfl (.cons rfl (.cons rfl (.cons rfl (.cons rfl .nil))))) ?_
      obtain ⟨x3, hx3, h⟩ := bind_some h
      refine Wp.text [2, 3, 4, 6, 7] rfl rfl ?_ -- region 6
      refine TextR.move rfl ?_
      refine TextR.fieldAddr fo29_0 rfl rfl rfl ?_
      refine TextR.fieldAddr fo25_0 rfl rfl rfl ?_
      refine TextR.load1 tk3 rfl rfl ?_
      refine TextR.fieldAddr fo53_0 rfl rfl rfl ?_
      refine TextR.load1 tk3 rfl rfl ?_
      refine TextR.fieldAddr fo53_1 rfl rfl rfl ?_
      refine TextR.load1 tk3 rfl rfl ?_
      refine TextR.build cm44 rfl ?_
      refine TextR.build cm61 rfl ?_
      refine TextR.buildSlice (rows := [(⟨a0.Diner.ID, a1.Peer, (⟨3, a1.Epoch, 0⟩ : TMsg)⟩ : TMail)].map eMail) 4 se32 rfl rfl rfl (.cons (.cons (.cons (.cons .nil)))) ?_
      refine TextR.appendM eMail ([] : List TMail) [(⟨a0.Diner.ID, a1.Peer, (⟨3, a1.Epoch, 0⟩ : TMsg)⟩ : TMail)] x3 (app_eq hx3) se32 rfl rfl rfl (view_whole (f := eMail) (xs := [(⟨a0.Diner.ID, a1.Peer, (⟨3, a1.Epoch, 0⟩ : TMsg)⟩ : TMail)]) rfl) (fun _ => rfl) rfl (app_len hx3) (.succ (.succ (.succ .zero))) ?_
      refine TextR.assign rfl ?_
      refine TextR.done (.cons rfl (.cons rfl (.cons rfl (.cons rfl (.cons rfl .nil))))) ?_
      obtain rfl := Option.some.inj h
      exact ⟨_, _, (St.Weak.trans (keepW (live := [2, 3, 4, 6, 7]) (.cons rfl (.cons rfl (.cons rfl (.cons rfl (.cons rfl .nil)))))) (pickT (e' := [(2, .c (.ptr 0 0 0 0)), (3, .c (.ptr 1 0 0 0)), (4, .c (.ptr 2 0 0 0)), (6, .c (.sl 3 1 0 x3.length)), (7, .c (B y1))]) (H' := [.live 0 5 [[I a0.Diner.ID, I a0.Diner.Phase, .slv (a0.Diner.Sides.map eSide), I a0.Thirst, .slv (a0.Need.map eI)]], .live 0 8 [[I a1.Peer, I a1.Epoch, I a1.State, B a1.Fork, B a1.Dirty, B a1.Token, B false, B a1.Ask]], .live 0 8 [[I 0, I 0, I 0, B false, B false, B false, B false, B false]], .live 1 5 (x3.map eMail)]) [0, 1, 2, 3] [0, 1, 2, 3, 0] 0 hok.len.symm rfl rfl (by decide) (by first | rfl | simp [-List.map_set]) (by first | rfl | simp [-List.map_set]) (by first | rfl | simp [-List.map_set]) (by first | rfl | simp [-List.map_set]))), rfl⟩
    · refine Wp.skip ?_
      obtain rfl := Option.some.inj h
      exact ⟨_, _, (keepW (live := [2, 3, 4, 6, 7]) (.cons rfl (.cons rfl (.cons rfl (.cons rfl (.cons rfl .nil)))))), rfl⟩
  rintro _ ⟨wz2_3, S', hw, rfl⟩
  clear hz2
  refine Wp.weak hw ?_
  refine Wp.seq ?_
  refine Wp.seq ?_
  refine Wp.go false none [[], [], [(54, true)], [(54, true)], [(54, true)], [], [], [(59, true)], [(59, true)], [], [], [(63, true)], [(63, true)], [(63, true)], []] [] [2, 3, 4, 6, 67] mixed rfl rfl (by kernel_rfl) ?_ -- region 7
  refine RunR.move rfl rfl rfl ?_
  refine RunR.move rfl rfl rfl ?_
  refine RunR.fieldAddr fo29_1 rfl rfl rfl rfl rfl ?_
  refine RunR.load1 tk26 rfl rfl rfl rfl ?_
  refine RunR.int rfl rfl rfl rfl rfl ?_
  refine RunR.pickAnd rfl rfl rfl rfl ?_
  refine RunR.move rfl rfl rfl ?_
  refine RunR.fieldAddr fo53_7 rfl rfl rfl rfl rfl ?_
  refine RunR.load1 tk4 rfl rfl rfl rfl ?_
  refine RunR.pickAnd rfl rfl rfl rfl ?_
  refine RunR.move rfl rfl rfl ?_
  refine RunR.fieldAddr fo53_6 rfl rfl rfl rfl rfl ?_
  refine RunR.load1 tk4 rfl rfl rfl rfl ?_
  refine RunR.not rfl rfl rfl ?_
  refine RunR.pickAnd rfl rfl rfl rfl ?_
  refine RunR.doneQ (.cons rfl (.cons rfl (.cons rfl (.cons rfl (.cons rfl .nil))))) ?_
  refine Wp.condM h rfl (fun hc1 h => ?_) (fun hc1 h => ?_)
  · refine Wp.seq ?_
    refine Wp.text [2, 3, 4, 6] rfl rfl ?_ -- region 8
    refine TextR.fieldAddr fo53_7 rfl rfl rfl ?_
    refine TextR.storeF (r' := [I a1.Peer, I a1.Epoch, I a1.State, B a1.Fork, B a1.Dirty, B a1.Token, B z2.2, B false]) tk4 rfl rfl rfl rfl rfl rfl rfl (.succ .zero) ?_
    refine TextR.done (.cons rfl (.cons rfl (.cons rfl (.cons rfl .nil)))) ?_
    obtain ⟨x4, hx4, h⟩ := bind_some h
    refine Wp.text [3, 4, 6] rfl rfl ?_ -- region 9
    refine TextR.move rfl ?_
    refine TextR.fieldAddr fo29_0 rfl rfl rfl ?_
    refine TextR.fieldAddr fo25_0 rfl rfl rfl ?_
    refine TextR.load1 tk3 rfl rfl ?_
    refine TextR.fieldAddr fo53_0 rfl rfl rfl ?_
    refine TextR.load1 tk3 rfl rfl ?_
    refine TextR.fieldAddr fo53_1 rfl rfl rfl ?_
    refine TextR.load1 tk3 rfl rfl ?_
    refine TextR.build cm44 rfl ?_
    refine TextR.build cm61 rfl ?_
    refine TextR.buildSlice (rows := [(⟨a0.Diner.ID, a1.Peer, (⟨4, a1.Epoch, 0⟩ : TMsg)⟩ : TMail)].map eMail) 4 se32 rfl rfl rfl (.cons (.cons (.cons (.cons .nil)))) ?_
    refine TextR.appendM eMail z2.1 [(⟨a0.Diner.ID, a1.Peer, (⟨4, a1.Epoch, 0⟩ : TMsg)⟩ : TMail)] x4 (app_eq hx4) se32 rfl (obj_of rfl) rfl (view_whole (f := eMail) (xs := [(⟨a0.Diner.ID, a1.Peer, (⟨4, a1.Epoch, 0⟩ : TMsg)⟩ : TMail)]) rfl) (fun _ => rfl) rfl (app_len hx4) (.succ (.succ (.succ .zero))) ?_
    refine TextR.assign rfl ?_
    refine TextR.done (.cons rfl (.cons rfl (.cons rfl .nil))) ?_
    refine Wp.seq ?_
    refine Wp.text [4, 5] rfl rfl ?_ -- region 10
    refine TextR.loadN (cs := [I a1.Peer, I a1.Epoch, I a1.State, B a1.Fork, B a1.Dirty, B a1.Token, B z2.2, B false]) tk53 rfl rfl ?_
    refine TextR.move rfl ?_
    refine TextR.store1 tk53 rfl rfl rfl rfl rfl rfl (.succ (.succ .zero)) ?_
    refine TextR.assign rfl ?_
    refine TextR.done (.cons rfl (.cons rfl .nil)) ?_
    refine Wp.weak (keepW (live := [4, 5] ) (.cons rfl (.cons rfl .nil))) ?_
    refine Wp.weak (freezeW (h := 3) (ver := (wz2_3 + 1)) (rows := x4.map eMail) (e' := [(4, .c (.ptr 2 0 0 0)), (5, .c (.slv (x4.map eMail)))]) (H' := [.live 0 5 [[I a0.Diner.ID, I a0.Diner.Phase, .slv (a0.Diner.Sides.map eSide), I a0.Thirst, .slv (a0.Need.map eI)]], .live 0 8 [[I a1.Peer, I a1.Epoch, I a1.State, B a1.Fork, B a1.Dirty, B a1.Token, B z2.2, B false]], .live 0 8 [[I a1.Peer, I a1.Epoch, I a1.State, B a1.Fork, B a1.Dirty, B a1.Token, B z2.2, B false]], .dead, .live 0 5 ([(⟨a0.Diner.ID, a1.Peer, (⟨4, a1.Epoch, 0⟩ : TMsg)⟩ : TMail)].map eMail)]) (obj_of rfl) (by first | rfl | simp [-List.map_set]) (by first | rfl | simp [-List.map_set])) ?_
    refine Wp.ret ?_
    obtain rfl := Option.some.inj h
    exact Ret.two rfl (resV_cellN tk53 rfl rfl) (resV_tmp rfl) rfl
  · refine Wp.skip ?_
    refine Wp.seq ?_
    refine Wp.text [4, 5] rfl rfl ?_ -- region 10
    refine TextR.loadN (cs := [I a1.Peer, I a1.Epoch, I a1.State, B a1.Fork, B a1.Dirty, B a1.Token, B z2.2, B a1.Ask]) tk53 rfl rfl ?_
    refine TextR.move rfl ?_
    refine TextR.store1 tk53 rfl rfl rfl rfl rfl rfl (.succ (.succ .zero)) ?_
    refine TextR.assign rfl ?_
    refine TextR.done (.cons rfl (.cons rfl .nil)) ?_
    refine Wp.weak (keepW (live := [4, 5] ) (.cons rfl (.cons rfl .nil))) ?_
    refine Wp.weak (freezeW (h := 3) (ver := wz2_3) (rows := z2.1.map eMail) (e' := [(4, .c (.ptr 2 0 0 0)), (5, .c (.slv (z2.1.map eMail)))]) (H' := [.live 0 5 [[I a0.Diner.ID, I a0.Diner.Phase, .slv (a0.Diner.Sides.map eSide), I a0.Thirst, .slv (a0.Need.map eI)]], .live 0 8 [[I a1.Peer, I a1.Epoch, I a1.State, B a1.Fork, B a1.Dirty, B a1.Token, B z2.2, B a1.Ask]], .live 0 8 [[I a1.Peer, I a1.Epoch, I a1.State, B a1.Fork, B a1.Dirty, B a1.Token, B z2.2, B a1.Ask]], .dead]) (obj_of rfl) (by first | rfl | simp [-List.map_set]) (by first | rfl | simp [-List.map_set])) ?_
    refine Wp.ret ?_
    obtain rfl := Option.some.inj h
    exact Ret.two rfl (resV_cellN tk53 rfl rfl) (resV_tmp rfl) rfl
theorem c_narthexref15_bottle (N : Nat) (a0 : TDrinker) (a1 : TSide) (r : TSide × (List TMail)) (h : narthexref15_bottle N a0 a1 = some r) (H : List Ob) : DCall Try.prog 62 [.agg (eDrinker a0), .agg (eSide a1)] H (.tup [.agg (eSide r.1), .c (.slv (r.2.map eMail))]) := DCall.lift (by first | rfl | simp [-List.map_set]) (by first | rfl | simp [-List.map_set]) (fun _ => by simp [-List.map_set]) (w_narthexref15_bottle N a0 a1 r h) H
-- narthex/narthexref15.Once
theorem w_narthexref15_Once (N : Nat) (a0 : TDrinker) (r : TDrinker × (List TMail)) (h : narthexref15_Once N a0 = some r) : Nx.Call Try.prog 43 [.agg (eDrinker a0)] [] fun r' _ => r' = .tup [.agg (eDrinker r.1), .c (.slv (r.2.map eMail))] := by
  refine Nx.Call.of_body Try.func43 rfl en43 Try.ntmps43 rfl (fun Γ hok => ?_)
  unfold narthexref15_Once at h
  refine Wp.seq ?_
  refine Wp.text [1, 2] rfl rfl ?_ -- region 0
  refine TextR.box (cs := [I a0.Diner.ID, I a0.Diner.Phase, .slv (a0.Diner.Sides.map eSide), I a0.Thirst, .slv (a0.Need.map eI)]) 0 rfl rfl rfl rfl .nil ?_
  refine TextR.alloc 1 zc29 rfl rfl (.cons .nil) ?_
  refine TextR.assign rfl ?_
  refine TextR.done (.cons rfl (.cons rfl .nil)) ?_
  refine Wp.seq ?_
  refine Wp.text [1, 2, 4] rfl rfl ?_ -- region 1
  refine TextR.assign rfl ?_
  refine TextR.done (.cons rfl (.cons rfl (.cons rfl .nil))) ?_
  refine Wp.seq ?_
  refine Wp.seq ?_
  refine Wp.text [1, 2, 4, 5] rfl rfl ?_ -- region 2
  refine TextR.assign rfl ?_
  refine TextR.done (.cons rfl (.cons rfl (.cons rfl (.cons rfl .nil)))) ?_
  obtain ⟨z1, hz1, h⟩ := bind_some h
  refine Wp.fragN (fun S => ∃ S', St.Weak ⟨Try.prog, 116, Γ⟩ S S' ∧ S' = ⟨[(1, .c (.ptr 0 0 0 0)), (2, .c (.ptr 1 0 0 0)), (4, .c (B z1))], [.live 0 5 [[I a0.Diner.ID, I a0.Diner.Phase, .slv (a0.Diner.Sides.map eSide), I a0.Thirst, .slv (a0.Need.map eI)]], .live 0 5 [[I 0, I 0, nilS, I 0, nilS]]]⟩) ?_ ?_
  · replace h := hz1
    refine Wp.block ?_
    refine Wp.weak (keepW (live := [1, 2, 4, 5]) (.cons rfl (.cons rfl (.cons rfl (.cons rfl .nil))))) ?_
    refine Wp.loop (fun m S => ∃ s4_1, ∃ s5_1, narthexref15_Once_L1 N a0 m s4_1 s5_1 = some z1 ∧ S = ⟨[(1, .c (.ptr 0 0 0 0)), (2, .c (.ptr 1 0 0 0)), (4, .c (B s4_1)), (5, .c (I s5_1))], [.live 0 5 [[I a0.Diner.ID, I a0.Diner.Phase, .slv (a0.Diner.Sides.map eSide), I a0.Thirst, .slv (a0.Need.map eI)]], .live 0 5 [[I 0, I 0, nilS, I 0, nilS]]]⟩) N ⟨_, _, h, rfl⟩ ?_
    rintro m1 _ ⟨s4_1, s5_1, h, rfl⟩
    cases m1 with
    | zero => rw [narthexref15_Once_L1.eq_1] at h; cases h
    | succ m1 =>
    rw [narthexref15_Once_L1.eq_2] at h
    refine Wp.seq ?_
    refine Wp.seq ?_
    refine Wp.text [1, 2, 4, 5, 17] rfl rfl ?_ -- region 3
    refine TextR.move rfl ?_
    refine TextR.fieldAddr fo29_0 rfl rfl rfl ?_
    refine TextR.fieldAddr fo25_2 rfl rfl rfl ?_
    refine TextR.load1 tk23 rfl rfl ?_
    refine TextR.lenM us23 rfl rfl ?_
    refine TextR.int rfl rfl rfl ?_
    refine TextR.done (.cons rfl (.cons rfl (.cons rfl (.cons rfl (.cons rfl .nil))))) ?_
    refine Wp.condM h rfl (fun hc2 h => ?_) (fun hc2 h => ?_)
    · refine Wp.skip ?_
      refine Wp.seq ?_
      refine Wp.block ?_
      obtain ⟨x2, hx2, h⟩ := bind_some h
      refine Wp.go false none [[], [], [(21, false)], [(21, false)], [(21, false)], [(21, false)], [(21, false)], [(21, false)], [(21, false)], [(21, false)], [], []] [] [1, 2, 4, 5] mixed rfl rfl (by kernel_rfl) ?_ -- region 5
      refine RunR.move rfl rfl rfl ?_
      refine RunR.move rfl rfl rfl ?_
      refine RunR.fieldAddr fo29_0 rfl rfl rfl rfl rfl ?_
      refine RunR.fieldAddr fo25_2 rfl rfl rfl rfl rfl ?_
      refine RunR.load1 tk23 rfl rfl rfl rfl ?_
      refine RunR.move rfl rfl rfl ?_
      refine RunR.indexAG se23 rfl rfl rfl rfl rfl (ifPos hx2 gF) (ifAt hx2 gF) rfl ?_
      refine RunR.fieldAddr fo53_2 rfl rfl rfl rfl rfl ?_
      refine RunR.load1G tk51 rfl rfl rfl (ifAt hx2 gF) rfl ?_
      refine RunR.int rfl rfl rfl rfl rfl ?_
      refine RunR.pickOr rfl rfl rfl rfl ?_
      refine RunR.assign rfl rfl rfl ?_
      refine RunR.doneQ (.cons rfl (.cons rfl (.cons rfl (.cons rfl .nil)))) ?_
      refine Wp.text [1, 2, 4, 5] rfl rfl ?_ -- region 4
      refine TextR.move rfl ?_
      refine TextR.int rfl rfl rfl ?_
      refine TextR.assign rfl ?_
      refine TextR.done (.cons rfl (.cons rfl (.cons rfl (.cons rfl .nil)))) ?_
      exact ⟨m1, Nat.lt_succ_self _, _, (keepW (live := [1, 2, 4, 5]) (.cons rfl (.cons rfl (.cons rfl (.cons rfl .nil))))), _, _, h, rfl⟩
    · refine Wp.exit ?_
      obtain rfl := Option.some.inj h
      exact ⟨_, (keepW (live := [1, 2, 4]) (.cons rfl (.cons rfl (.cons rfl .nil)))), rfl⟩
  rintro _ ⟨S', hw, rfl⟩
  clear hz1
  refine Wp.weak hw ?_
  refine Wp.seq ?_
  refine Wp.seq ?_
  refine Wp.go false none [[], [], [], [], [(34, true)], [(34, true)], [(34, true)], [(34, true)], []] [] [1, 2, 4, 39] mixed rfl rfl (by kernel_rfl) ?_ -- region 6
  refine RunR.fieldAddr fo29_1 rfl rfl rfl rfl rfl ?_
  refine RunR.load1 tk26 rfl rfl rfl rfl ?_
  refine RunR.int rfl rfl rfl rfl rfl ?_
  refine RunR.move rfl rfl rfl ?_
  refine RunR.fieldAddr fo29_0 rfl rfl rfl rfl rfl ?_
  refine RunR.fieldAddr fo25_1 rfl rfl rfl rfl rfl ?_
  refine RunR.load1 tk22 rfl rfl rfl rfl ?_
  refine RunR.int rfl rfl rfl rfl rfl ?_
  refine RunR.pickAnd rfl rfl rfl rfl ?_
  refine RunR.doneQ (.cons rfl (.cons rfl (.cons rfl (.cons rfl .nil)))) ?_
  obtain ⟨z3, hz3, h⟩ := bind_some h
  refine Wp.fragN (fun S => ∃ S', St.Weak ⟨Try.prog, 116, Γ⟩ S S' ∧ S' = ⟨[(1, .c (.ptr 0 0 0 0)), (2, .c (.ptr 1 0 0 0))], [.live 0 5 [[I a0.Diner.ID, I z3, .slv (a0.Diner.Sides.map eSide), I a0.Thirst, .slv (a0.Need.map eI)]], .live 0 5 [[I 0, I 0, nilS, I 0, nilS]]]⟩) ?_ ?_
  · replace h := hz3
    refine Wp.condM h rfl (fun hc2 h => ?_) (fun hc2 h => ?_)
    · refine Wp.text [1, 2] rfl rfl ?_ -- region 7
      refine TextR.fieldAddr fo29_0 rfl rfl rfl ?_
      refine TextR.fieldAddr fo25_1 rfl rfl rfl ?_
      refine TextR.storeF (r' := [I a0.Diner.ID, I 1, .slv (a0.Diner.Sides.map eSide), I a0.Thirst, .slv (a0.Need.map eI)]) tk22 rfl rfl rfl rfl rfl rfl rfl .zero ?_
      refine TextR.done (.cons rfl (.cons rfl .nil)) ?_
      obtain rfl := Option.some.inj h
      exact ⟨_, (keepW (live := [1, 2]) (.cons rfl (.cons rfl .nil))), rfl⟩
    · refine Wp.seq ?_
      refine Wp.go false none [[], [], [], [], [(45, true)], [(45, true)], [(45, true)], [(45, true)], [], [], [(51, true)], [(51, true)], []] [] [1, 2, 54] mixed rfl rfl (by kernel_rfl) ?_ -- region 8
      refine RunR.fieldAddr fo29_1 rfl rfl rfl rfl rfl ?_
      refine RunR.load1 tk26 rfl rfl rfl rfl ?_
      refine RunR.int rfl rfl rfl rfl rfl ?_
      refine RunR.move rfl rfl rfl ?_
      refine RunR.fieldAddr fo29_0 rfl rfl rfl rfl rfl ?_
      refine RunR.fieldAddr fo25_1 rfl rfl rfl rfl rfl ?_
      refine RunR.load1 tk22 rfl rfl rfl rfl ?_
      refine RunR.int rfl rfl rfl rfl rfl ?_
      refine RunR.pickAnd rfl rfl rfl rfl ?_
      refine RunR.move rfl rfl rfl ?_
      refine RunR.move rfl rfl rfl ?_
      refine RunR.not rfl rfl rfl ?_
      refine RunR.pickAnd rfl rfl rfl rfl ?_
      refine RunR.doneQ (.cons rfl (.cons rfl (.cons rfl .nil))) ?_
      refine Wp.condM h rfl (fun hc3 h => ?_) (fun hc3 h => ?_)
      · refine Wp.text [1, 2] rfl rfl ?_ -- region 9
        refine TextR.fieldAddr fo29_0 rfl rfl rfl ?_
        refine TextR.fieldAddr fo25_1 rfl rfl rfl ?_
        refine TextR.storeF (r' := [I a0.Diner.ID, I 0, .slv (a0.Diner.Sides.map eSide), I a0.Thirst, .slv (a0.Need.map eI)]) tk22 rfl rfl rfl rfl rfl rfl rfl .zero ?_
        refine TextR.done (.cons rfl (.cons rfl .nil)) ?_
        obtain rfl := Option.some.inj h
        exact ⟨_, (keepW (live := [1, 2]) (.cons rfl (.cons rfl .nil))), rfl⟩
      · refine Wp.skip ?_
        obtain rfl := Option.some.inj h
        exact ⟨_, (keepW (live := [1, 2]) (.cons rfl (.cons rfl .nil))), rfl⟩
  rintro _ ⟨S', hw, rfl⟩
  clear hz3
  refine Wp.weak hw ?_
  refine Wp.seq ?_
  obtain ⟨y4, hy4, h⟩ := bind_some h
  refine Wp.text [1, 2, 6, 7] rfl rfl ?_ -- region 10
  refine TextR.fieldAddr fo29_0 rfl rfl rfl ?_
  refine TextR.loadN (cs := [I a0.Diner.ID, I z3, .slv (a0.Diner.Sides.map eSide)]) tk25 rfl rfl ?_
  refine TextR.call rfl rfl (by exact o_narthexref13_Fire N { a0.Diner with Phase := z3 } y4 hy4 (H1 := [.live 0 5 [[I a0.Diner.ID, I z3, .slv (a0.Diner.Sides.map eSide), I a0.Thirst, .slv (a0.Need.map eI)]], .live 0 5 [[I 0, I 0, nilS, I 0, nilS]], .live 0 5 (y4.2.map eMail)]) 2 rfl rfl) (fun x H' hk => ?_)
  obtain ⟨rfl, rfl⟩ := hk
  refine TextR.move rfl ?_
  refine TextR.extract rfl rfl ?_
  refine TextR.extract rfl rfl ?_
  refine TextR.alloc 3 zc25 rfl rfl (.cons (.cons (.cons .nil))) ?_
  refine TextR.store1 tk25 rfl rfl rfl rfl rfl rfl (.succ (.succ (.succ .zero))) ?_
  refine TextR.assign rfl ?_
  refine TextR.done (.cons rfl (.cons rfl (.cons rfl (.cons rfl .nil)))) ?_
  refine Wp.seq ?_
  refine Wp.text [1, 2, 7] rfl rfl ?_ -- region 11
  refine TextR.loadN (cs := [I y4.1.ID, I y4.1.Phase, .slv (y4.1.Sides.map eSide)]) tk25 rfl rfl ?_
  refine TextR.fieldAddr fo29_0 rfl rfl rfl ?_
  refine TextR.storeF (r' := [I y4.1.ID, I y4.1.Phase, .slv (y4.1.Sides.map eSide), I a0.Thirst, .slv (a0.Need.map eI)]) tk25 rfl rfl rfl rfl rfl rfl rfl .zero ?_
  refine TextR.done (.cons rfl (.cons rfl (.cons rfl .nil))) ?_
  refine Wp.seq ?_
  refine Wp.text [1, 2, 7, 8] rfl rfl ?_ -- region 12
  refine TextR.assign rfl ?_
  refine TextR.done (.cons rfl (.cons rfl (.cons rfl (.cons rfl .nil)))) ?_
  refine Wp.seq ?_
  refine Wp.seq ?_
  refine Wp.text [1, 2, 7, 8, 9] rfl rfl ?_ -- region 13
  refine TextR.assign rfl ?_
  refine TextR.done (.cons rfl (.cons rfl (.cons rfl (.cons rfl (.cons rfl .nil))))) ?_
  obtain ⟨z5, hz5, h⟩ := bind_some h
  refine Wp.fragN (fun S => ∃ wz5_2, ∃ S', St.Weak ⟨Try.prog, 116, Γ⟩ S S' ∧ S' = ⟨[(1, .c (.ptr 0 0 0 0)), (2, .c (.ptr 1 0 0 0)), (7, .c (.sl 2 wz5_2 0 z5.1.length)), (8, .c (B z5.2.2.2.2))], [.live 0 5 [[I z5.2.1, I z5.2.2.1, .slv (z5.2.2.2.1.map eSide), I a0.Thirst, .slv (a0.Need.map eI)]], .live 0 5 [[I 0, I 0, nilS, I 0, nilS]], .live wz5_2 5 (z5.1.map eMail)]⟩) ?_ ?_
  · replace h := hz5
    refine Wp.block ?_
    refine Wp.weak (St.Weak.trans (keepW (live := [1, 2, 7, 8, 9]) (.cons rfl (.cons rfl (.cons rfl (.cons rfl (.cons rfl .nil)))))) (pickT (e' := [(1, .c (.ptr 0 0 0 0)), (2, .c (.ptr 1 0 0 0)), (7, .c (.sl 2 0 0 y4.2.length)), (8, .c (B false)), (9, .c (I 0))]) (H' := [.live 0 5 [[I y4.1.ID, I y4.1.Phase, .slv (y4.1.Sides.map eSide), I a0.Thirst, .slv (a0.Need.map eI)]], .live 0 5 [[I 0, I 0, nilS, I 0, nilS]], .live 0 5 (y4.2.map eMail)]) [0, 1, 2] [0, 1, 2, 0] 0 hok.len.symm rfl rfl (by decide) (by first | rfl | simp [-List.map_set]) (by first | rfl | simp [-List.map_set]) (by first | rfl | simp [-List.map_set]) (by first | rfl | simp [-List.map_set]))) ?_
    refine Wp.loop (fun m S => ∃ l2_2, ∃ c0_0_2, ∃ c0_1_2, ∃ c0_2_2, ∃ s8_2, ∃ s9_2, ∃ wh2_2, narthexref15_Once_L2 N a0 m l2_2 c0_0_2 c0_1_2 c0_2_2 s8_2 s9_2 = some z5 ∧ S = ⟨[(1, .c (.ptr 0 0 0 0)), (2, .c (.ptr 1 0 0 0)), (7, .c (.sl 2 wh2_2 0 l2_2.length)), (8, .c (B s8_2)), (9, .c (I s9_2))], [.live 0 5 [[I c0_0_2, I c0_1_2, .slv (c0_2_2.map eSide), I a0.Thirst, .slv (a0.Need.map eI)]], .live 0 5 [[I 0, I 0, nilS, I 0, nilS]], .live wh2_2 5 (l2_2.map eMail)]⟩) N ⟨_, _, _, _, _, _, _, h, rfl⟩ ?_
    rintro m2 _ ⟨l2_2, c0_0_2, c0_1_2, c0_2_2, s8_2, s9_2, wh2_2, h, rfl⟩
    cases m2 with
    | zero => rw [narthexref15_Once_L2.eq_1] at h; cases h
    | succ m2 =>
    rw [narthexref15_Once_L2.eq_2] at h
    refine Wp.seq ?_
    refine Wp.seq ?_
    refine Wp.text [1, 2, 7, 8, 9, 70] rfl rfl ?_ -- region 14
    refine TextR.move rfl ?_
    refine TextR.fieldAddr fo29_0 rfl rfl rfl ?_
    refine TextR.fieldAddr fo25_2 rfl rfl rfl ?_
    refine TextR.load1 tk23 rfl rfl ?_
    refine TextR.lenM us23 rfl rfl ?_
    refine TextR.int rfl rfl rfl ?_
    refine TextR.done (.cons rfl (.cons rfl (.cons rfl (.cons rfl (.cons rfl (.cons rfl .nil)))))) ?_
    refine Wp.condM h rfl (fun hc2 h => ?_) (fun hc2 h => ?_)
    · refine Wp.skip ?_
      refine Wp.seq ?_
      refine Wp.block ?_
      refine Wp.seq ?_
      obtain ⟨x6, hx6, h⟩ := bind_some h
      obtain ⟨y7, hy7, h⟩ := bind_some h
      refine Wp.go true (some ⟨[3], []⟩) [] [true, true, true, true, true, true, true, true, true, true, true, false, false, false] [1, 2, 7, 8, 9, 10, 11] mixed rfl rfl (by kernel_rfl) ?_ -- region 16
      refine RunR.loadN (cs := [I c0_0_2, I c0_1_2, .slv (c0_2_2.map eSide), I a0.Thirst, .slv (a0.Need.map eI)]) tk29 rfl rfl rfl rfl ?_
      refine RunR.fieldAddr fo29_0 rfl rfl rfl rfl rfl ?_
      refine RunR.fieldAddr fo25_2 rfl rfl rfl rfl rfl ?_
      refine RunR.load1 tk23 rfl rfl rfl rfl ?_
      refine RunR.move rfl rfl rfl ?_
      refine RunR.indexA se23 rfl rfl rfl rfl rfl hx6 rfl ?_
      refine RunR.loadNM tk53 rfl rfl rfl (at_get hx6) rfl ?_
      refine RunR.call rfl rfl rfl (fun H => c_narthexref15_bottle N { a0 with Diner := (⟨c0_0_2, c0_1_2, c0_2_2⟩ : TDiner) } x6 y7 hy7 H) ?_
      refine RunR.move rfl rfl rfl ?_
      refine RunR.extract rfl rfl rfl rfl ?_
      refine RunR.extract rfl rfl rfl rfl ?_
      refine RunR.alloc 3 zc53 rfl rfl rfl rfl (.cons (.cons (.cons .nil))) ?_
      refine RunR.store1 tk53 rfl rfl rfl rfl rfl rfl rfl rfl (.succ (.succ (.succ .zero))) ?_
      refine RunR.assign rfl rfl rfl ?_
      refine RunR.doneQ (.cons rfl (.cons rfl (.cons rfl (.cons rfl (.cons rfl (.cons rfl (.cons rfl .nil))))))) ?_
      refine Wp.seq ?_
      obtain ⟨y8, hy8, h⟩ := bind_some h
      refine Wp.text [1, 2, 7, 8, 9, 10, 11] rfl rfl ?_ -- region 17
      refine TextR.fieldAddr fo29_0 rfl rfl rfl ?_
      refine TextR.loadN (cs := [I c0_0_2, I c0_1_2, .slv (c0_2_2.map eSide)]) tk25 rfl rfl ?_
      refine TextR.move rfl ?_
      refine TextR.loadN (cs := [I y7.1.Peer, I y7.1.Epoch, I y7.1.State, B y7.1.Fork, B y7.1.Dirty, B y7.1.Token, B y7.1.Bottle, B y7.1.Ask]) tk53 rfl rfl ?_
      refine TextR.dcall rfl rfl (c_narthexref13_Set N (⟨c0_0_2, c0_1_2, c0_2_2⟩ : TDiner) s9_2 y7.1 y8 hy8 _) ?_
      refine TextR.fieldAddr fo29_0 rfl rfl rfl ?_
      refine TextR.storeF (r' := [I y8.ID, I y8.Phase, .slv (y8.Sides.map eSide), I a0.Thirst, .slv (a0.Need.map eI)]) tk25 rfl rfl rfl rfl rfl rfl rfl .zero ?_
      refine TextR.done (.cons rfl (.cons rfl (.cons rfl (.cons rfl (.cons rfl (.cons rfl (.cons rfl .nil))))))) ?_
      refine Wp.seq ?_
      obtain ⟨x9, hx9, h⟩ := bind_some h
      refine Wp.text [1, 2, 7, 8, 9, 10] rfl rfl ?_ -- region 18
      refine TextR.move rfl ?_
      refine TextR.move rfl ?_
      refine TextR.appendM eMail l2_2 y7.2 x9 (app_eq hx9) se32 rfl (obj_of rfl) rfl rfl (fun _ => rfl) rfl (app_len hx9) (.succ (.succ .zero)) ?_
      refine TextR.assign rfl ?_
      refine TextR.done (.cons rfl (.cons rfl (.cons rfl (.cons rfl (.cons rfl (.cons rfl .nil)))))) ?_
      obtain ⟨y10, hy10, h⟩ := bind_some h
      refine Wp.go false none [[], [], [(94, false)], [(94, false)], [(94, false)], [(94, false)], [(94, false)], [(94, false)], [(100, true), (94, false)], [(100, true), (94, false)], [(100, true), (94, false)], [(94, false)], [], []] [] [1, 2, 7, 8, 9] mixed rfl rfl (by kernel_rfl) ?_ -- region 19
      refine RunR.move rfl rfl rfl ?_
      refine RunR.move rfl rfl rfl ?_
      refine RunR.fieldAddr fo29_2 rfl rfl rfl rfl rfl ?_
      refine RunR.load1 tk27 rfl rfl rfl rfl ?_
      refine RunR.fieldAddr fo53_0 rfl rfl rfl rfl rfl ?_
      refine RunR.load1 tk3 rfl rfl rfl rfl ?_
      refine RunR.callG rfl rfl rfl (fun hb H => c_narthexref01_Has N a0.Need y7.1.Peer y10 (ifT hy10 gF hb) H) ?_
      refine RunR.move rfl rfl rfl ?_
      refine RunR.fieldAddr fo53_6 rfl rfl rfl rfl rfl ?_
      refine RunR.load1 tk4 rfl rfl rfl rfl ?_
      refine RunR.not rfl rfl rfl ?_
      refine RunR.pickAnd rfl rfl rfl rfl ?_
      refine RunR.pickOr rfl rfl rfl rfl ?_
      refine RunR.assign rfl rfl rfl ?_
      refine RunR.doneQ (.cons rfl (.cons rfl (.cons rfl (.cons rfl (.cons rfl .nil))))) ?_
      refine Wp.text [1, 2, 7, 8, 9] rfl rfl ?_ -- region 15
      refine TextR.move rfl ?_
      refine TextR.int rfl rfl rfl ?_
      refine TextR.assign rfl ?_
      refine TextR.done (.cons rfl (.cons rfl (.cons rfl (.cons rfl (.cons rfl .nil))))) ?_
      exact ⟨m2, Nat.lt_succ_self _, _, (St.Weak.trans (keepW (live := [1, 2, 7, 8, 9]) (.cons rfl (.cons rfl (.cons rfl (.cons rfl (.cons rfl .nil)))))) (pickT (e' := [(1, .c (.ptr 0 0 0 0)), (2, .c (.ptr 1 0 0 0)), (7, .c (.sl 2 (wh2_2 + 1) 0 x9.length)), (8, .c (B (s8_2 || (y10 && (!y7.1.Bottle))))), (9, .c (I (w64 (s9_2 + 1))))]) (H' := [.live 0 5 [[I y8.ID, I y8.Phase, .slv (y8.Sides.map eSide), I a0.Thirst, .slv (a0.Need.map eI)]], .live 0 5 [[I 0, I 0, nilS, I 0, nilS]], .live (wh2_2 + 1) 5 (x9.map eMail)]) [0, 1, 2] [0, 1, 2, 0] 0 hok.len.symm rfl rfl (by decide) (by first | rfl | simp [-List.map_set]) (by first | rfl | simp [-List.map_set]) (by first | rfl | simp [-List.map_set]) (by first | rfl | simp [-List.map_set]))), _, _, _, _, _, _, _, h, rfl⟩
    · refine Wp.exit ?_
      obtain rfl := Option.some.inj h
      exact ⟨_, _, (keepW (live := [1, 2, 7, 8]) (.cons rfl (.cons rfl (.cons rfl (.cons rfl .nil))))), rfl⟩
  rintro _ ⟨wz5_2, S', hw, rfl⟩
  clear hz5
  refine Wp.weak hw ?_
  refine Wp.seq ?_
  refine Wp.seq ?_
  refine Wp.go false none [[], [], [], [], [(109, true)], [(109, true)], []] [] [1, 2, 7, 112] mixed rfl rfl (by kernel_rfl) ?_ -- region 20
  refine RunR.fieldAddr fo29_1 rfl rfl rfl rfl rfl ?_
  refine RunR.load1 tk26 rfl rfl rfl rfl ?_
  refine RunR.int rfl rfl rfl rfl rfl ?_
  refine RunR.move rfl rfl rfl ?_
  refine RunR.move rfl rfl rfl ?_
  refine RunR.not rfl rfl rfl ?_
  refine RunR.pickAnd rfl rfl rfl rfl ?_
  refine RunR.doneQ (.cons rfl (.cons rfl (.cons rfl (.cons rfl .nil)))) ?_
  refine Wp.condM h rfl (fun hc1 h => ?_) (fun hc1 h => ?_)
  · refine Wp.text [1, 2, 7] rfl rfl ?_ -- region 21
    refine TextR.fieldAddr fo29_1 rfl rfl rfl ?_
    refine TextR.storeF (r' := [I z5.2.1, I z5.2.2.1, .slv (z5.2.2.2.1.map eSide), I 2, .slv (a0.Need.map eI)]) tk26 rfl rfl rfl rfl rfl rfl rfl .zero ?_
    refine TextR.done (.cons rfl (.cons rfl (.cons rfl .nil))) ?_
    refine Wp.seq ?_
    refine Wp.text [2, 3] rfl rfl ?_ -- region 22
    refine TextR.loadN (cs := [I z5.2.1, I z5.2.2.1, .slv (z5.2.2.2.1.map eSide), I 2, .slv (a0.Need.map eI)]) tk29 rfl rfl ?_
    refine TextR.move rfl ?_
    refine TextR.store1 tk29 rfl rfl rfl rfl rfl rfl (.succ .zero) ?_
    refine TextR.assign rfl ?_
    refine TextR.done (.cons rfl (.cons rfl .nil)) ?_
    refine Wp.weak (keepW (live := [2, 3] ) (.cons rfl (.cons rfl .nil))) ?_
    refine Wp.weak (freezeW (h := 2) (ver := wz5_2) (rows := z5.1.map eMail) (e' := [(2, .c (.ptr 1 0 0 0)), (3, .c (.slv (z5.1.map eMail)))]) (H' := [.live 0 5 [[I z5.2.1, I z5.2.2.1, .slv (z5.2.2.2.1.map eSide), I 2, .slv (a0.Need.map eI)]], .live 0 5 [[I z5.2.1, I z5.2.2.1, .slv (z5.2.2.2.1.map eSide), I 2, .slv (a0.Need.map eI)]], .dead]) (obj_of rfl) (by first | rfl | simp [-List.map_set]) (by first | rfl | simp [-List.map_set])) ?_
    refine Wp.ret ?_
    obtain rfl := Option.some.inj h
    exact Ret.two rfl (resV_cellN tk29 rfl rfl) (resV_tmp rfl) rfl
  · refine Wp.skip ?_
    refine Wp.seq ?_
    refine Wp.text [2, 3] rfl rfl ?_ -- region 22
    refine TextR.loadN (cs := [I z5.2.1, I z5.2.2.1, .slv (z5.2.2.2.1.map eSide), I a0.Thirst, .slv (a0.Need.map eI)]) tk29 rfl rfl ?_
    refine TextR.move rfl ?_
    refine TextR.store1 tk29 rfl rfl rfl rfl rfl rfl (.succ .zero) ?_
    refine TextR.assign rfl ?_
    refine TextR.done (.cons rfl (.cons rfl .nil)) ?_
    refine Wp.weak (keepW (live := [2, 3] ) (.cons rfl (.cons rfl .nil))) ?_
    refine Wp.weak (freezeW (h := 2) (ver := wz5_2) (rows := z5.1.map eMail) (e' := [(2, .c (.ptr 1 0 0 0)), (3, .c (.slv (z5.1.map eMail)))]) (H' := [.live 0 5 [[I z5.2.1, I z5.2.2.1, .slv (z5.2.2.2.1.map eSide), I a0.Thirst, .slv (a0.Need.map eI)]], .live 0 5 [[I z5.2.1, I z5.2.2.1, .slv (z5.2.2.2.1.map eSide), I a0.Thirst, .slv (a0.Need.map eI)]], .dead]) (obj_of rfl) (by first | rfl | simp [-List.map_set]) (by first | rfl | simp [-List.map_set])) ?_
    refine Wp.ret ?_
    obtain rfl := Option.some.inj h
    exact Ret.two rfl (resV_cellN tk29 rfl rfl) (resV_tmp rfl) rfl
theorem c_narthexref15_Once (N : Nat) (a0 : TDrinker) (r : TDrinker × (List TMail)) (h : narthexref15_Once N a0 = some r) (H : List Ob) : DCall Try.prog 43 [.agg (eDrinker a0)] H (.tup [.agg (eDrinker r.1), .c (.slv (r.2.map eMail))]) := DCall.lift (by first | rfl | simp [-List.map_set]) (by first | rfl | simp [-List.map_set]) (fun _ => by simp [-List.map_set]) (w_narthexref15_Once N a0 r h) H
-- narthex/narthexref15.Fire
theorem w_narthexref15_Fire (N : Nat) (a0 : TDrinker) (r : TDrinker × (List TMail)) (h : narthexref15_Fire N a0 = some r) : Nx.Call Try.prog 18 [.agg (eDrinker a0)] [] fun r' _ => r' = .tup [.agg (eDrinker r.1), .c (.slv (r.2.map eMail))] := by
  refine Nx.Call.of_body Try.func18 rfl en18 Try.ntmps18 rfl (fun Γ hok => ?_)
  unfold narthexref15_Fire at h
  refine Wp.seq ?_
  refine Wp.text [1, 2] rfl rfl ?_ -- region 0
  refine TextR.box (cs := [I a0.Diner.ID, I a0.Diner.Phase, .slv (a0.Diner.Sides.map eSide), I a0.Thirst, .slv (a0.Need.map eI)]) 0 rfl rfl rfl rfl .nil ?_
  refine TextR.alloc 1 zc29 rfl rfl (.cons .nil) ?_
  refine TextR.assign rfl ?_
  refine TextR.done (.cons rfl (.cons rfl .nil)) ?_
  refine Wp.seq ?_
  refine Wp.text [1, 2, 4] rfl rfl ?_ -- region 1
  refine TextR.buildSlice  2 se32 rfl rfl rfl (.cons (.cons .nil)) ?_
  refine TextR.assign rfl ?_
  refine TextR.done (.cons rfl (.cons rfl (.cons rfl .nil))) ?_
  obtain ⟨z1, hz1, h⟩ := bind_some h
  refine Wp.fragR (fun _ => False) (fun S => ∃ v, z1 = v ∧ Ret Try.prog Try.f18 (fun r' _ => r' = .tup [.agg (eDrinker v.1), .c (.slv (v.2.map eMail))]) .ret S) ?_ ?_ ?_
  · replace h := hz1
    refine Wp.block ?_
    refine Wp.weak (keepW (live := [1, 2, 4]) (.cons rfl (.cons rfl (.cons rfl .nil)))) ?_
    refine Wp.loop (fun m S => ∃ l2_1, ∃ c0_0_1, ∃ c0_1_1, ∃ c0_2_1, ∃ c0_3_1, ∃ c0_4_1, ∃ wh2_1, narthexref15_Fire_L1 N m l2_1 c0_0_1 c0_1_1 c0_2_1 c0_3_1 c0_4_1 = some z1 ∧ S = ⟨[(1, .c (.ptr 0 0 0 0)), (2, .c (.ptr 1 0 0 0)), (4, .c (.sl 2 wh2_1 0 l2_1.length))], [.live 0 5 [[I c0_0_1, I c0_1_1, .slv (c0_2_1.map eSide), I c0_3_1, .slv (c0_4_1.map eI)]], .live 0 5 [[I 0, I 0, nilS, I 0, nilS]], .live wh2_1 5 (l2_1.map eMail)]⟩) N ⟨_, _, _, _, _, _, _, h, rfl⟩ ?_
    rintro m1 _ ⟨l2_1, c0_0_1, c0_1_1, c0_2_1, c0_3_1, c0_4_1, wh2_1, h, rfl⟩
    cases m1 with
    | zero => rw [narthexref15_Fire_L1.eq_1] at h; cases h
    | succ m1 =>
    rw [narthexref15_Fire_L1.eq_2] at h
    refine Wp.block ?_
    refine Wp.seq ?_
    obtain ⟨y2, hy2, h⟩ := bind_some h
    refine Wp.text [1, 2, 4, 5, 6] rfl rfl ?_ -- region 2
    refine TextR.loadN (cs := [I c0_0_1, I c0_1_1, .slv (c0_2_1.map eSide), I c0_3_1, .slv (c0_4_1.map eI)]) tk29 rfl rfl ?_
    refine TextR.dcall rfl rfl (c_narthexref15_Once N (⟨(⟨c0_0_1, c0_1_1, c0_2_1⟩ : TDiner), c0_3_1, c0_4_1⟩ : TDrinker) y2 hy2 _) ?_
    refine TextR.move rfl ?_
    refine TextR.extract rfl rfl ?_
    refine TextR.extract rfl rfl ?_
    refine TextR.alloc 3 zc29 rfl rfl (.cons (.cons (.cons .nil))) ?_
    refine TextR.store1 tk29 rfl rfl rfl rfl rfl rfl (.succ (.succ (.succ .zero))) ?_
    refine TextR.assign rfl ?_
    refine TextR.done (.cons rfl (.cons rfl (.cons rfl (.cons rfl (.cons rfl .nil))))) ?_
    refine Wp.seq ?_
    obtain ⟨x3, hx3, h⟩ := bind_some h
    refine Wp.text [1, 2, 4, 5] rfl rfl ?_ -- region 3
    refine TextR.move rfl ?_
    refine TextR.move rfl ?_
    refine TextR.appendM eMail l2_1 y2.2 x3 (app_eq hx3) se32 rfl (obj_of rfl) rfl rfl (fun _ => rfl) rfl (app_len hx3) (.succ (.succ .zero)) ?_
    refine TextR.assign rfl ?_
    refine TextR.done (.cons rfl (.cons rfl (.cons rfl (.cons rfl .nil)))) ?_
    refine Wp.seq ?_
    refine Wp.seq ?_
    obtain ⟨y4, hy4, h⟩ := bind_some h
    refine Wp.text [1, 2, 4, 5, 18] rfl rfl ?_ -- region 4
    refine TextR.loadN (cs := [I y2.1.Diner.ID, I y2.1.Diner.Phase, .slv (y2.1.Diner.Sides.map eSide), I y2.1.Thirst, .slv (y2.1.Need.map eI)]) tk29 rfl rfl ?_
    refine TextR.loadN (cs := [I c0_0_1, I c0_1_1, .slv (c0_2_1.map eSide), I c0_3_1, .slv (c0_4_1.map eI)]) tk29 rfl rfl ?_
    refine TextR.dcall rfl rfl (c_narthexref15_Same N y2.1 (⟨(⟨c0_0_1, c0_1_1, c0_2_1⟩ : TDiner), c0_3_1, c0_4_1⟩ : TDrinker) y4 hy4 _) ?_
    refine TextR.done (.cons rfl (.cons rfl (.cons rfl (.cons rfl (.cons rfl .nil))))) ?_
    refine Wp.condM h rfl (fun hc2 h => ?_) (fun hc2 h => ?_)
    · refine Wp.seq ?_
      refine Wp.text [2, 3] rfl rfl ?_ -- region 5
      refine TextR.loadN (cs := [I c0_0_1, I c0_1_1, .slv (c0_2_1.map eSide), I c0_3_1, .slv (c0_4_1.map eI)]) tk29 rfl rfl ?_
      refine TextR.move rfl ?_
      refine TextR.store1 tk29 rfl rfl rfl rfl rfl rfl (.succ .zero) ?_
      refine TextR.assign rfl ?_
      refine TextR.done (.cons rfl (.cons rfl .nil)) ?_
      refine Wp.weak (keepW (live := [2, 3] ) (.cons rfl (.cons rfl .nil))) ?_
      refine Wp.weak (freezeW (h := 2) (ver := (wh2_1 + 1)) (rows := x3.map eMail) (e' := [(2, .c (.ptr 1 0 0 0)), (3, .c (.slv (x3.map eMail)))]) (H' := [.live 0 5 [[I c0_0_1, I c0_1_1, .slv (c0_2_1.map eSide), I c0_3_1, .slv (c0_4_1.map eI)]], .live 0 5 [[I c0_0_1, I c0_1_1, .slv (c0_2_1.map eSide), I c0_3_1, .slv (c0_4_1.map eI)]], .dead, .live 0 5 [[I y2.1.Diner.ID, I y2.1.Diner.Phase, .slv (y2.1.Diner.Sides.map eSide), I y2.1.Thirst, .slv (y2.1.Need.map eI)]]]) (obj_of rfl) (by first | rfl | simp [-List.map_set]) (by first | rfl | simp [-List.map_set])) ?_
      refine Wp.ret ?_
      exact ⟨_, (Option.some.inj h).symm, Ret.two rfl (resV_cellN tk29 rfl rfl) (resV_tmp rfl) rfl⟩
    · refine Wp.skip ?_
      refine Wp.text [1, 2, 4] rfl rfl ?_ -- region 6
      refine TextR.loadN (cs := [I y2.1.Diner.ID, I y2.1.Diner.Phase, .slv (y2.1.Diner.Sides.map eSide), I y2.1.Thirst, .slv (y2.1.Need.map eI)]) tk29 rfl rfl ?_
      refine TextR.store1 tk29 rfl rfl rfl rfl rfl rfl .zero ?_
      refine TextR.done (.cons rfl (.cons rfl (.cons rfl .nil))) ?_
      exact ⟨m1, Nat.lt_succ_self _, _, (St.Weak.trans (keepW (live := [1, 2, 4]) (.cons rfl (.cons rfl (.cons rfl .nil)))) (pickT (e' := [(1, .c (.ptr 0 0 0 0)), (2, .c (.ptr 1 0 0 0)), (4, .c (.sl 2 (wh2_1 + 1) 0 x3.length))]) (H' := [.live 0 5 [[I y2.1.Diner.ID, I y2.1.Diner.Phase, .slv (y2.1.Diner.Sides.map eSide), I y2.1.Thirst, .slv (y2.1.Need.map eI)]], .live 0 5 [[I 0, I 0, nilS, I 0, nilS]], .live (wh2_1 + 1) 5 (x3.map eMail)]) [0, 1, 2] [0, 1, 2, 0] 0 hok.len.symm rfl rfl (by decide) (by first | rfl | simp [-List.map_set]) (by first | rfl | simp [-List.map_set]) (by first | rfl | simp [-List.map_set]) (by first | rfl | simp [-List.map_set]))), _, _, _, _, _, _, _, h, rfl⟩
  · exact fun _ h => h.elim
  · rintro S' ⟨z1, rfl, hR⟩
    obtain rfl := Option.some.inj h
    exact hR
theorem c_narthexref15_Fire (N : Nat) (a0 : TDrinker) (r : TDrinker × (List TMail)) (h : narthexref15_Fire N a0 = some r) (H : List Ob) : DCall Try.prog 18 [.agg (eDrinker a0)] H (.tup [.agg (eDrinker r.1), .c (.slv (r.2.map eMail))]) := DCall.lift (by first | rfl | simp [-List.map_set]) (by first | rfl | simp [-List.map_set]) (fun _ => by simp [-List.map_set]) (w_narthexref15_Fire N a0 r h) H
-- narthex/narthexref13.SameMail
theorem w_narthexref13_SameMail (N : Nat) (a0 : List TMail) (a1 : List TMail) (r : Bool) (h : narthexref13_SameMail N a0 a1 = some r) : Nx.Call Try.prog 19 [.c (.slv (a0.map eMail)), .c (.slv (a1.map eMail))] [] fun r' _ => r' = .c (B r) := by
  refine Nx.Call.of_body Try.func19 rfl en19 Try.ntmps19 rfl (fun Γ hok => ?_)
  unfold narthexref13_SameMail at h
  refine Wp.seq ?_
  refine Wp.text [0, 1] rfl rfl ?_ -- region 0
  refine TextR.assign rfl ?_
  refine TextR.done (.cons rfl (.cons rfl .nil)) ?_
  refine Wp.seq ?_
  refine Wp.seq ?_
  refine Wp.text [0, 1, 10] rfl rfl ?_ -- region 1
  refine TextR.move rfl ?_
  refine TextR.lenM us32 rfl rfl ?_
  refine TextR.move rfl ?_
  refine TextR.lenM us32 rfl rfl ?_
  refine TextR.int rfl rfl rfl ?_
  refine TextR.done (.cons rfl (.cons rfl (.cons rfl .nil))) ?_
  refine Wp.condM h rfl (fun hc1 h => ?_) (fun hc1 h => ?_)
  · refine Wp.seq ?_
    refine Wp.text [4] rfl rfl ?_ -- region 2
    refine TextR.assign rfl ?_
    refine TextR.done (.cons rfl .nil) ?_
    refine Wp.ret ?_
    obtain rfl := Option.some.inj h
    exact Ret.one rfl (resV_tmp rfl) rfl
  · refine Wp.skip ?_
    refine Wp.seq ?_
    refine Wp.seq ?_
    refine Wp.text [0, 1, 5] rfl rfl ?_ -- region 3
    refine TextR.assign rfl ?_
    refine TextR.done (.cons rfl (.cons rfl (.cons rfl .nil))) ?_
    obtain ⟨z1, hz1, h⟩ := bind_some h
    refine Wp.fragR (fun S => ∃ z3, z1 = .inr z3 ∧ ∃ S', St.Weak ⟨Try.prog, 26, Γ⟩ S S' ∧ S' = ⟨[], []⟩) (fun S => ∃ v, z1 = .inl v ∧ Ret Try.prog Try.f19 (fun r' _ => r' = .c (B v)) .ret S) ?_ ?_ ?_
    · replace h := hz1
      refine Wp.block ?_
      refine Wp.weak (keepW (live := [0, 1, 5]) (.cons rfl (.cons rfl (.cons rfl .nil)))) ?_
      refine Wp.loop (fun m S => ∃ s5_1, narthexref13_SameMail_L1 N a0 a1 m s5_1 = some z1 ∧ S = ⟨[(0, .c (.slv (a0.map eMail))), (1, .c (.slv (a1.map eMail))), (5, .c (I s5_1))], []⟩) N ⟨_, h, rfl⟩ ?_
      rintro m1 _ ⟨s5_1, h, rfl⟩
      cases m1 with
      | zero => rw [narthexref13_SameMail_L1.eq_1] at h; cases h
      | succ m1 =>
      rw [narthexref13_SameMail_L1.eq_2] at h
      refine Wp.seq ?_
      refine Wp.seq ?_
      refine Wp.text [0, 1, 5, 14] rfl rfl ?_ -- region 4
      refine TextR.move rfl ?_
      refine TextR.move rfl ?_
      refine TextR.lenM us32 rfl rfl ?_
      refine TextR.int rfl rfl rfl ?_
      refine TextR.done (.cons rfl (.cons rfl (.cons rfl (.cons rfl .nil)))) ?_
      refine Wp.condM h rfl (fun hc3 h => ?_) (fun hc3 h => ?_)
      · refine Wp.skip ?_
        refine Wp.seq ?_
        refine Wp.block ?_
        refine Wp.seq ?_
        obtain ⟨x4, hx4, h⟩ := bind_some h
        obtain ⟨x5, hx5, h⟩ := bind_some h
        refine Wp.go true (some ⟨[], []⟩) [] [] [0, 1, 5, 25] mixed rfl rfl (by kernel_rfl) ?_ -- region 6
        refine RunR.move rfl rfl rfl ?_
        refine RunR.move rfl rfl rfl ?_
        refine RunR.indexA se32 rfl rfl rfl rfl rfl hx4 rfl ?_
        refine RunR.loadNM tk61 rfl rfl rfl (at_get hx4) rfl ?_
        refine RunR.move rfl rfl rfl ?_
        refine RunR.move rfl rfl rfl ?_
        refine RunR.indexA se32 rfl rfl rfl rfl rfl hx5 rfl ?_
        refine RunR.loadNM tk61 rfl rfl rfl (at_get hx5) rfl ?_
        refine RunR.neAgg eqs61 rfl rfl rfl rfl (q_Mail x4 x5) ?_
        refine RunR.doneQ (.cons rfl (.cons rfl (.cons rfl (.cons rfl .nil)))) ?_
        refine Wp.condM h rfl (fun hc4 h => ?_) (fun hc4 h => ?_)
        · refine Wp.seq ?_
          refine Wp.text [4] rfl rfl ?_ -- region 7
          refine TextR.assign rfl ?_
          refine TextR.done (.cons rfl .nil) ?_
          refine Wp.ret ?_
          exact ⟨_, (Option.some.inj h).symm, Ret.one rfl (resV_tmp rfl) rfl⟩
        · refine Wp.skip ?_
          refine Wp.text [0, 1, 5] rfl rfl ?_ -- region 5
          refine TextR.move rfl ?_
          refine TextR.int rfl rfl rfl ?_
          refine TextR.assign rfl ?_
          refine TextR.done (.cons rfl (.cons rfl (.cons rfl .nil))) ?_
          exact ⟨m1, Nat.lt_succ_self _, _, (keepW (live := [0, 1, 5]) (.cons rfl (.cons rfl (.cons rfl .nil)))), _, h, rfl⟩
      · refine Wp.exit ?_
        exact ⟨_, (Option.some.inj h).symm, _, (keepW (live := []) .nil), rfl⟩
    · rintro _ ⟨z3, rfl, _, hw, rfl⟩
      dsimp only at h
      clear hz1
      refine Wp.weak hw ?_
      refine Wp.seq ?_
      refine Wp.text [4] rfl rfl ?_ -- region 8
      refine TextR.assign rfl ?_
      refine TextR.done (.cons rfl .nil) ?_
      refine Wp.ret ?_
      obtain rfl := Option.some.inj h
      exact Ret.one rfl (resV_tmp rfl) rfl
    · rintro S' ⟨r2, rfl, hR⟩
      dsimp only at h
      obtain rfl := Option.some.inj h
      exact hR
theorem c_narthexref13_SameMail (N : Nat) (a0 : List TMail) (a1 : List TMail) (r : Bool) (h : narthexref13_SameMail N a0 a1 = some r) (H : List Ob) : DCall Try.prog 19 [.c (.slv (a0.map eMail)), .c (.slv (a1.map eMail))] H (.c (B r)) := DCall.lift (by first | rfl | simp [-List.map_set]) (by first | rfl | simp [-List.map_set]) (fun _ => by simp [-List.map_set]) (w_narthexref13_SameMail N a0 a1 r h) H
-- narthex/narthexlaw15.DrinkFires
theorem w_narthexlaw15_DrinkFires (N : Nat) (a0 : TDrinker) (a1 : TDrinker) (r : Bool) (h : narthexlaw15_DrinkFires N a0 a1 = some r) : Nx.Call Try.prog 3 [.agg (eDrinker a0), .agg (eDrinker a1)] [] fun r' _ => r' = .c (B r) := by
  refine Nx.Call.of_body Try.func3 rfl en3 Try.ntmps3 rfl (fun Γ hok => ?_)
  unfold narthexlaw15_DrinkFires at h
  refine Wp.seq ?_
  refine Wp.text [2, 3] rfl rfl ?_ -- region 0
  refine TextR.box (cs := [I a0.Diner.ID, I a0.Diner.Phase, .slv (a0.Diner.Sides.map eSide), I a0.Thirst, .slv (a0.Need.map eI)]) 0 rfl rfl rfl rfl .nil ?_
  refine TextR.box (cs := [I a1.Diner.ID, I a1.Diner.Phase, .slv (a1.Diner.Sides.map eSide), I a1.Thirst, .slv (a1.Need.map eI)]) 1 rfl rfl rfl rfl (.cons .nil) ?_
  refine TextR.assign rfl ?_
  refine TextR.done (.cons rfl (.cons rfl .nil)) ?_
  refine Wp.seq ?_
  refine Wp.seq ?_
  obtain ⟨y1, hy1, h⟩ := bind_some h
  obtain ⟨y2, hy2, h⟩ := bind_some h
  obtain ⟨y3, hy3, h⟩ := bind_some h
  refine Wp.go false none [[], [], [], [(12, false)], [(12, false)], [(12, false)], [], [], [(17, false)], [(17, false)], [(17, false)], []] [] [2, 3, 21] mixed rfl rfl (by kernel_rfl) ?_ -- region 1
  refine RunR.call rfl rfl rfl (fun H => c_narthexlaw15_awake N y1 hy1 H) ?_
  refine RunR.not rfl rfl rfl ?_
  refine RunR.move rfl rfl rfl ?_
  refine RunR.loadN (cs := [I a0.Diner.ID, I a0.Diner.Phase, .slv (a0.Diner.Sides.map eSide), I a0.Thirst, .slv (a0.Need.map eI)]) tk29 rfl rfl rfl rfl ?_
  refine RunR.callG rfl rfl rfl (fun hb H => c_narthexlaw15_few N a0 y2 (ifT hy2 gF hb) H) ?_
  refine RunR.not rfl rfl rfl ?_
  refine RunR.pickOr rfl rfl rfl rfl ?_
  refine RunR.move rfl rfl rfl ?_
  refine RunR.loadN (cs := [I a1.Diner.ID, I a1.Diner.Phase, .slv (a1.Diner.Sides.map eSide), I a1.Thirst, .slv (a1.Need.map eI)]) tk29 rfl rfl rfl rfl ?_
  refine RunR.callG rfl rfl rfl (fun hb H => c_narthexlaw15_few N a1 y3 (ifT hy3 gF hb) H) ?_
  refine RunR.not rfl rfl rfl ?_
  refine RunR.pickOr rfl rfl rfl rfl ?_
  refine RunR.doneQ (.cons rfl (.cons rfl (.cons rfl .nil))) ?_
  refine Wp.condM h rfl (fun hc1 h => ?_) (fun hc1 h => ?_)
  · refine Wp.seq ?_
    obtain ⟨y4, hy4, h⟩ := bind_some h
    refine Wp.text [4] rfl rfl ?_ -- region 2
    refine TextR.dcall rfl rfl (c_narthexlaw15_awake N y4 hy4 _) ?_
    refine TextR.assign rfl ?_
    refine TextR.done (.cons rfl .nil) ?_
    refine Wp.ret ?_
    obtain rfl := Option.some.inj h
    exact Ret.one rfl (resV_tmp rfl) rfl
  · refine Wp.skip ?_
    refine Wp.seq ?_
    obtain ⟨y5, hy5, h⟩ := bind_some h
    obtain ⟨y6, hy6, h⟩ := bind_some h
    refine Wp.text [2, 3, 5, 6, 7] rfl rfl ?_ -- region 3
    refine TextR.loadN (cs := [I a0.Diner.ID, I a0.Diner.Phase, .slv (a0.Diner.Sides.map eSide), I a0.Thirst, .slv (a0.Need.map eI)]) tk29 rfl rfl ?_
    refine TextR.dcall rfl rfl (c_narthexlaw15_Own N a0 y5 hy5 _) ?_
    refine TextR.dcall rfl rfl (c_drink_Fire N y5 y6 hy6 _) ?_
    refine TextR.move rfl ?_
    refine TextR.extract rfl rfl ?_
    refine TextR.extract rfl rfl ?_
    refine TextR.extract rfl rfl ?_
    refine TextR.alloc 2 zc29 rfl rfl (.cons (.cons .nil)) ?_
    refine TextR.store1 tk29 rfl rfl rfl rfl rfl rfl (.succ (.succ .zero)) ?_
    refine TextR.assign rfl ?_
    refine TextR.assign rfl ?_
    refine TextR.done (.cons rfl (.cons rfl (.cons rfl (.cons rfl (.cons rfl .nil))))) ?_
    refine Wp.seq ?_
    refine Wp.seq ?_
    obtain ⟨y7, hy7, h⟩ := bind_some h
    obtain ⟨y8, hy8, h⟩ := bind_some h
    obtain ⟨y9, hy9, h⟩ := bind_some h
    obtain ⟨y10, hy10, h⟩ := bind_some h
    refine Wp.go true (some ⟨[], []⟩) [] [] [2, 5, 6, 7, 38] mixed rfl rfl (by kernel_rfl) ?_ -- region 4
    refine RunR.loadN (cs := [I a0.Diner.ID, I a0.Diner.Phase, .slv (a0.Diner.Sides.map eSide), I a0.Thirst, .slv (a0.Need.map eI)]) tk29 rfl rfl rfl rfl ?_
    refine RunR.call rfl rfl rfl (fun H => c_narthexlaw15_Own N a0 y7 hy7 H) ?_
    refine RunR.loadN (cs := [I a1.Diner.ID, I a1.Diner.Phase, .slv (a1.Diner.Sides.map eSide), I a1.Thirst, .slv (a1.Need.map eI)]) tk29 rfl rfl rfl rfl ?_
    refine RunR.call rfl rfl rfl (fun H => c_narthexlaw15_Own N a1 y8 hy8 H) ?_
    refine RunR.call rfl rfl rfl (fun H => c_drink_Same N y7 y8 y9 hy9 H) ?_
    refine RunR.loadN (cs := [I a0.Diner.ID, I a0.Diner.Phase, .slv (a0.Diner.Sides.map eSide), I a0.Thirst, .slv (a0.Need.map eI)]) tk29 rfl rfl rfl rfl ?_
    refine RunR.loadN (cs := [I a1.Diner.ID, I a1.Diner.Phase, .slv (a1.Diner.Sides.map eSide), I a1.Thirst, .slv (a1.Need.map eI)]) tk29 rfl rfl rfl rfl ?_
    refine RunR.call rfl rfl rfl (fun H => c_narthexref15_Same N a0 a1 y10 hy10 H) ?_
    refine RunR.neBool (by kernel_rfl) rfl rfl rfl rfl ?_
    refine RunR.doneQ (.cons rfl (.cons rfl (.cons rfl (.cons rfl (.cons rfl .nil))))) ?_
    refine Wp.condM h rfl (fun hc2 h => ?_) (fun hc2 h => ?_)
    · refine Wp.seq ?_
      refine Wp.text [4] rfl rfl ?_ -- region 5
      refine TextR.assign rfl ?_
      refine TextR.done (.cons rfl .nil) ?_
      refine Wp.ret ?_
      obtain rfl := Option.some.inj h
      exact Ret.one rfl (resV_tmp rfl) rfl
    · refine Wp.skip ?_
      refine Wp.seq ?_
      refine Wp.seq ?_
      obtain ⟨y11, hy11, h⟩ := bind_some h
      refine Wp.text [2, 5, 6, 7, 41] rfl rfl ?_ -- region 6
      refine TextR.loadN (cs := [I a0.Diner.ID, I a0.Diner.Phase, .slv (a0.Diner.Sides.map eSide), I a0.Thirst, .slv (a0.Need.map eI)]) tk29 rfl rfl ?_
      refine TextR.dcall rfl rfl (c_narthexref15_Check N a0 y11 hy11 _) ?_
      refine TextR.not rfl ?_
      refine TextR.done (.cons rfl (.cons rfl (.cons rfl (.cons rfl (.cons rfl .nil))))) ?_
      refine Wp.condM h rfl (fun hc3 h => ?_) (fun hc3 h => ?_)
      · refine Wp.seq ?_
        obtain ⟨y12, hy12, h⟩ := bind_some h
        obtain ⟨y13, hy13, h⟩ := bind_some h
        obtain ⟨y14, hy14, h⟩ := bind_some h
        refine Wp.go false none [[], [], [], [], [(45, true)], [(45, true)], [(45, true)], [], [], [(50, true)], [(50, true)], [], [], [(54, true)], [(54, true)], [(54, true)], [(54, true)], [], []] [] [4] mixed rfl rfl (by kernel_rfl) ?_ -- region 7
        refine RunR.loadN (cs := [I y6.1.Diner.ID, I y6.1.Diner.Phase, .slv (y6.1.Diner.Sides.map eSide), I y6.1.Thirst, .slv (y6.1.Need.map eI)]) tk29 rfl rfl rfl rfl ?_
        refine RunR.build cm29 rfl rfl rfl ?_
        refine RunR.call rfl rfl rfl (fun H => DCall.nz rfl (c_narthexref15_Same N y6.1 (⟨(⟨0, 0, []⟩ : TDiner), 0, []⟩ : TDrinker) y12 hy12 H)) ?_
        refine RunR.move rfl rfl rfl ?_
        refine RunR.move rfl rfl rfl ?_
        refine RunR.lenM us32 rfl rfl rfl rfl ?_
        refine RunR.int rfl rfl rfl rfl rfl ?_
        refine RunR.pickAnd rfl rfl rfl rfl ?_
        refine RunR.move rfl rfl rfl ?_
        refine RunR.move rfl rfl rfl ?_
        refine RunR.int rfl rfl rfl rfl rfl ?_
        refine RunR.pickAnd rfl rfl rfl rfl ?_
        refine RunR.move rfl rfl rfl ?_
        refine RunR.loadN (cs := [I a0.Diner.ID, I a0.Diner.Phase, .slv (a0.Diner.Sides.map eSide), I a0.Thirst, .slv (a0.Need.map eI)]) tk29 rfl rfl rfl rfl ?_
        refine RunR.callG rfl rfl rfl (fun hb H => c_narthexlaw15_Own N a0 y13 (ifT hy13 gT hb) H) ?_
        refine RunR.callG rfl rfl rfl (fun hb H => c_drink_Check N y13 y14 (ifT hy14 gT hb) H) ?_
        refine RunR.int rfl rfl rfl rfl rfl ?_
        refine RunR.pickAnd rfl rfl rfl rfl ?_
        refine RunR.assign rfl rfl rfl ?_
        refine RunR.doneQ (.cons rfl .nil) ?_
        refine Wp.ret ?_
        obtain rfl := Option.some.inj h
        exact Ret.one rfl (resV_tmp rfl) rfl
      · refine Wp.skip ?_
        refine Wp.seq ?_
        obtain ⟨y15, hy15, h⟩ := bind_some h
        refine Wp.text [2, 5, 6, 7, 8, 9] rfl rfl ?_ -- region 8
        refine TextR.loadN (cs := [I a0.Diner.ID, I a0.Diner.Phase, .slv (a0.Diner.Sides.map eSide), I a0.Thirst, .slv (a0.Need.map eI)]) tk29 rfl rfl ?_
        refine TextR.dcall rfl rfl (c_narthexref15_Fire N a0 y15 hy15 _) ?_
        refine TextR.move rfl ?_
        refine TextR.extract rfl rfl ?_
        refine TextR.extract rfl rfl ?_
        refine TextR.alloc 3 zc29 rfl rfl (.cons (.cons (.cons .nil))) ?_
        refine TextR.store1 tk29 rfl rfl rfl rfl rfl rfl (.succ (.succ (.succ .zero))) ?_
        refine TextR.assign rfl ?_
        refine TextR.done (.cons rfl (.cons rfl (.cons rfl (.cons rfl (.cons rfl (.cons rfl .nil)))))) ?_
        refine Wp.seq ?_
        obtain ⟨y16, hy16, h⟩ := bind_some h
        obtain ⟨y17, hy17, h⟩ := bind_some h
        obtain ⟨y18, hy18, h⟩ := bind_some h
        obtain ⟨y19, hy19, h⟩ := bind_some h
        refine Wp.go false none [[], [], [], [], [(68, true)], [(68, true)], [(68, true)], [], [], [(73, true)], [(73, true)], [], [], [(77, true)], [(77, true)], [(77, true)], [(77, true)], [], []] [] [4] mixed rfl rfl (by kernel_rfl) ?_ -- region 9
        refine RunR.loadN (cs := [I y6.1.Diner.ID, I y6.1.Diner.Phase, .slv (y6.1.Diner.Sides.map eSide), I y6.1.Thirst, .slv (y6.1.Need.map eI)]) tk29 rfl rfl rfl rfl ?_
        refine RunR.loadN (cs := [I y15.1.Diner.ID, I y15.1.Diner.Phase, .slv (y15.1.Diner.Sides.map eSide), I y15.1.Thirst, .slv (y15.1.Need.map eI)]) tk29 rfl rfl rfl rfl ?_
        refine RunR.call rfl rfl rfl (fun H => c_narthexref15_Same N y6.1 y15.1 y16 hy16 H) ?_
        refine RunR.move rfl rfl rfl ?_
        refine RunR.move rfl rfl rfl ?_
        refine RunR.move rfl rfl rfl ?_
        refine RunR.callG rfl rfl rfl (fun hb H => c_narthexref13_SameMail N y6.2.1 y15.2 y17 (ifT hy17 gT hb) H) ?_
        refine RunR.pickAnd rfl rfl rfl rfl ?_
        refine RunR.move rfl rfl rfl ?_
        refine RunR.move rfl rfl rfl ?_
        refine RunR.int rfl rfl rfl rfl rfl ?_
        refine RunR.pickAnd rfl rfl rfl rfl ?_
        refine RunR.move rfl rfl rfl ?_
        refine RunR.loadN (cs := [I a0.Diner.ID, I a0.Diner.Phase, .slv (a0.Diner.Sides.map eSide), I a0.Thirst, .slv (a0.Need.map eI)]) tk29 rfl rfl rfl rfl ?_
        refine RunR.callG rfl rfl rfl (fun hb H => c_narthexlaw15_Own N a0 y18 (ifT hy18 gT hb) H) ?_
        refine RunR.callG rfl rfl rfl (fun hb H => c_drink_Check N y18 y19 (ifT hy19 gT hb) H) ?_
        refine RunR.int rfl rfl rfl rfl rfl ?_
        refine RunR.pickAnd rfl rfl rfl rfl ?_
        refine RunR.assign rfl rfl rfl ?_
        refine RunR.doneQ (.cons rfl .nil) ?_
        refine Wp.ret ?_
        obtain rfl := Option.some.inj h
        exact Ret.one rfl (resV_tmp rfl) rfl
-- narthex/narthexref13.Get
theorem w_narthexref13_Get (N : Nat) (a0 : TDiner) (a1 : Int) (a2 : TMsg) (r : TDiner × Int) (h : narthexref13_Get N a0 a1 a2 = some r) : Nx.Call Try.prog 48 [.agg (eDiner a0), .c (I a1), .agg (eMsg a2)] [] fun r' _ => r' = .tup [.agg (eDiner r.1), .c (I r.2)] := by
  refine Nx.Call.of_body Try.func48 rfl en48 Try.ntmps48 rfl (fun Γ hok => ?_)
  unfold narthexref13_Get at h
  refine Wp.seq ?_
  refine Wp.text [1, 3, 5, 6] rfl rfl ?_ -- region 0
  refine TextR.box (cs := [I a0.ID, I a0.Phase, .slv (a0.Sides.map eSide)]) 0 rfl rfl rfl rfl .nil ?_
  refine TextR.box (cs := [I a2.Kind, I a2.Epoch, I a2.Num]) 1 rfl rfl rfl rfl (.cons .nil) ?_
  refine TextR.alloc 2 zc25 rfl rfl (.cons (.cons .nil)) ?_
  refine TextR.assign rfl ?_
  refine TextR.done (.cons rfl (.cons rfl (.cons rfl (.cons rfl .nil)))) ?_
  refine Wp.seq ?_
  refine Wp.seq ?_
  obtain ⟨y1, hy1, h⟩ := bind_some h
  refine Wp.text [1, 3, 5, 6, 12] rfl rfl ?_ -- region 1
  refine TextR.loadN (cs := [I a0.ID, I a0.Phase, .slv (a0.Sides.map eSide)]) tk25 rfl rfl ?_
  refine TextR.dcall rfl rfl (c_narthexref13_Check N a0 y1 hy1 _) ?_
  refine TextR.not rfl ?_
  refine TextR.done (.cons rfl (.cons rfl (.cons rfl (.cons rfl (.cons rfl .nil))))) ?_
  refine Wp.condM h rfl (fun hc1 h => ?_) (fun hc1 h => ?_)
  · refine Wp.seq ?_
    refine Wp.text [6, 7] rfl rfl ?_ -- region 2
    refine TextR.build cm25 rfl ?_
    refine TextR.store1 tk25 rfl rfl rfl rfl rfl rfl (.succ (.succ .zero)) ?_
    refine TextR.assign rfl ?_
    refine TextR.done (.cons rfl (.cons rfl .nil)) ?_
    refine Wp.weak (keepW (live := [6, 7] ) (.cons rfl (.cons rfl .nil))) ?_
    refine Wp.weak (nzT (e' := [(6, .c (.ptr 2 0 0 0)), (7, .c (I 130))]) (H' := [.live 0 3 [[I a0.ID, I a0.Phase, .slv (a0.Sides.map eSide)]], .live 0 3 [[I a2.Kind, I a2.Epoch, I a2.Num]], .live 0 3 [[I 0, I 0, .slv ([].map eSide)]]]) (by first | rfl | simp [-List.map_set]) (by first | rfl | simp [-List.map_set])) ?_
    refine Wp.ret ?_
    obtain rfl := Option.some.inj h
    exact Ret.two rfl (resV_cellN tk25 rfl rfl) (resV_tmp rfl) rfl
  · refine Wp.skip ?_
    refine Wp.seq ?_
    refine Wp.seq ?_
    refine Wp.text [1, 3, 5, 6, 8] rfl rfl ?_ -- region 3
    refine TextR.assign rfl ?_
    refine TextR.done (.cons rfl (.cons rfl (.cons rfl (.cons rfl (.cons rfl .nil))))) ?_
    obtain ⟨z2, hz2, h⟩ := bind_some h
    refine Wp.fragR (fun S => ∃ z4, z2 = .inr z4 ∧ ∃ S', St.Weak ⟨Try.prog, 78, Γ⟩ S S' ∧ S' = ⟨[(6, .c (.ptr 0 0 0 0))], [.live 0 3 [[I 0, I 0, nilS]]]⟩) (fun S => ∃ v, z2 = .inl v ∧ Ret Try.prog Try.f48 (fun r' _ => r' = .tup [.agg (eDiner v.1), .c (I v.2)]) .ret S) ?_ ?_ ?_
    · replace h := hz2
      refine Wp.block ?_
      refine Wp.weak (keepW (live := [1, 3, 5, 6, 8]) (.cons rfl (.cons rfl (.cons rfl (.cons rfl (.cons rfl .nil)))))) ?_
      refine Wp.loop (fun m S => ∃ s8_1, narthexref13_Get_L1 N a0 a1 a2 m s8_1 = some z2 ∧ S = ⟨[(1, .c (I a1)), (3, .c (.ptr 0 0 0 0)), (5, .c (.ptr 1 0 0 0)), (6, .c (.ptr 2 0 0 0)), (8, .c (I s8_1))], [.live 0 3 [[I a0.ID, I a0.Phase, .slv (a0.Sides.map eSide)]], .live 0 3 [[I a2.Kind, I a2.Epoch, I a2.Num]], .live 0 3 [[I 0, I 0, nilS]]]⟩) N ⟨_, h, rfl⟩ ?_
      rintro m1 _ ⟨s8_1, h, rfl⟩
      cases m1 with
      | zero => rw [narthexref13_Get_L1.eq_1] at h; cases h
      | succ m1 =>
      rw [narthexref13_Get_L1.eq_2] at h
      refine Wp.seq ?_
      refine Wp.seq ?_
      refine Wp.text [1, 3, 5, 6, 8, 18] rfl rfl ?_ -- region 4
      refine TextR.move rfl ?_
      refine TextR.fieldAddr fo25_2 rfl rfl rfl ?_
      refine TextR.load1 tk23 rfl rfl ?_
      refine TextR.lenM us23 rfl rfl ?_
      refine TextR.int rfl rfl rfl ?_
      refine TextR.done (.cons rfl (.cons rfl (.cons rfl (.cons rfl (.cons rfl (.cons rfl .nil)))))) ?_
      refine Wp.condM h rfl (fun hc3 h => ?_) (fun hc3 h => ?_)
      · refine Wp.skip ?_
        refine Wp.seq ?_
        refine Wp.block ?_
        refine Wp.seq ?_
        obtain ⟨x5, hx5, h⟩ := bind_some h
        refine Wp.text [1, 3, 5, 6, 8, 9] rfl rfl ?_ -- region 6
        refine TextR.fieldAddr fo25_2 rfl rfl rfl ?_
        refine TextR.load1 tk23 rfl rfl ?_
        refine TextR.move rfl ?_
        refine TextR.indexA se23 rfl rfl rfl hx5 rfl ?_
        refine TextR.loadNM tk53 rfl (at_get hx5) rfl ?_
        refine TextR.alloc 3 zc53 rfl rfl (.cons (.cons (.cons .nil))) ?_
        refine TextR.store1 tk53 rfl rfl rfl rfl rfl rfl (.succ (.succ (.succ .zero))) ?_
        refine TextR.done (.cons rfl (.cons rfl (.cons rfl (.cons rfl (.cons rfl (.cons rfl .nil)))))) ?_
        refine Wp.seq ?_
        refine Wp.seq ?_
        refine Wp.go false none [[], [], [], [], [], [(30, false)], [(30, false)], [(30, false)], [(30, false)], [(30, false)], []] [] [1, 3, 5, 6, 8, 9, 36] mixed rfl rfl (by kernel_rfl) ?_ -- region 7
        refine RunR.fieldAddr fo53_0 rfl rfl rfl rfl rfl ?_
        refine RunR.load1 tk3 rfl rfl rfl rfl ?_
        refine RunR.move rfl rfl rfl ?_
        refine RunR.int rfl rfl rfl rfl rfl ?_
        refine RunR.move rfl rfl rfl ?_
        refine RunR.fieldAddr fo53_1 rfl rfl rfl rfl rfl ?_
        refine RunR.load1 tk3 rfl rfl rfl rfl ?_
        refine RunR.fieldAddr fo44_1 rfl rfl rfl rfl rfl ?_
        refine RunR.load1 tk3 rfl rfl rfl rfl ?_
        refine RunR.int rfl rfl rfl rfl rfl ?_
        refine RunR.pickOr rfl rfl rfl rfl ?_
        refine RunR.doneQ (.cons rfl (.cons rfl (.cons rfl (.cons rfl (.cons rfl (.cons rfl (.cons rfl .nil))))))) ?_
        refine Wp.condM h rfl (fun hc4 h => ?_) (fun hc4 h => ?_)
        · refine Wp.exit ?_
          refine Wp.text [1, 3, 5, 6, 8] rfl rfl ?_ -- region 5
          refine TextR.move rfl ?_
          refine TextR.int rfl rfl rfl ?_
          refine TextR.assign rfl ?_
          refine TextR.done (.cons rfl (.cons rfl (.cons rfl (.cons rfl (.cons rfl .nil))))) ?_
          exact ⟨m1, Nat.lt_succ_self _, _, (St.Weak.trans (keepW (live := [1, 3, 5, 6, 8]) (.cons rfl (.cons rfl (.cons rfl (.cons rfl (.cons rfl .nil)))))) (pickT (e' := [(1, .c (I a1)), (3, .c (.ptr 0 0 0 0)), (5, .c (.ptr 1 0 0 0)), (6, .c (.ptr 2 0 0 0)), (8, .c (I (w64 (s8_1 + 1))))]) (H' := [.live 0 3 [[I a0.ID, I a0.Phase, .slv (a0.Sides.map eSide)]], .live 0 3 [[I a2.Kind, I a2.Epoch, I a2.Num]], .live 0 3 [[I 0, I 0, nilS]]]) [0, 1, 2] [0, 1, 2, 0] 0 hok.len.symm rfl rfl (by decide) (by first | rfl | simp [-List.map_set]) (by first | rfl | simp [-List.map_set]) (by first | rfl | simp [-List.map_set]) (by first | rfl | simp [-List.map_set]))), _, h, rfl⟩
        · refine Wp.skip ?_
          refine Wp.seq ?_
          refine Wp.seq ?_
          refine Wp.go false none [[], [], [], [], [(40, false)], [(40, false)], [(40, false)], [(40, false)], [(44, true), (40, false)], [(44, true), (40, false)], [(44, true), (40, false)], [(40, false)], []] [] [3, 5, 6, 8, 9, 49] mixed rfl rfl (by kernel_rfl) ?_ -- region 8
          refine RunR.fieldAddr fo44_2 rfl rfl rfl rfl rfl ?_
          refine RunR.load1 tk3 rfl rfl rfl rfl ?_
          refine RunR.int rfl rfl rfl rfl rfl ?_
          refine RunR.move rfl rfl rfl ?_
          refine RunR.fieldAddr fo44_0 rfl rfl rfl rfl rfl ?_
          refine RunR.load1 tk42 rfl rfl rfl rfl ?_
          refine RunR.int rfl rfl rfl rfl rfl ?_
          refine RunR.move rfl rfl rfl ?_
          refine RunR.fieldAddr fo44_0 rfl rfl rfl rfl rfl ?_
          refine RunR.load1 tk42 rfl rfl rfl rfl ?_
          refine RunR.int rfl rfl rfl rfl rfl ?_
          refine RunR.pickAnd rfl rfl rfl rfl ?_
          refine RunR.pickOr rfl rfl rfl rfl ?_
          refine RunR.doneQ (.cons rfl (.cons rfl (.cons rfl (.cons rfl (.cons rfl (.cons rfl .nil)))))) ?_
          refine Wp.condM h rfl (fun hc5 h => ?_) (fun hc5 h => ?_)
          · refine Wp.seq ?_
            refine Wp.text [6, 7] rfl rfl ?_ -- region 9
            refine TextR.build cm25 rfl ?_
            refine TextR.store1 tk25 rfl rfl rfl rfl rfl rfl (.succ (.succ .zero)) ?_
            refine TextR.assign rfl ?_
            refine TextR.done (.cons rfl (.cons rfl .nil)) ?_
            refine Wp.weak (keepW (live := [6, 7] ) (.cons rfl (.cons rfl .nil))) ?_
            refine Wp.weak (nzT (e' := [(6, .c (.ptr 2 0 0 0)), (7, .c (I 133))]) (H' := [.live 0 3 [[I a0.ID, I a0.Phase, .slv (a0.Sides.map eSide)]], .live 0 3 [[I a2.Kind, I a2.Epoch, I a2.Num]], .live 0 3 [[I 0, I 0, .slv ([].map eSide)]], .live 0 8 [[I x5.Peer, I x5.Epoch, I x5.State, B x5.Fork, B x5.Dirty, B x5.Token, B x5.Bottle, B x5.Ask]]]) (by first | rfl | simp [-List.map_set]) (by first | rfl | simp [-List.map_set])) ?_
            refine Wp.ret ?_
            exact ⟨_, (Option.some.inj h).symm, Ret.two rfl (resV_cellN tk25 rfl rfl) (resV_tmp rfl) rfl⟩
          · refine Wp.skip ?_
            refine Wp.seq ?_
            refine Wp.seq ?_
            refine Wp.go false none [[], [], [], [], [(54, true)], [(54, true)], [], [], [(58, false)], [(58, false)], [(58, false)], [(58, false)], [(62, true), (58, false)], [(62, true), (58, false)], [(58, false)], []] [] [3, 5, 6, 8, 9, 66] mixed rfl rfl (by kernel_rfl) ?_ -- region 10
            refine RunR.fieldAddr fo44_0 rfl rfl rfl rfl rfl ?_
            refine RunR.load1 tk42 rfl rfl rfl rfl ?_
            refine RunR.int rfl rfl rfl rfl rfl ?_
            refine RunR.move rfl rfl rfl ?_
            refine RunR.fieldAddr fo53_3 rfl rfl rfl rfl rfl ?_
            refine RunR.load1 tk4 rfl rfl rfl rfl ?_
            refine RunR.pickAnd rfl rfl rfl rfl ?_
            refine RunR.move rfl rfl rfl ?_
            refine RunR.fieldAddr fo44_0 rfl rfl rfl rfl rfl ?_
            refine RunR.load1 tk42 rfl rfl rfl rfl ?_
            refine RunR.int rfl rfl rfl rfl rfl ?_
            refine RunR.move rfl rfl rfl ?_
            refine RunR.fieldAddr fo53_5 rfl rfl rfl rfl rfl ?_
            refine RunR.load1 tk4 rfl rfl rfl rfl ?_
            refine RunR.pickAnd rfl rfl rfl rfl ?_
            refine RunR.pickOr rfl rfl rfl rfl ?_
            refine RunR.doneQ (.cons rfl (.cons rfl (.cons rfl (.cons rfl (.cons rfl (.cons rfl .nil)))))) ?_
            refine Wp.condM h rfl (fun hc6 h => ?_) (fun hc6 h => ?_)
            · refine Wp.seq ?_
              refine Wp.text [6, 7] rfl rfl ?_ -- region 11
              refine TextR.build cm25 rfl ?_
              refine TextR.store1 tk25 rfl rfl rfl rfl rfl rfl (.succ (.succ .zero)) ?_
              refine TextR.assign rfl ?_
              refine TextR.done (.cons rfl (.cons rfl .nil)) ?_
              refine Wp.weak (keepW (live := [6, 7] ) (.cons rfl (.cons rfl .nil))) ?_
              refine Wp.weak (nzT (e' := [(6, .c (.ptr 2 0 0 0)), (7, .c (I 132))]) (H' := [.live 0 3 [[I a0.ID, I a0.Phase, .slv (a0.Sides.map eSide)]], .live 0 3 [[I a2.Kind, I a2.Epoch, I a2.Num]], .live 0 3 [[I 0, I 0, .slv ([].map eSide)]], .live 0 8 [[I x5.Peer, I x5.Epoch, I x5.State, B x5.Fork, B x5.Dirty, B x5.Token, B x5.Bottle, B x5.Ask]]]) (by first | rfl | simp [-List.map_set]) (by first | rfl | simp [-List.map_set])) ?_
              refine Wp.ret ?_
              exact ⟨_, (Option.some.inj h).symm, Ret.two rfl (resV_cellN tk25 rfl rfl) (resV_tmp rfl) rfl⟩
            · refine Wp.skip ?_
              refine Wp.seq ?_
              refine Wp.seq ?_
              refine Wp.text [3, 6, 8, 9, 70] rfl rfl ?_ -- region 12
              refine TextR.fieldAddr fo44_0 rfl rfl rfl ?_
              refine TextR.load1 tk42 rfl rfl ?_
              refine TextR.int rfl rfl rfl ?_
              refine TextR.done (.cons rfl (.cons rfl (.cons rfl (.cons rfl (.cons rfl .nil))))) ?_
              obtain ⟨z6, hz6, h⟩ := bind_some h
              refine Wp.fragN (fun S => ∃ S', St.Weak ⟨Try.prog, 78, Γ⟩ S S' ∧ S' = ⟨[(3, .c (.ptr 0 0 0 0)), (6, .c (.ptr 1 0 0 0)), (8, .c (I s8_1)), (9, .c (.ptr 2 0 0 0))], [.live 0 3 [[I a0.ID, I a0.Phase, .slv (a0.Sides.map eSide)]], .live 0 3 [[I 0, I 0, nilS]], .live 0 8 [[I x5.Peer, I x5.Epoch, I x5.State, B z6.1, B x5.Dirty, B z6.2, B x5.Bottle, B x5.Ask]]]⟩) ?_ ?_
              · replace h := hz6
                refine Wp.condM h rfl (fun hc8 h => ?_) (fun hc8 h => ?_)
                · refine Wp.text [3, 6, 8, 9] rfl rfl ?_ -- region 13
                  refine TextR.fieldAddr fo53_3 rfl rfl rfl ?_
                  refine TextR.storeF (r' := [I x5.Peer, I x5.Epoch, I x5.State, B true, B x5.Dirty, B x5.Token, B x5.Bottle, B x5.Ask]) tk4 rfl rfl rfl rfl rfl rfl rfl (.succ (.succ (.succ .zero))) ?_
                  refine TextR.done (.cons rfl (.cons rfl (.cons rfl (.cons rfl .nil)))) ?_
                  obtain rfl := Option.some.inj h
                  exact ⟨_, (St.Weak.trans (keepW (live := [3, 6, 8, 9]) (.cons rfl (.cons rfl (.cons rfl (.cons rfl .nil))))) (pickT (e' := [(3, .c (.ptr 0 0 0 0)), (6, .c (.ptr 1 0 0 0)), (8, .c (I s8_1)), (9, .c (.ptr 2 0 0 0))]) (H' := [.live 0 3 [[I a0.ID, I a0.Phase, .slv (a0.Sides.map eSide)]], .live 0 3 [[I 0, I 0, nilS]], .live 0 8 [[I x5.Peer, I x5.Epoch, I x5.State, B true, B x5.Dirty, B x5.Token, B x5.Bottle, B x5.Ask]]]) [0, 2, 3] [0, 0, 1, 2] 0 hok.len.symm rfl rfl (by decide) (by first | rfl | simp [-List.map_set]) (by first | rfl | simp [-List.map_set]) (by first | rfl | simp [-List.map_set]) (by first | rfl | simp [-List.map_set]))), rfl⟩
                · refine Wp.text [3, 6, 8, 9] rfl rfl ?_ -- region 14
                  refine TextR.fieldAddr fo53_5 rfl rfl rfl ?_
                  refine TextR.storeF (r' := [I x5.Peer, I x5.Epoch, I x5.State, B x5.Fork, B x5.Dirty, B true, B x5.Bottle, B x5.Ask]) tk4 rfl rfl rfl rfl rfl rfl rfl (.succ (.succ (.succ .zero))) ?_
                  refine TextR.done (.cons rfl (.cons rfl (.cons rfl (.cons rfl .nil)))) ?_
                  obtain rfl := Option.some.inj h
                  exact ⟨_, (St.Weak.trans (keepW (live := [3, 6, 8, 9]) (.cons rfl (.cons rfl (.cons rfl (.cons rfl .nil))))) (pickT (e' := [(3, .c (.ptr 0 0 0 0)), (6, .c (.ptr 1 0 0 0)), (8, .c (I s8_1)), (9, .c (.ptr 2 0 0 0))]) (H' := [.live 0 3 [[I a0.ID, I a0.Phase, .slv (a0.Sides.map eSide)]], .live 0 3 [[I 0, I 0, nilS]], .live 0 8 [[I x5.Peer, I x5.Epoch, I x5.State, B x5.Fork, B x5.Dirty, B true, B x5.Bottle, B x5.Ask]]]) [0, 2, 3] [0, 0, 1, 2] 0 hok.len.symm rfl rfl (by decide) (by first | rfl | simp [-List.map_set]) (by first | rfl | simp [-List.map_set]) (by first | rfl | simp [-List.map_set]) (by first | rfl | simp [-List.map_set]))), rfl⟩
              rintro _ ⟨S', hw, rfl⟩
              clear hz6
              refine Wp.weak hw ?_
              refine Wp.seq ?_
              obtain ⟨y7, hy7, h⟩ := bind_some h
              refine Wp.text [6, 7] rfl rfl ?_ -- region 15
              refine TextR.loadN (cs := [I a0.ID, I a0.Phase, .slv (a0.Sides.map eSide)]) tk25 rfl rfl ?_
              refine TextR.move rfl ?_
              refine TextR.loadN (cs := [I x5.Peer, I x5.Epoch, I x5.State, B z6.1, B x5.Dirty, B z6.2, B x5.Bottle, B x5.Ask]) tk53 rfl rfl ?_
              refine TextR.dcall rfl rfl (c_narthexref13_Set N a0 s8_1 { x5 with Fork := z6.1, Token := z6.2 } y7 hy7 _) ?_
              refine TextR.store1 tk25 rfl rfl rfl rfl rfl rfl (.succ .zero) ?_
              refine TextR.assign rfl ?_
              refine TextR.done (.cons rfl (.cons rfl .nil)) ?_
              refine Wp.ret ?_
              exact ⟨_, (Option.some.inj h).symm, Ret.two rfl (resV_cellN tk25 rfl rfl) (resV_tmp rfl) rfl⟩
      · refine Wp.exit ?_
        exact ⟨_, (Option.some.inj h).symm, _, (St.Weak.trans (keepW (live := [6]) (.cons rfl .nil)) (pickT (e' := [(6, .c (.ptr 0 0 0 0))]) (H' := [.live 0 3 [[I 0, I 0, nilS]]]) [2] [0, 0, 0] 0 hok.len.symm rfl rfl (by decide) (by first | rfl | simp [-List.map_set]) (by first | rfl | simp [-List.map_set]) (by first | rfl | simp [-List.map_set]) (by first | rfl | simp [-List.map_set]))), rfl⟩
    · rintro _ ⟨z4, rfl, _, hw, rfl⟩
      dsimp only at h
      clear hz2
      refine Wp.weak hw ?_
      refine Wp.seq ?_
      refine Wp.text [6, 7] rfl rfl ?_ -- region 16
      refine TextR.build cm25 rfl ?_
      refine TextR.store1 tk25 rfl rfl rfl rfl rfl rfl .zero ?_
      refine TextR.assign rfl ?_
      refine TextR.done (.cons rfl (.cons rfl .nil)) ?_
      refine Wp.weak (keepW (live := [6, 7] ) (.cons rfl (.cons rfl .nil))) ?_
      refine Wp.weak (nzT (e' := [(6, .c (.ptr 0 0 0 0)), (7, .c (I 131))]) (H' := [.live 0 3 [[I 0, I 0, .slv ([].map eSide)]]]) (by first | rfl | simp [-List.map_set]) (by first | rfl | simp [-List.map_set])) ?_
      refine Wp.ret ?_
      obtain rfl := Option.some.inj h
      exact Ret.two rfl (resV_cellN tk25 rfl rfl) (resV_tmp rfl) rfl
    · rintro S' ⟨r3, rfl, hR⟩
      dsimp only at h
      obtain rfl := Option.some.inj h
      exact hR
theorem c_narthexref13_Get (N : Nat) (a0 : TDiner) (a1 : Int) (a2 : TMsg) (r : TDiner × Int) (h : narthexref13_Get N a0 a1 a2 = some r) (H : List Ob) : DCall Try.prog 48 [.agg (eDiner a0), .c (I a1), .agg (eMsg a2)] H (.tup [.agg (eDiner r.1), .c (I r.2)]) := DCall.lift (by first | rfl | simp [-List.map_set]) (by first | rfl | simp [-List.map_set]) (fun _ => by simp [-List.map_set]) (w_narthexref13_Get N a0 a1 a2 r h) H
end Go.Proofs.Ytcdjfellhgdgoaa
