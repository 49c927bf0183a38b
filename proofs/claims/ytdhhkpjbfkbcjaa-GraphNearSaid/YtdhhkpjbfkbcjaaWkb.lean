/- The functions do what their models say. -/
import Derived.Test.YtdhhkpjbfkbcjaaWka
namespace Go.Proofs.Ytdhhkpjbfkbcjaa
open Go Go.Nx
set_option linter.unusedVariables false
set_option linter.unusedSimpArgs false
set_option linter.unnecessarySimpa false
set_option maxRecDepth 8000
attribute [local simp] putSeg List.map_take List.map_drop rvL rvK bwL hfVs hfV hfL hfAll hfRows mvV mvL mv0 sh0 mvO mpE mpV mpVs mpO fzL rnL rn0 ok0 nzI nzB nzN nzF nzP nzO nzQ nzC shL shV shO okV okL okO List.take_of_length_le h_Edge hm_Edge ok_eEdge okR_eEdge fx_eEdge fxR_eEdge h_I hm_I ok_eI okR_eI fx_eI fxR_eI h_Graph hm_Graph ok_eGraph okR_eGraph fx_eGraph fxR_eGraph
-- narthex/narthexlaw03.GraphBack
theorem w_narthexlaw03_GraphBack (N : Nat) (a0 : TGraph) (a1 : Int) (a2 : Int) (a3 : Int) (a4 : Int) (r : Bool) (h : narthexlaw03_GraphBack N a0 a1 a2 a3 a4 = some r) : Nx.Call Try.prog 4 [.agg (eGraph a0), .c (I a1), .c (I a2), .c (I a3), .c (I a4)] [] fun r' _ => r' = .c (B r) := by
  refine Nx.Call.of_body Try.func4 rfl en4 Try.ntmps4 rfl (fun Γ hok => ?_)
  unfold narthexlaw03_GraphBack at h
  refine Wp.seq ?_
  refine Wp.text [1, 2, 3, 4, 5] rfl rfl ?_ -- region 0
  refine TextR.box (cs := [I a0.N, .slv (a0.Edges.map eEdge)]) 0 rfl rfl rfl rfl .nil ?_
  refine TextR.assign rfl ?_
  refine TextR.done (.cons rfl (.cons rfl (.cons rfl (.cons rfl (.cons rfl .nil))))) ?_
  refine Wp.seq ?_
  refine Wp.seq ?_
  obtain ⟨y1, hy1, h⟩ := bind_some h
  refine Wp.go false none [[], [], [], [(18, false)], [(18, false)], [(18, false)], [(18, false)], []] [] [1, 2, 3, 4, 5, 23] mixed rfl rfl (by kernel_rfl) ?_ -- region 1
  refine RunR.call rfl rfl rfl (fun H => c_narthexlaw03_awake N y1 hy1 H) ?_
  refine RunR.not rfl rfl rfl ?_
  refine RunR.move rfl rfl rfl ?_
  refine RunR.fieldAddr fo24_1 rfl rfl rfl rfl rfl ?_
  refine RunR.load1 tk22 rfl rfl rfl rfl ?_
  refine RunR.lenM us22 rfl rfl rfl rfl ?_
  refine RunR.int rfl rfl rfl rfl rfl ?_
  refine RunR.pickOr rfl rfl rfl rfl ?_
  refine RunR.doneQ (.cons rfl (.cons rfl (.cons rfl (.cons rfl (.cons rfl (.cons rfl .nil)))))) ?_
  refine Wp.condM h rfl (fun hc1 h => ?_) (fun hc1 h => ?_)
  · refine Wp.seq ?_
    obtain ⟨y2, hy2, h⟩ := bind_some h
    refine Wp.text [10] rfl rfl ?_ -- region 2
    refine TextR.dcall rfl rfl (c_narthexlaw03_awake N y2 hy2 _) ?_
    refine TextR.assign rfl ?_
    refine TextR.done (.cons rfl .nil) ?_
    refine Wp.ret ?_
    obtain rfl := Option.some.inj h
    exact Ret.one rfl (resV_tmp rfl) rfl
  · refine Wp.skip ?_
    refine Wp.seq ?_
    obtain ⟨y3, hy3, h⟩ := bind_some h
    obtain ⟨y4, hy4, h⟩ := bind_some h
    refine Wp.text [1, 2, 3, 4, 5, 11, 12] rfl rfl ?_ -- region 3
    refine TextR.loadN (cs := [I a0.N, .slv (a0.Edges.map eEdge)]) tk24 rfl rfl ?_
    refine TextR.dcall rfl rfl (c_narthexlaw03_Own N a0 y3 hy3 _) ?_
    refine TextR.move rfl ?_
    refine TextR.move rfl ?_
    refine TextR.dcall rfl rfl (c_graph_Add N y3 a1 a2 y4 hy4 _) ?_
    refine TextR.move rfl ?_
    refine TextR.extract rfl rfl ?_
    refine TextR.extract rfl rfl ?_
    refine TextR.alloc 1 zc24 rfl rfl (.cons .nil) ?_
    refine TextR.store1 tk24 rfl rfl rfl rfl rfl rfl (.succ .zero) ?_
    refine TextR.assign rfl ?_
    refine TextR.done (.cons rfl (.cons rfl (.cons rfl (.cons rfl (.cons rfl (.cons rfl (.cons rfl .nil))))))) ?_
    refine Wp.seq ?_
    refine Wp.seq ?_
    refine Wp.text [1, 2, 3, 4, 5, 11, 34] rfl rfl ?_ -- region 4
    refine TextR.move rfl ?_
    refine TextR.int rfl rfl rfl ?_
    refine TextR.done (.cons rfl (.cons rfl (.cons rfl (.cons rfl (.cons rfl (.cons rfl (.cons rfl .nil))))))) ?_
    refine Wp.condM h rfl (fun hc2 h => ?_) (fun hc2 h => ?_)
    · refine Wp.seq ?_
      obtain ⟨y5, hy5, h⟩ := bind_some h
      refine Wp.text [10] rfl rfl ?_ -- region 5
      refine TextR.loadN (cs := [I y4.1.N, .slv (y4.1.Edges.map eEdge)]) tk24 rfl rfl ?_
      refine TextR.build cm24 rfl ?_
      refine TextR.dcall rfl rfl (DCall.nz rfl (c_narthexref03_Same N y4.1 (⟨0, []⟩ : TGraph) y5 hy5 _)) ?_
      refine TextR.assign rfl ?_
      refine TextR.done (.cons rfl .nil) ?_
      refine Wp.ret ?_
      obtain rfl := Option.some.inj h
      exact Ret.one rfl (resV_tmp rfl) rfl
    · refine Wp.skip ?_
      refine Wp.seq ?_
      obtain ⟨y6, hy6, h⟩ := bind_some h
      obtain ⟨y7, hy7, h⟩ := bind_some h
      refine Wp.text [1, 2, 3, 4, 5, 11, 13, 14] rfl rfl ?_ -- region 6
      refine TextR.loadN (cs := [I y4.1.N, .slv (y4.1.Edges.map eEdge)]) tk24 rfl rfl ?_
      refine TextR.dcall rfl rfl (c_narthexlaw03_Own N y4.1 y6 hy6 _) ?_
      refine TextR.move rfl ?_
      refine TextR.move rfl ?_
      refine TextR.dcall rfl rfl (c_graph_Remove N y6 a2 a1 y7 hy7 _) ?_
      refine TextR.move rfl ?_
      refine TextR.extract rfl rfl ?_
      refine TextR.extract rfl rfl ?_
      refine TextR.alloc 2 zc24 rfl rfl (.cons (.cons .nil)) ?_
      refine TextR.store1 tk24 rfl rfl rfl rfl rfl rfl (.succ (.succ .zero)) ?_
      refine TextR.assign rfl ?_
      refine TextR.done (.cons rfl (.cons rfl (.cons rfl (.cons rfl (.cons rfl (.cons rfl (.cons rfl (.cons rfl .nil)))))))) ?_
      refine Wp.seq ?_
      refine Wp.go false none [[], [], [], [], [(49, true)], [(49, true)], [(49, true)], [], [], [(54, false)], [(54, false)], [(54, false)], [(54, false)], [(58, true), (54, false)], [(58, true), (54, false)], [(58, true), (54, false)], [(54, false)], [], []] [] [3, 4, 5, 11, 13, 14, 15] mixed rfl rfl (by kernel_rfl) ?_ -- region 7
      refine RunR.move rfl rfl rfl ?_
      refine RunR.move rfl rfl rfl ?_
      refine RunR.int rfl rfl rfl rfl rfl ?_
      refine RunR.move rfl rfl rfl ?_
      refine RunR.move rfl rfl rfl ?_
      refine RunR.move rfl rfl rfl ?_
      refine RunR.int rfl rfl rfl rfl rfl ?_
      refine RunR.pickAnd rfl rfl rfl rfl ?_
      refine RunR.move rfl rfl rfl ?_
      refine RunR.move rfl rfl rfl ?_
      refine RunR.move rfl rfl rfl ?_
      refine RunR.int rfl rfl rfl rfl rfl ?_
      refine RunR.move rfl rfl rfl ?_
      refine RunR.move rfl rfl rfl ?_
      refine RunR.move rfl rfl rfl ?_
      refine RunR.int rfl rfl rfl rfl rfl ?_
      refine RunR.pickAnd rfl rfl rfl rfl ?_
      refine RunR.pickOr rfl rfl rfl rfl ?_
      refine RunR.assign rfl rfl rfl ?_
      refine RunR.doneQ (.cons rfl (.cons rfl (.cons rfl (.cons rfl (.cons rfl (.cons rfl (.cons rfl .nil))))))) ?_
      refine Wp.seq ?_
      obtain ⟨y8, hy8, h⟩ := bind_some h
      obtain ⟨y9, hy9, h⟩ := bind_some h
      obtain ⟨y10, hy10, h⟩ := bind_some h
      obtain ⟨y11, hy11, h⟩ := bind_some h
      obtain ⟨y12, hy12, h⟩ := bind_some h
      refine Wp.go false none [[], [], [], [], [(67, true)], [(67, true)], [(67, true)], [(67, true)], [(67, true)], [(67, true)], [(73, false), (67, true)], [(73, false), (67, true)], [(73, false), (67, true)], [(73, false), (67, true)], [(73, false), (67, true)], [(67, true)], [(67, true)], [], [], [(82, true)], [(82, true)], [], [], [(86, true)], [(86, true)], [(86, true)], [], []] [] [10] mixed rfl rfl (by kernel_rfl) ?_ -- region 8
      refine RunR.loadN (cs := [I y4.1.N, .slv (y4.1.Edges.map eEdge)]) tk24 rfl rfl rfl rfl ?_
      refine RunR.call rfl rfl rfl (fun H => c_graph_Check N y4.1 y8 hy8 H) ?_
      refine RunR.int rfl rfl rfl rfl rfl ?_
      refine RunR.move rfl rfl rfl ?_
      refine RunR.loadN (cs := [I y4.1.N, .slv (y4.1.Edges.map eEdge)]) tk24 rfl rfl rfl rfl ?_
      refine RunR.move rfl rfl rfl ?_
      refine RunR.move rfl rfl rfl ?_
      refine RunR.callG rfl rfl rfl (fun hb H => c_graph_Has N y4.1 a3 a4 y9 (ifT hy9 gT hb) H) ?_
      refine RunR.move rfl rfl rfl ?_
      refine RunR.move rfl rfl rfl ?_
      refine RunR.loadN (cs := [I a0.N, .slv (a0.Edges.map eEdge)]) tk24 rfl rfl rfl rfl ?_
      refine RunR.callG rfl rfl rfl (fun hb H => c_narthexlaw03_Own N a0 y10 (ifT hy10 (fun hb => (gAnd (gT (gN hb)) (gF hb))) hb) H) ?_
      refine RunR.move rfl rfl rfl ?_
      refine RunR.move rfl rfl rfl ?_
      refine RunR.callG rfl rfl rfl (fun hb H => c_graph_Has N y10 a3 a4 y11 (ifT hy11 (fun hb => (gAnd (gT (gN hb)) (gF hb))) hb) H) ?_
      refine RunR.pickOr rfl rfl rfl rfl ?_
      refine RunR.eqBool (by kernel_rfl) rfl rfl rfl rfl ?_
      refine RunR.pickAnd rfl rfl rfl rfl ?_
      refine RunR.move rfl rfl rfl ?_
      refine RunR.move rfl rfl rfl ?_
      refine RunR.int rfl rfl rfl rfl rfl ?_
      refine RunR.pickAnd rfl rfl rfl rfl ?_
      refine RunR.move rfl rfl rfl ?_
      refine RunR.loadN (cs := [I y7.1.N, .slv (y7.1.Edges.map eEdge)]) tk24 rfl rfl rfl rfl ?_
      refine RunR.loadN (cs := [I a0.N, .slv (a0.Edges.map eEdge)]) tk24 rfl rfl rfl rfl ?_
      refine RunR.callG rfl rfl rfl (fun hb H => c_narthexref03_Same N y7.1 a0 y12 (ifT hy12 gT hb) H) ?_
      refine RunR.pickAnd rfl rfl rfl rfl ?_
      refine RunR.assign rfl rfl rfl ?_
      refine RunR.doneQ (.cons rfl .nil) ?_
      refine Wp.ret ?_
      obtain rfl := Option.some.inj h
      exact Ret.one rfl (resV_tmp rfl) rfl
-- narthex/narthexlaw03.GraphParts
theorem w_narthexlaw03_GraphParts (N : Nat) (a0 : TGraph) (a1 : Int) (a2 : Int) (r : Bool) (h : narthexlaw03_GraphParts N a0 a1 a2 = some r) : Nx.Call Try.prog 5 [.agg (eGraph a0), .c (I a1), .c (I a2)] [] fun r' _ => r' = .c (B r) := by
  refine Nx.Call.of_body Try.func5 rfl en5 Try.ntmps5 rfl (fun Γ hok => ?_)
  unfold narthexlaw03_GraphParts at h
  refine Wp.seq ?_
  refine Wp.text [1, 2, 3] rfl rfl ?_ -- region 0
  refine TextR.box (cs := [I a0.N, .slv (a0.Edges.map eEdge)]) 0 rfl rfl rfl rfl .nil ?_
  refine TextR.assign rfl ?_
  refine TextR.done (.cons rfl (.cons rfl (.cons rfl .nil))) ?_
  refine Wp.seq ?_
  refine Wp.seq ?_
  obtain ⟨y1, hy1, h⟩ := bind_some h
  obtain ⟨y2, hy2, h⟩ := bind_some h
  obtain ⟨y3, hy3, h⟩ := bind_some h
  refine Wp.go false none [[], [], [], [(17, false)], [(17, false)], [(17, false)], [(17, false)], [], [], [(23, false)], [(23, false)], [(23, false)], [(23, false)], []] [] [1, 2, 3, 28] mixed rfl rfl (by kernel_rfl) ?_ -- region 1
  refine RunR.call rfl rfl rfl (fun H => c_narthexlaw03_awake N y1 hy1 H) ?_
  refine RunR.not rfl rfl rfl ?_
  refine RunR.move rfl rfl rfl ?_
  refine RunR.fieldAddr fo24_1 rfl rfl rfl rfl rfl ?_
  refine RunR.load1 tk22 rfl rfl rfl rfl ?_
  refine RunR.lenM us22 rfl rfl rfl rfl ?_
  refine RunR.int rfl rfl rfl rfl rfl ?_
  refine RunR.pickOr rfl rfl rfl rfl ?_
  refine RunR.move rfl rfl rfl ?_
  refine RunR.loadN (cs := [I a0.N, .slv (a0.Edges.map eEdge)]) tk24 rfl rfl rfl rfl ?_
  refine RunR.callG rfl rfl rfl (fun hb H => c_narthexlaw03_Own N a0 y2 (ifT hy2 gF hb) H) ?_
  refine RunR.callG rfl rfl rfl (fun hb H => c_graph_Check N y2 y3 (ifT hy3 gF hb) H) ?_
  refine RunR.int rfl rfl rfl rfl rfl ?_
  refine RunR.pickOr rfl rfl rfl rfl ?_
  refine RunR.doneQ (.cons rfl (.cons rfl (.cons rfl (.cons rfl .nil)))) ?_
  refine Wp.condM h rfl (fun hc1 h => ?_) (fun hc1 h => ?_)
  · refine Wp.seq ?_
    obtain ⟨y4, hy4, h⟩ := bind_some h
    refine Wp.text [6] rfl rfl ?_ -- region 2
    refine TextR.dcall rfl rfl (c_narthexlaw03_awake N y4 hy4 _) ?_
    refine TextR.assign rfl ?_
    refine TextR.done (.cons rfl .nil) ?_
    refine Wp.ret ?_
    obtain rfl := Option.some.inj h
    exact Ret.one rfl (resV_tmp rfl) rfl
  · refine Wp.skip ?_
    refine Wp.seq ?_
    obtain ⟨y5, hy5, h⟩ := bind_some h
    obtain ⟨y6, hy6, h⟩ := bind_some h
    refine Wp.text [1, 2, 3, 7] rfl rfl ?_ -- region 3
    refine TextR.loadN (cs := [I a0.N, .slv (a0.Edges.map eEdge)]) tk24 rfl rfl ?_
    refine TextR.dcall rfl rfl (c_narthexlaw03_Own N a0 y5 hy5 _) ?_
    refine TextR.dcall rfl rfl (c_graph_Parts N y5 y6 hy6 _) ?_
    refine TextR.assign rfl ?_
    refine TextR.done (.cons rfl (.cons rfl (.cons rfl (.cons rfl .nil)))) ?_
    refine Wp.seq ?_
    refine Wp.seq ?_
    refine Wp.text [1, 2, 3, 7, 37] rfl rfl ?_ -- region 4
    refine TextR.move rfl ?_
    refine TextR.lenM us34 rfl rfl ?_
    refine TextR.fieldAddr fo24_0 rfl rfl rfl ?_
    refine TextR.load1 tk3 rfl rfl ?_
    refine TextR.int rfl rfl rfl ?_
    refine TextR.done (.cons rfl (.cons rfl (.cons rfl (.cons rfl (.cons rfl .nil))))) ?_
    refine Wp.condM h rfl (fun hc2 h => ?_) (fun hc2 h => ?_)
    · refine Wp.seq ?_
      refine Wp.text [6] rfl rfl ?_ -- region 5
      refine TextR.assign rfl ?_
      refine TextR.done (.cons rfl .nil) ?_
      refine Wp.ret ?_
      obtain rfl := Option.some.inj h
      exact Ret.one rfl (resV_tmp rfl) rfl
    · refine Wp.skip ?_
      refine Wp.seq ?_
      refine Wp.seq ?_
      refine Wp.text [1, 2, 3, 7, 8] rfl rfl ?_ -- region 6
      refine TextR.assign rfl ?_
      refine TextR.done (.cons rfl (.cons rfl (.cons rfl (.cons rfl (.cons rfl .nil))))) ?_
      obtain ⟨z7, hz7, h⟩ := bind_some h
      refine Wp.fragR (fun S => ∃ z9, z7 = .inr z9 ∧ ∃ S', St.Weak ⟨Try.prog, 165, Γ⟩ S S' ∧ S' = ⟨[(1, .c (I a1)), (2, .c (I a2)), (3, .c (.ptr 0 0 0 0)), (7, .c (.slv (y6.map eI)))], [.live 0 2 [[I a0.N, .slv (a0.Edges.map eEdge)]]]⟩) (fun S => ∃ v, z7 = .inl v ∧ Ret Try.prog Try.f5 (fun r' _ => r' = .c (B v)) .ret S) ?_ ?_ ?_
      · replace h := hz7
        refine Wp.block ?_
        refine Wp.weak (keepW (live := [1, 2, 3, 7, 8]) (.cons rfl (.cons rfl (.cons rfl (.cons rfl (.cons rfl .nil)))))) ?_
        refine Wp.loop (fun m S => ∃ s8_1, narthexlaw03_GraphParts_L1 N y6 m s8_1 = some z7 ∧ S = ⟨[(1, .c (I a1)), (2, .c (I a2)), (3, .c (.ptr 0 0 0 0)), (7, .c (.slv (y6.map eI))), (8, .c (I s8_1))], [.live 0 2 [[I a0.N, .slv (a0.Edges.map eEdge)]]]⟩) N ⟨_, h, rfl⟩ ?_
        rintro m1 _ ⟨s8_1, h, rfl⟩
        cases m1 with
        | zero => rw [narthexlaw03_GraphParts_L1.eq_1] at h; cases h
        | succ m1 =>
        rw [narthexlaw03_GraphParts_L1.eq_2] at h
        refine Wp.seq ?_
        refine Wp.seq ?_
        refine Wp.text [1, 2, 3, 7, 8, 41] rfl rfl ?_ -- region 7
        refine TextR.move rfl ?_
        refine TextR.move rfl ?_
        refine TextR.lenM us34 rfl rfl ?_
        refine TextR.int rfl rfl rfl ?_
        refine TextR.done (.cons rfl (.cons rfl (.cons rfl (.cons rfl (.cons rfl (.cons rfl .nil)))))) ?_
        refine Wp.condM h rfl (fun hc4 h => ?_) (fun hc4 h => ?_)
        · refine Wp.skip ?_
          refine Wp.seq ?_
          refine Wp.block ?_
          refine Wp.seq ?_
          obtain ⟨x10, hx10, h⟩ := bind_some h
          obtain ⟨x11, hx11, h⟩ := bind_some h
          obtain ⟨x12, hx12, h⟩ := bind_some h
          obtain ⟨x13, hx13, h⟩ := bind_some h
          obtain ⟨x14, hx14, h⟩ := bind_some h
          refine Wp.go true (some ⟨[], []⟩) [[], [], [], [], [], [], [(49, false)], [(49, false)], [(49, false)], [(49, false)], [(49, false)], [(49, false)], [], [], [(57, false)], [(57, false)], [(57, false)], [(57, false)], [(57, false)], [(57, false)], [(57, false)], [(57, false)], [(57, false)], [(57, false)], [(57, false)], [(57, false)], []] [] [1, 2, 3, 7, 8, 70] mixed rfl rfl (by kernel_rfl) ?_ -- region 9
          refine RunR.move rfl rfl rfl ?_
          refine RunR.move rfl rfl rfl ?_
          refine RunR.indexA se34 rfl rfl rfl rfl rfl hx10 rfl ?_
          refine RunR.load1M tk3 rfl rfl rfl (at_get hx10) rfl ?_
          refine RunR.int rfl rfl rfl rfl rfl ?_
          refine RunR.move rfl rfl rfl ?_
          refine RunR.move rfl rfl rfl ?_
          refine RunR.move rfl rfl rfl ?_
          refine RunR.indexAG se34 rfl rfl rfl rfl rfl (ifPos hx11 gF) (ifAt hx11 gF) rfl ?_
          refine RunR.load1G tk3 rfl rfl rfl (ifAt hx11 gF) rfl ?_
          refine RunR.move rfl rfl rfl ?_
          refine RunR.int rfl rfl rfl rfl rfl ?_
          refine RunR.pickOr rfl rfl rfl rfl ?_
          refine RunR.move rfl rfl rfl ?_
          refine RunR.move rfl rfl rfl ?_
          refine RunR.move rfl rfl rfl ?_
          refine RunR.move rfl rfl rfl ?_
          refine RunR.indexAG se34 rfl rfl rfl rfl rfl (ifPos hx12 gF) (ifAt hx12 gF) rfl ?_
          refine RunR.load1G tk3 rfl rfl rfl (ifAt hx12 gF) rfl ?_
          refine RunR.indexAG se34 rfl rfl rfl rfl rfl (ifPos hx13 gF) (ifAt hx13 gF) rfl ?_
          refine RunR.load1G tk3 rfl rfl rfl (ifAt hx13 gF) rfl ?_
          refine RunR.move rfl rfl rfl ?_
          refine RunR.move rfl rfl rfl ?_
          refine RunR.indexAG se34 rfl rfl rfl rfl rfl (ifPos hx14 gF) (ifAt hx14 gF) rfl ?_
          refine RunR.load1G tk3 rfl rfl rfl (ifAt hx14 gF) rfl ?_
          refine RunR.int rfl rfl rfl rfl rfl ?_
          refine RunR.pickOr rfl rfl rfl rfl ?_
          refine RunR.doneQ (.cons rfl (.cons rfl (.cons rfl (.cons rfl (.cons rfl (.cons rfl .nil)))))) ?_
          refine Wp.condM h rfl (fun hc5 h => ?_) (fun hc5 h => ?_)
          · refine Wp.seq ?_
            refine Wp.text [6] rfl rfl ?_ -- region 10
            refine TextR.assign rfl ?_
            refine TextR.done (.cons rfl .nil) ?_
            refine Wp.ret ?_
            exact ⟨_, (Option.some.inj h).symm, Ret.one rfl (resV_tmp rfl) rfl⟩
          · refine Wp.skip ?_
            refine Wp.text [1, 2, 3, 7, 8] rfl rfl ?_ -- region 8
            refine TextR.move rfl ?_
            refine TextR.int rfl rfl rfl ?_
            refine TextR.assign rfl ?_
            refine TextR.done (.cons rfl (.cons rfl (.cons rfl (.cons rfl (.cons rfl .nil))))) ?_
            exact ⟨m1, Nat.lt_succ_self _, _, (keepW (live := [1, 2, 3, 7, 8]) (.cons rfl (.cons rfl (.cons rfl (.cons rfl (.cons rfl .nil)))))), _, h, rfl⟩
        · refine Wp.exit ?_
          exact ⟨_, (Option.some.inj h).symm, _, (keepW (live := [1, 2, 3, 7]) (.cons rfl (.cons rfl (.cons rfl (.cons rfl .nil))))), rfl⟩
      · rintro _ ⟨z9, rfl, _, hw, rfl⟩
        dsimp only at h
        clear hz7
        refine Wp.weak hw ?_
        refine Wp.seq ?_
        refine Wp.seq ?_
        refine Wp.text [1, 2, 3, 7, 9] rfl rfl ?_ -- region 11
        refine TextR.assign rfl ?_
        refine TextR.done (.cons rfl (.cons rfl (.cons rfl (.cons rfl (.cons rfl .nil))))) ?_
        obtain ⟨z15, hz15, h⟩ := bind_some h
        refine Wp.fragR (fun S => ∃ z17, z15 = .inr z17 ∧ ∃ S', St.Weak ⟨Try.prog, 165, Γ⟩ S S' ∧ S' = ⟨[(1, .c (I a1)), (2, .c (I a2)), (3, .c (.ptr 0 0 0 0)), (7, .c (.slv (y6.map eI)))], [.live 0 2 [[I a0.N, .slv (a0.Edges.map eEdge)]]]⟩) (fun S => ∃ v, z15 = .inl v ∧ Ret Try.prog Try.f5 (fun r' _ => r' = .c (B v)) .ret S) ?_ ?_ ?_
        · replace h := hz15
          refine Wp.block ?_
          refine Wp.weak (keepW (live := [1, 2, 3, 7, 9]) (.cons rfl (.cons rfl (.cons rfl (.cons rfl (.cons rfl .nil)))))) ?_
          refine Wp.loop (fun m S => ∃ s9_2, narthexlaw03_GraphParts_L2 N a0 y6 m s9_2 = some z15 ∧ S = ⟨[(1, .c (I a1)), (2, .c (I a2)), (3, .c (.ptr 0 0 0 0)), (7, .c (.slv (y6.map eI))), (9, .c (I s9_2))], [.live 0 2 [[I a0.N, .slv (a0.Edges.map eEdge)]]]⟩) N ⟨_, h, rfl⟩ ?_
          rintro m2 _ ⟨s9_2, h, rfl⟩
          cases m2 with
          | zero => rw [narthexlaw03_GraphParts_L2.eq_1] at h; cases h
          | succ m2 =>
          rw [narthexlaw03_GraphParts_L2.eq_2] at h
          refine Wp.seq ?_
          refine Wp.seq ?_
          refine Wp.text [1, 2, 3, 7, 9, 75] rfl rfl ?_ -- region 12
          refine TextR.move rfl ?_
          refine TextR.fieldAddr fo24_1 rfl rfl rfl ?_
          refine TextR.load1 tk22 rfl rfl ?_
          refine TextR.lenM us22 rfl rfl ?_
          refine TextR.int rfl rfl rfl ?_
          refine TextR.done (.cons rfl (.cons rfl (.cons rfl (.cons rfl (.cons rfl (.cons rfl .nil)))))) ?_
          refine Wp.condM h rfl (fun hc5 h => ?_) (fun hc5 h => ?_)
          · refine Wp.skip ?_
            refine Wp.seq ?_
            refine Wp.block ?_
            refine Wp.seq ?_
            obtain ⟨x18, hx18, h⟩ := bind_some h
            obtain ⟨x19, hx19, h⟩ := bind_some h
            obtain ⟨x20, hx20, h⟩ := bind_some h
            obtain ⟨x21, hx21, h⟩ := bind_some h
            refine Wp.go true (some ⟨[], []⟩) [] [] [1, 2, 3, 7, 9, 96] mixed rfl rfl (by kernel_rfl) ?_ -- region 14
            refine RunR.move rfl rfl rfl ?_
            refine RunR.fieldAddr fo24_1 rfl rfl rfl rfl rfl ?_
            refine RunR.load1 tk22 rfl rfl rfl rfl ?_
            refine RunR.move rfl rfl rfl ?_
            refine RunR.indexA se22 rfl rfl rfl rfl rfl hx18 rfl ?_
            refine RunR.fieldAddr fo37_0 rfl rfl rfl rfl rfl ?_
            refine RunR.load1M tk3 rfl rfl rfl (at_get hx18) rfl ?_
            refine RunR.indexA se34 rfl rfl rfl rfl rfl hx19 rfl ?_
            refine RunR.load1M tk3 rfl rfl rfl (at_get hx19) rfl ?_
            refine RunR.move rfl rfl rfl ?_
            refine RunR.fieldAddr fo24_1 rfl rfl rfl rfl rfl ?_
            refine RunR.load1 tk22 rfl rfl rfl rfl ?_
            refine RunR.move rfl rfl rfl ?_
            refine RunR.indexA se22 rfl rfl rfl rfl rfl hx20 rfl ?_
            refine RunR.fieldAddr fo37_1 rfl rfl rfl rfl rfl ?_
            refine RunR.load1M tk3 rfl rfl rfl (at_get hx20) rfl ?_
            refine RunR.indexA se34 rfl rfl rfl rfl rfl hx21 rfl ?_
            refine RunR.load1M tk3 rfl rfl rfl (at_get hx21) rfl ?_
            refine RunR.int rfl rfl rfl rfl rfl ?_
            refine RunR.doneQ (.cons rfl (.cons rfl (.cons rfl (.cons rfl (.cons rfl (.cons rfl .nil)))))) ?_
            refine Wp.condM h rfl (fun hc6 h => ?_) (fun hc6 h => ?_)
            · refine Wp.seq ?_
              refine Wp.text [6] rfl rfl ?_ -- region 15
              refine TextR.assign rfl ?_
              refine TextR.done (.cons rfl .nil) ?_
              refine Wp.ret ?_
              exact ⟨_, (Option.some.inj h).symm, Ret.one rfl (resV_tmp rfl) rfl⟩
            · refine Wp.skip ?_
              refine Wp.text [1, 2, 3, 7, 9] rfl rfl ?_ -- region 13
              refine TextR.move rfl ?_
              refine TextR.int rfl rfl rfl ?_
              refine TextR.assign rfl ?_
              refine TextR.done (.cons rfl (.cons rfl (.cons rfl (.cons rfl (.cons rfl .nil))))) ?_
              exact ⟨m2, Nat.lt_succ_self _, _, (keepW (live := [1, 2, 3, 7, 9]) (.cons rfl (.cons rfl (.cons rfl (.cons rfl (.cons rfl .nil)))))), _, h, rfl⟩
          · refine Wp.exit ?_
            exact ⟨_, (Option.some.inj h).symm, _, (keepW (live := [1, 2, 3, 7]) (.cons rfl (.cons rfl (.cons rfl (.cons rfl .nil))))), rfl⟩
        · rintro _ ⟨z17, rfl, _, hw, rfl⟩
          dsimp only at h
          clear hz15
          refine Wp.weak hw ?_
          refine Wp.seq ?_
          obtain ⟨y22, hy22, h⟩ := bind_some h
          obtain ⟨y23, hy23, h⟩ := bind_some h
          refine Wp.text [1, 2, 7, 10, 11] rfl rfl ?_ -- region 16
          refine TextR.loadN (cs := [I a0.N, .slv (a0.Edges.map eEdge)]) tk24 rfl rfl ?_
          refine TextR.dcall rfl rfl (c_narthexlaw03_Own N a0 y22 hy22 _) ?_
          refine TextR.move rfl ?_
          refine TextR.move rfl ?_
          refine TextR.dcall rfl rfl (c_graph_Add N y22 a1 a2 y23 hy23 _) ?_
          refine TextR.move rfl ?_
          refine TextR.extract rfl rfl ?_
          refine TextR.extract rfl rfl ?_
          refine TextR.alloc 1 zc24 rfl rfl (.cons .nil) ?_
          refine TextR.store1 tk24 rfl rfl rfl rfl rfl rfl (.succ .zero) ?_
          refine TextR.assign rfl ?_
          refine TextR.done (.cons rfl (.cons rfl (.cons rfl (.cons rfl (.cons rfl .nil))))) ?_
          refine Wp.seq ?_
          refine Wp.seq ?_
          refine Wp.text [1, 2, 7, 10, 106] rfl rfl ?_ -- region 17
          refine TextR.move rfl ?_
          refine TextR.int rfl rfl rfl ?_
          refine TextR.done (.cons rfl (.cons rfl (.cons rfl (.cons rfl (.cons rfl .nil))))) ?_
          refine Wp.condM h rfl (fun hc5 h => ?_) (fun hc5 h => ?_)
          · refine Wp.seq ?_
            refine Wp.text [6] rfl rfl ?_ -- region 18
            refine TextR.assign rfl ?_
            refine TextR.done (.cons rfl .nil) ?_
            refine Wp.ret ?_
            obtain rfl := Option.some.inj h
            exact Ret.one rfl (resV_tmp rfl) rfl
          · refine Wp.skip ?_
            refine Wp.seq ?_
            obtain ⟨y24, hy24, h⟩ := bind_some h
            refine Wp.text [1, 2, 7, 12] rfl rfl ?_ -- region 19
            refine TextR.loadN (cs := [I y23.1.N, .slv (y23.1.Edges.map eEdge)]) tk24 rfl rfl ?_
            refine TextR.dcall rfl rfl (c_graph_Parts N y23.1 y24 hy24 _) ?_
            refine TextR.assign rfl ?_
            refine TextR.done (.cons rfl (.cons rfl (.cons rfl (.cons rfl .nil)))) ?_
            refine Wp.seq ?_
            refine Wp.seq ?_
            refine Wp.text [1, 2, 7, 12, 13] rfl rfl ?_ -- region 20
            refine TextR.assign rfl ?_
            refine TextR.done (.cons rfl (.cons rfl (.cons rfl (.cons rfl (.cons rfl .nil))))) ?_
            obtain ⟨z25, hz25, h⟩ := bind_some h
            refine Wp.fragR (fun S => ∃ z27, z25 = .inr z27 ∧ ∃ S', St.Weak ⟨Try.prog, 165, Γ⟩ S S' ∧ S' = ⟨[(7, .c (.slv (y6.map eI))), (12, .c (.slv (y24.map eI)))], []⟩) (fun S => ∃ v, z25 = .inl v ∧ Ret Try.prog Try.f5 (fun r' _ => r' = .c (B v)) .ret S) ?_ ?_ ?_
            · replace h := hz25
              refine Wp.block ?_
              refine Wp.weak (St.Weak.trans (keepW (live := [1, 2, 7, 12, 13]) (.cons rfl (.cons rfl (.cons rfl (.cons rfl (.cons rfl .nil)))))) (pickT (e' := [(1, .c (I a1)), (2, .c (I a2)), (7, .c (.slv (y6.map eI))), (12, .c (.slv (y24.map eI))), (13, .c (I 0))]) (H' := []) [] [0, 0] 0 hok.len.symm rfl rfl (by decide) (by first | rfl | simp [-List.map_set]) (by first | rfl | simp [-List.map_set]) (by first | rfl | simp [-List.map_set]) (by first | rfl | simp [-List.map_set]))) ?_
              refine Wp.loop (fun m S => ∃ s13_3, narthexlaw03_GraphParts_L3 N a1 a2 y6 y24 m s13_3 = some z25 ∧ S = ⟨[(1, .c (I a1)), (2, .c (I a2)), (7, .c (.slv (y6.map eI))), (12, .c (.slv (y24.map eI))), (13, .c (I s13_3))], []⟩) N ⟨_, h, rfl⟩ ?_
              rintro m3 _ ⟨s13_3, h, rfl⟩
              cases m3 with
              | zero => rw [narthexlaw03_GraphParts_L3.eq_1] at h; cases h
              | succ m3 =>
              rw [narthexlaw03_GraphParts_L3.eq_2] at h
              refine Wp.seq ?_
              refine Wp.seq ?_
              refine Wp.go false none [[], [], [], [], [], [(113, true)], [(113, true)], [(113, true)], [(113, true)], []] [] [1, 2, 7, 12, 13, 118] mixed rfl rfl (by kernel_rfl) ?_ -- region 21
              refine RunR.move rfl rfl rfl ?_
              refine RunR.move rfl rfl rfl ?_
              refine RunR.lenM us34 rfl rfl rfl rfl ?_
              refine RunR.int rfl rfl rfl rfl rfl ?_
              refine RunR.move rfl rfl rfl ?_
              refine RunR.move rfl rfl rfl ?_
              refine RunR.move rfl rfl rfl ?_
              refine RunR.lenM us34 rfl rfl rfl rfl ?_
              refine RunR.int rfl rfl rfl rfl rfl ?_
              refine RunR.pickAnd rfl rfl rfl rfl ?_
              refine RunR.doneQ (.cons rfl (.cons rfl (.cons rfl (.cons rfl (.cons rfl (.cons rfl .nil)))))) ?_
              refine Wp.condM h rfl (fun hc7 h => ?_) (fun hc7 h => ?_)
              · refine Wp.skip ?_
                refine Wp.seq ?_
                refine Wp.block ?_
                refine Wp.seq ?_
                obtain ⟨x28, hx28, h⟩ := bind_some h
                refine Wp.text [1, 2, 7, 12, 13, 14] rfl rfl ?_ -- region 23
                refine TextR.move rfl ?_
                refine TextR.move rfl ?_
                refine TextR.indexA se34 rfl rfl rfl hx28 rfl ?_
                refine TextR.load1M tk3 rfl (at_get hx28) rfl ?_
                refine TextR.assign rfl ?_
                refine TextR.done (.cons rfl (.cons rfl (.cons rfl (.cons rfl (.cons rfl (.cons rfl .nil)))))) ?_
                refine Wp.seq ?_
                refine Wp.seq ?_
                obtain ⟨x29, hx29, h⟩ := bind_some h
                obtain ⟨x30, hx30, h⟩ := bind_some h
                obtain ⟨x31, hx31, h⟩ := bind_some h
                obtain ⟨x32, hx32, h⟩ := bind_some h
                refine Wp.go true (some ⟨[], []⟩) [[], [], [], [], [], [], [], [], [], [], [(134, false)], [(134, false)], [(134, false)], [(134, false)], [(134, false)], [(134, false)], [(134, false)], [(134, false)], [(134, false)], []] [] [1, 2, 7, 12, 13, 14, 144] mixed rfl rfl (by kernel_rfl) ?_ -- region 24
                refine RunR.move rfl rfl rfl ?_
                refine RunR.move rfl rfl rfl ?_
                refine RunR.indexA se34 rfl rfl rfl rfl rfl hx29 rfl ?_
                refine RunR.load1M tk3 rfl rfl rfl (at_get hx29) rfl ?_
                refine RunR.move rfl rfl rfl ?_
                refine RunR.move rfl rfl rfl ?_
                refine RunR.indexA se34 rfl rfl rfl rfl rfl hx30 rfl ?_
                refine RunR.load1M tk3 rfl rfl rfl (at_get hx30) rfl ?_
                refine RunR.int rfl rfl rfl rfl rfl ?_
                refine RunR.move rfl rfl rfl ?_
                refine RunR.move rfl rfl rfl ?_
                refine RunR.move rfl rfl rfl ?_
                refine RunR.indexAG se34 rfl rfl rfl rfl rfl (ifPos hx31 gF) (ifAt hx31 gF) rfl ?_
                refine RunR.load1G tk3 rfl rfl rfl (ifAt hx31 gF) rfl ?_
                refine RunR.move rfl rfl rfl ?_
                refine RunR.move rfl rfl rfl ?_
                refine RunR.indexAG se34 rfl rfl rfl rfl rfl (ifPos hx32 gF) (ifAt hx32 gF) rfl ?_
                refine RunR.load1G tk3 rfl rfl rfl (ifAt hx32 gF) rfl ?_
                refine RunR.int rfl rfl rfl rfl rfl ?_
                refine RunR.pickOr rfl rfl rfl rfl ?_
                refine RunR.doneQ (.cons rfl (.cons rfl (.cons rfl (.cons rfl (.cons rfl (.cons rfl (.cons rfl .nil))))))) ?_
                obtain ⟨z33, hz33, h⟩ := bind_some h
                refine Wp.fragN (fun S => ∃ S', St.Weak ⟨Try.prog, 165, Γ⟩ S S' ∧ S' = ⟨[(1, .c (I a1)), (2, .c (I a2)), (7, .c (.slv (y6.map eI))), (12, .c (.slv (y24.map eI))), (13, .c (I s13_3)), (14, .c (I z33))], []⟩) ?_ ?_
                · replace h := hz33
                  refine Wp.condM h rfl (fun hc9 h => ?_) (fun hc9 h => ?_)
                  · obtain ⟨x34, hx34, h⟩ := bind_some h
                    obtain ⟨x35, hx35, h⟩ := bind_some h
                    refine Wp.go true (some ⟨[], []⟩) [] [] [1, 2, 7, 12, 13, 14] mixed rfl rfl (by kernel_rfl) ?_ -- region 25
                    refine RunR.move rfl rfl rfl ?_
                    refine RunR.move rfl rfl rfl ?_
                    refine RunR.indexA se34 rfl rfl rfl rfl rfl hx34 rfl ?_
                    refine RunR.load1M tk3 rfl rfl rfl (at_get hx34) rfl ?_
                    refine RunR.move rfl rfl rfl ?_
                    refine RunR.move rfl rfl rfl ?_
                    refine RunR.indexA se34 rfl rfl rfl rfl rfl hx35 rfl ?_
                    refine RunR.load1M tk3 rfl rfl rfl (at_get hx35) rfl ?_
                    refine RunR.minmax (.inl rfl) rfl rfl rfl ?_
                    refine RunR.assign rfl rfl rfl ?_
                    refine RunR.doneQ (.cons rfl (.cons rfl (.cons rfl (.cons rfl (.cons rfl (.cons rfl .nil)))))) ?_
                    obtain rfl := Option.some.inj h
                    exact ⟨_, (keepW (live := [1, 2, 7, 12, 13, 14]) (.cons rfl (.cons rfl (.cons rfl (.cons rfl (.cons rfl (.cons rfl .nil))))))), rfl⟩
                  · refine Wp.skip ?_
                    obtain rfl := Option.some.inj h
                    exact ⟨_, (keepW (live := [1, 2, 7, 12, 13, 14]) (.cons rfl (.cons rfl (.cons rfl (.cons rfl (.cons rfl (.cons rfl .nil))))))), rfl⟩
                rintro _ ⟨S', hw, rfl⟩
                clear hz33
                refine Wp.weak hw ?_
                refine Wp.seq ?_
                obtain ⟨x36, hx36, h⟩ := bind_some h
                refine Wp.text [1, 2, 7, 12, 13, 159] rfl rfl ?_ -- region 26
                refine TextR.move rfl ?_
                refine TextR.move rfl ?_
                refine TextR.indexA se34 rfl rfl rfl hx36 rfl ?_
                refine TextR.load1M tk3 rfl (at_get hx36) rfl ?_
                refine TextR.move rfl ?_
                refine TextR.int rfl rfl rfl ?_
                refine TextR.done (.cons rfl (.cons rfl (.cons rfl (.cons rfl (.cons rfl (.cons rfl .nil)))))) ?_
                refine Wp.condM h rfl (fun hc8 h => ?_) (fun hc8 h => ?_)
                · refine Wp.seq ?_
                  refine Wp.text [6] rfl rfl ?_ -- region 27
                  refine TextR.assign rfl ?_
                  refine TextR.done (.cons rfl .nil) ?_
                  refine Wp.ret ?_
                  exact ⟨_, (Option.some.inj h).symm, Ret.one rfl (resV_tmp rfl) rfl⟩
                · refine Wp.skip ?_
                  refine Wp.text [1, 2, 7, 12, 13] rfl rfl ?_ -- region 22
                  refine TextR.move rfl ?_
                  refine TextR.int rfl rfl rfl ?_
                  refine TextR.assign rfl ?_
                  refine TextR.done (.cons rfl (.cons rfl (.cons rfl (.cons rfl (.cons rfl .nil))))) ?_
                  exact ⟨m3, Nat.lt_succ_self _, _, (keepW (live := [1, 2, 7, 12, 13]) (.cons rfl (.cons rfl (.cons rfl (.cons rfl (.cons rfl .nil)))))), _, h, rfl⟩
              · refine Wp.exit ?_
                exact ⟨_, (Option.some.inj h).symm, _, (keepW (live := [7, 12]) (.cons rfl (.cons rfl .nil))), rfl⟩
            · rintro _ ⟨z27, rfl, _, hw, rfl⟩
              dsimp only at h
              clear hz25
              refine Wp.weak hw ?_
              refine Wp.seq ?_
              refine Wp.text [6] rfl rfl ?_ -- region 28
              refine TextR.move rfl ?_
              refine TextR.lenM us34 rfl rfl ?_
              refine TextR.move rfl ?_
              refine TextR.lenM us34 rfl rfl ?_
              refine TextR.int rfl rfl rfl ?_
              refine TextR.assign rfl ?_
              refine TextR.done (.cons rfl .nil) ?_
              refine Wp.ret ?_
              obtain rfl := Option.some.inj h
              exact Ret.one rfl (resV_tmp rfl) rfl
            · rintro S' ⟨r26, rfl, hR⟩
              dsimp only at h
              obtain rfl := Option.some.inj h
              exact hR
        · rintro S' ⟨r16, rfl, hR⟩
          dsimp only at h
          obtain rfl := Option.some.inj h
          exact hR
      · rintro S' ⟨r8, rfl, hR⟩
        dsimp only at h
        obtain rfl := Option.some.inj h
        exact hR
-- narthex/narthexlaw03.GraphOrder
theorem w_narthexlaw03_GraphOrder (N : Nat) (a0 : TGraph) (a1 : Int) (a2 : Int) (a3 : Int) (a4 : Int) (r : Bool) (h : narthexlaw03_GraphOrder N a0 a1 a2 a3 a4 = some r) : Nx.Call Try.prog 6 [.agg (eGraph a0), .c (I a1), .c (I a2), .c (I a3), .c (I a4)] [] fun r' _ => r' = .c (B r) := by
  refine Nx.Call.of_body Try.func6 rfl en6 Try.ntmps6 rfl (fun Γ hok => ?_)
  unfold narthexlaw03_GraphOrder at h
  refine Wp.seq ?_
  refine Wp.text [1, 2, 3, 4, 5] rfl rfl ?_ -- region 0
  refine TextR.box (cs := [I a0.N, .slv (a0.Edges.map eEdge)]) 0 rfl rfl rfl rfl .nil ?_
  refine TextR.assign rfl ?_
  refine TextR.done (.cons rfl (.cons rfl (.cons rfl (.cons rfl (.cons rfl .nil))))) ?_
  refine Wp.seq ?_
  refine Wp.seq ?_
  obtain ⟨y1, hy1, h⟩ := bind_some h
  refine Wp.go false none [[], [], [], [(21, false)], [(21, false)], [(21, false)], [(21, false)], []] [] [1, 2, 3, 4, 5, 26] mixed rfl rfl (by kernel_rfl) ?_ -- region 1
  refine RunR.call rfl rfl rfl (fun H => c_narthexlaw03_awake N y1 hy1 H) ?_
  refine RunR.not rfl rfl rfl ?_
  refine RunR.move rfl rfl rfl ?_
  refine RunR.fieldAddr fo24_1 rfl rfl rfl rfl rfl ?_
  refine RunR.load1 tk22 rfl rfl rfl rfl ?_
  refine RunR.lenM us22 rfl rfl rfl rfl ?_
  refine RunR.int rfl rfl rfl rfl rfl ?_
  refine RunR.pickOr rfl rfl rfl rfl ?_
  refine RunR.doneQ (.cons rfl (.cons rfl (.cons rfl (.cons rfl (.cons rfl (.cons rfl .nil)))))) ?_
  refine Wp.condM h rfl (fun hc1 h => ?_) (fun hc1 h => ?_)
  · refine Wp.seq ?_
    obtain ⟨y2, hy2, h⟩ := bind_some h
    refine Wp.text [10] rfl rfl ?_ -- region 2
    refine TextR.dcall rfl rfl (c_narthexlaw03_awake N y2 hy2 _) ?_
    refine TextR.assign rfl ?_
    refine TextR.done (.cons rfl .nil) ?_
    refine Wp.ret ?_
    obtain rfl := Option.some.inj h
    exact Ret.one rfl (resV_tmp rfl) rfl
  · refine Wp.skip ?_
    refine Wp.seq ?_
    obtain ⟨y3, hy3, h⟩ := bind_some h
    obtain ⟨y4, hy4, h⟩ := bind_some h
    refine Wp.text [1, 2, 3, 4, 5, 11, 12] rfl rfl ?_ -- region 3
    refine TextR.loadN (cs := [I a0.N, .slv (a0.Edges.map eEdge)]) tk24 rfl rfl ?_
    refine TextR.dcall rfl rfl (c_narthexlaw03_Own N a0 y3 hy3 _) ?_
    refine TextR.move rfl ?_
    refine TextR.move rfl ?_
    refine TextR.dcall rfl rfl (c_graph_Add N y3 a1 a2 y4 hy4 _) ?_
    refine TextR.move rfl ?_
    refine TextR.extract rfl rfl ?_
    refine TextR.extract rfl rfl ?_
    refine TextR.alloc 1 zc24 rfl rfl (.cons .nil) ?_
    refine TextR.store1 tk24 rfl rfl rfl rfl rfl rfl (.succ .zero) ?_
    refine TextR.assign rfl ?_
    refine TextR.done (.cons rfl (.cons rfl (.cons rfl (.cons rfl (.cons rfl (.cons rfl (.cons rfl .nil))))))) ?_
    refine Wp.seq ?_
    obtain ⟨y5, hy5, h⟩ := bind_some h
    obtain ⟨y6, hy6, h⟩ := bind_some h
    refine Wp.text [1, 2, 3, 4, 5, 12, 13, 14] rfl rfl ?_ -- region 4
    refine TextR.loadN (cs := [I y4.1.N, .slv (y4.1.Edges.map eEdge)]) tk24 rfl rfl ?_
    refine TextR.dcall rfl rfl (c_narthexlaw03_Own N y4.1 y5 hy5 _) ?_
    refine TextR.move rfl ?_
    refine TextR.move rfl ?_
    refine TextR.dcall rfl rfl (c_graph_Add N y5 a3 a4 y6 hy6 _) ?_
    refine TextR.move rfl ?_
    refine TextR.extract rfl rfl ?_
    refine TextR.extract rfl rfl ?_
    refine TextR.alloc 2 zc24 rfl rfl (.cons (.cons .nil)) ?_
    refine TextR.store1 tk24 rfl rfl rfl rfl rfl rfl (.succ (.succ .zero)) ?_
    refine TextR.assign rfl ?_
    refine TextR.done (.cons rfl (.cons rfl (.cons rfl (.cons rfl (.cons rfl (.cons rfl (.cons rfl (.cons rfl .nil)))))))) ?_
    refine Wp.seq ?_
    obtain ⟨y7, hy7, h⟩ := bind_some h
    obtain ⟨y8, hy8, h⟩ := bind_some h
    refine Wp.text [1, 2, 5, 12, 13, 14, 15, 16] rfl rfl ?_ -- region 5
    refine TextR.loadN (cs := [I a0.N, .slv (a0.Edges.map eEdge)]) tk24 rfl rfl ?_
    refine TextR.dcall rfl rfl (c_narthexlaw03_Own N a0 y7 hy7 _) ?_
    refine TextR.move rfl ?_
    refine TextR.move rfl ?_
    refine TextR.dcall rfl rfl (c_graph_Add N y7 a3 a4 y8 hy8 _) ?_
    refine TextR.move rfl ?_
    refine TextR.extract rfl rfl ?_
    refine TextR.extract rfl rfl ?_
    refine TextR.alloc 3 zc24 rfl rfl (.cons (.cons (.cons .nil))) ?_
    refine TextR.store1 tk24 rfl rfl rfl rfl rfl rfl (.succ (.succ (.succ .zero))) ?_
    refine TextR.assign rfl ?_
    refine TextR.done (.cons rfl (.cons rfl (.cons rfl (.cons rfl (.cons rfl (.cons rfl (.cons rfl (.cons rfl .nil)))))))) ?_
    refine Wp.seq ?_
    obtain ⟨y9, hy9, h⟩ := bind_some h
    obtain ⟨y10, hy10, h⟩ := bind_some h
    refine Wp.text [5, 12, 13, 14, 16, 17, 18] rfl rfl ?_ -- region 6
    refine TextR.loadN (cs := [I y8.1.N, .slv (y8.1.Edges.map eEdge)]) tk24 rfl rfl ?_
    refine TextR.dcall rfl rfl (c_narthexlaw03_Own N y8.1 y9 hy9 _) ?_
    refine TextR.move rfl ?_
    refine TextR.move rfl ?_
    refine TextR.dcall rfl rfl (c_graph_Add N y9 a1 a2 y10 hy10 _) ?_
    refine TextR.move rfl ?_
    refine TextR.extract rfl rfl ?_
    refine TextR.extract rfl rfl ?_
    refine TextR.alloc 4 zc24 rfl rfl (.cons (.cons (.cons (.cons .nil)))) ?_
    refine TextR.store1 tk24 rfl rfl rfl rfl rfl rfl (.succ (.succ (.succ (.succ .zero)))) ?_
    refine TextR.assign rfl ?_
    refine TextR.done (.cons rfl (.cons rfl (.cons rfl (.cons rfl (.cons rfl (.cons rfl (.cons rfl .nil))))))) ?_
    refine Wp.seq ?_
    refine Wp.seq ?_
    refine Wp.go false none [[], [], [], [(62, false)], [(62, false)], []] [] [5, 13, 16, 17, 18, 65] mixed rfl rfl (by kernel_rfl) ?_ -- region 7
    refine RunR.move rfl rfl rfl ?_
    refine RunR.int rfl rfl rfl rfl rfl ?_
    refine RunR.move rfl rfl rfl ?_
    refine RunR.move rfl rfl rfl ?_
    refine RunR.int rfl rfl rfl rfl rfl ?_
    refine RunR.pickOr rfl rfl rfl rfl ?_
    refine RunR.doneQ (.cons rfl (.cons rfl (.cons rfl (.cons rfl (.cons rfl (.cons rfl .nil)))))) ?_
    refine Wp.condM h rfl (fun hc2 h => ?_) (fun hc2 h => ?_)
    · refine Wp.seq ?_
      refine Wp.go false none [[], [], [], [(68, false)], [(68, false)], [], []] [] [10] mixed rfl rfl (by kernel_rfl) ?_ -- region 8
      refine RunR.move rfl rfl rfl ?_
      refine RunR.int rfl rfl rfl rfl rfl ?_
      refine RunR.move rfl rfl rfl ?_
      refine RunR.move rfl rfl rfl ?_
      refine RunR.int rfl rfl rfl rfl rfl ?_
      refine RunR.pickOr rfl rfl rfl rfl ?_
      refine RunR.assign rfl rfl rfl ?_
      refine RunR.doneQ (.cons rfl .nil) ?_
      refine Wp.ret ?_
      obtain rfl := Option.some.inj h
      exact Ret.one rfl (resV_tmp rfl) rfl
    · refine Wp.skip ?_
      refine Wp.seq ?_
      obtain ⟨y11, hy11, h⟩ := bind_some h
      refine Wp.go false none [[], [], [], [(74, true)], [(74, true)], [], [], [(78, true)], [(78, true)], [(78, true)], [], [], [(83, true)], [(83, true)], [(83, true)], [(83, true)], [(83, true)], [(83, true)], [(83, true)], [(83, true)], [], []] [] [10] mixed rfl rfl (by kernel_rfl) ?_ -- region 9
      refine RunR.move rfl rfl rfl ?_
      refine RunR.int rfl rfl rfl rfl rfl ?_
      refine RunR.move rfl rfl rfl ?_
      refine RunR.move rfl rfl rfl ?_
      refine RunR.int rfl rfl rfl rfl rfl ?_
      refine RunR.pickAnd rfl rfl rfl rfl ?_
      refine RunR.move rfl rfl rfl ?_
      refine RunR.loadN (cs := [I y6.1.N, .slv (y6.1.Edges.map eEdge)]) tk24 rfl rfl rfl rfl ?_
      refine RunR.loadN (cs := [I y10.1.N, .slv (y10.1.Edges.map eEdge)]) tk24 rfl rfl rfl rfl ?_
      refine RunR.callG rfl rfl rfl (fun hb H => c_graph_Same N y6.1 y10.1 y11 (ifT hy11 gT hb) H) ?_
      refine RunR.pickAnd rfl rfl rfl rfl ?_
      refine RunR.move rfl rfl rfl ?_
      refine RunR.fieldAddr fo24_1 rfl rfl rfl rfl rfl ?_
      refine RunR.load1 tk22 rfl rfl rfl rfl ?_
      refine RunR.lenM us22 rfl rfl rfl rfl ?_
      refine RunR.fieldAddr fo24_1 rfl rfl rfl rfl rfl ?_
      refine RunR.load1 tk22 rfl rfl rfl rfl ?_
      refine RunR.lenM us22 rfl rfl rfl rfl ?_
      refine RunR.int rfl rfl rfl rfl rfl ?_
      refine RunR.int rfl rfl rfl rfl rfl ?_
      refine RunR.pickAnd rfl rfl rfl rfl ?_
      refine RunR.assign rfl rfl rfl ?_
      refine RunR.doneQ (.cons rfl .nil) ?_
      refine Wp.ret ?_
      obtain rfl := Option.some.inj h
      exact Ret.one rfl (resV_tmp rfl) rfl
-- narthex/set.Valid
theorem w_set_Valid (N : Nat) (a0 : List Int) (r : Bool) (h : set_Valid N a0 = some r) : Nx.Call Try.prog 20 [.c (.slv (a0.map eI))] [] fun r' _ => r' = .c (B r) := by
  refine Nx.Call.of_body Try.func20 rfl en20 Try.ntmps20 rfl (fun Γ hok => ?_)
  unfold set_Valid at h
  refine Wp.seq ?_
  refine Wp.text [0] rfl rfl ?_ -- region 0
  refine TextR.assign rfl ?_
  refine TextR.done (.cons rfl .nil) ?_
  refine Wp.seq ?_
  refine Wp.seq ?_
  refine Wp.text [0, 5, 6] rfl rfl ?_ -- region 1
  refine TextR.move rfl ?_
  refine TextR.lenM us34 rfl rfl ?_
  refine TextR.move rfl ?_
  refine TextR.done (.cons rfl (.cons rfl (.cons rfl .nil))) ?_
  obtain ⟨z1, hz1, h⟩ := bind_some h
  refine Wp.fragR (fun S => ∃ z3, z1 = .inr z3 ∧ ∃ S', St.Weak ⟨Try.prog, 24, Γ⟩ S S' ∧ S' = ⟨[], []⟩) (fun S => ∃ v, z1 = .inl v ∧ Ret Try.prog Try.f20 (fun r' _ => r' = .c (B v)) .ret S) ?_ ?_ ?_
  · replace h := hz1
    refine Wp.block ?_
    refine Wp.weak (keepW (live := [0, 5, 6]) (.cons rfl (.cons rfl (.cons rfl .nil)))) ?_
    refine Wp.loop (fun m S => ∃ s6_1, set_Valid_L1 N a0 m s6_1 = some z1 ∧ S = ⟨[(0, .c (.slv (a0.map eI))), (5, .c (I (a0.length : Int))), (6, .c (I s6_1))], []⟩) N ⟨_, h, rfl⟩ ?_
    rintro m1 _ ⟨s6_1, h, rfl⟩
    cases m1 with
    | zero => rw [set_Valid_L1.eq_1] at h; cases h
    | succ m1 =>
    rw [set_Valid_L1.eq_2] at h
    refine Wp.seq ?_
    refine Wp.text [0, 5, 6, 7] rfl rfl ?_ -- region 2
    refine TextR.int rfl rfl rfl ?_
    refine TextR.done (.cons rfl (.cons rfl (.cons rfl (.cons rfl .nil)))) ?_
    refine Wp.seq ?_
    refine Wp.condM h rfl (fun hc2 h => ?_) (fun hc2 h => ?_)
    · refine Wp.skip ?_
      refine Wp.seq ?_
      refine Wp.block ?_
      refine Wp.seq ?_
      refine Wp.text [0, 3, 5, 6] rfl rfl ?_ -- region 3
      refine TextR.move rfl ?_
      refine TextR.assign rfl ?_
      refine TextR.done (.cons rfl (.cons rfl (.cons rfl (.cons rfl .nil)))) ?_
      refine Wp.seq ?_
      obtain ⟨x4, hx4, h⟩ := bind_some h
      obtain ⟨x5, hx5, h⟩ := bind_some h
      refine Wp.go true (some ⟨[], []⟩) [[], [], [], [(11, true)], [(11, true)], [(11, true)], [(11, true)], [(11, true)], [(11, true)], [(11, true)], [(11, true)], [(11, true)], [(11, true)], []] [] [0, 5, 6, 22] mixed rfl rfl (by kernel_rfl) ?_ -- region 4
      refine RunR.move rfl rfl rfl ?_
      refine RunR.int rfl rfl rfl rfl rfl ?_
      refine RunR.move rfl rfl rfl ?_
      refine RunR.move rfl rfl rfl ?_
      refine RunR.move rfl rfl rfl ?_
      refine RunR.int rfl rfl rfl rfl rfl ?_
      refine RunR.indexAG se34 rfl rfl rfl rfl rfl (ifPos hx4 gT) (ifAt hx4 gT) rfl ?_
      refine RunR.load1G tk3 rfl rfl rfl (ifAt hx4 gT) rfl ?_
      refine RunR.move rfl rfl rfl ?_
      refine RunR.move rfl rfl rfl ?_
      refine RunR.indexAG se34 rfl rfl rfl rfl rfl (ifPos hx5 gT) (ifAt hx5 gT) rfl ?_
      refine RunR.load1G tk3 rfl rfl rfl (ifAt hx5 gT) rfl ?_
      refine RunR.int rfl rfl rfl rfl rfl ?_
      refine RunR.pickAnd rfl rfl rfl rfl ?_
      refine RunR.doneQ (.cons rfl (.cons rfl (.cons rfl (.cons rfl .nil)))) ?_
      refine Wp.condM h rfl (fun hc3 h => ?_) (fun hc3 h => ?_)
      · refine Wp.seq ?_
        refine Wp.text [2] rfl rfl ?_ -- region 5
        refine TextR.assign rfl ?_
        refine TextR.done (.cons rfl .nil) ?_
        refine Wp.ret ?_
        exact ⟨_, (Option.some.inj h).symm, Ret.one rfl (resV_tmp rfl) rfl⟩
      · refine Wp.skip ?_
        refine Wp.text [0, 5, 6] rfl rfl ?_ -- region 6
        refine TextR.int rfl rfl rfl ?_
        refine TextR.move rfl ?_
        refine TextR.done (.cons rfl (.cons rfl (.cons rfl .nil))) ?_
        exact ⟨m1, Nat.lt_succ_self _, _, (keepW (live := [0, 5, 6]) (.cons rfl (.cons rfl (.cons rfl .nil)))), _, h, rfl⟩
    · refine Wp.exit ?_
      exact ⟨_, (Option.some.inj h).symm, _, (keepW (live := []) .nil), rfl⟩
  · rintro _ ⟨z3, rfl, _, hw, rfl⟩
    dsimp only at h
    clear hz1
    refine Wp.weak hw ?_
    refine Wp.seq ?_
    refine Wp.text [2] rfl rfl ?_ -- region 7
    refine TextR.assign rfl ?_
    refine TextR.done (.cons rfl .nil) ?_
    refine Wp.ret ?_
    obtain rfl := Option.some.inj h
    exact Ret.one rfl (resV_tmp rfl) rfl
  · rintro S' ⟨r2, rfl, hR⟩
    dsimp only at h
    obtain rfl := Option.some.inj h
    exact hR
theorem c_set_Valid (N : Nat) (a0 : List Int) (r : Bool) (h : set_Valid N a0 = some r) (H : List Ob) : DCall Try.prog 20 [.c (.slv (a0.map eI))] H (.c (B r)) := DCall.lift (by first | rfl | simp [-List.map_set]) (by first | rfl | simp [-List.map_set]) (fun _ => by simp [-List.map_set]) (w_set_Valid N a0 r h) H
-- slices.Index[[]int,int]
theorem w_slices_Index_int (N : Nat) (a0 : List Int) (a1 : Int) (r : Int) (h : slices_Index_int N a0 a1 = some r) : Nx.Call Try.prog 50 [.c (.slv (a0.map eI)), .c (I a1)] [] fun r' _ => r' = .c (I r) := by
  refine Nx.Call.of_body Try.func50 rfl en50 Try.ntmps50 rfl (fun Γ hok => ?_)
  unfold slices_Index_int at h
  refine Wp.seq ?_
  refine Wp.text [0, 1] rfl rfl ?_ -- region 0
  refine TextR.assign rfl ?_
  refine TextR.done (.cons rfl (.cons rfl .nil)) ?_
  refine Wp.seq ?_
  refine Wp.seq ?_
  refine Wp.text [0, 1, 7, 8] rfl rfl ?_ -- region 1
  refine TextR.move rfl ?_
  refine TextR.lenM us34 rfl rfl ?_
  refine TextR.move rfl ?_
  refine TextR.done (.cons rfl (.cons rfl (.cons rfl (.cons rfl .nil)))) ?_
  obtain ⟨z1, hz1, h⟩ := bind_some h
  refine Wp.fragR (fun S => ∃ z3, z1 = .inr z3 ∧ ∃ S', St.Weak ⟨Try.prog, 19, Γ⟩ S S' ∧ S' = ⟨[], []⟩) (fun S => ∃ v, z1 = .inl v ∧ Ret Try.prog Try.f50 (fun r' _ => r' = .c (I v)) .ret S) ?_ ?_ ?_
  · replace h := hz1
    refine Wp.block ?_
    refine Wp.weak (keepW (live := [0, 1, 7, 8]) (.cons rfl (.cons rfl (.cons rfl (.cons rfl .nil))))) ?_
    refine Wp.loop (fun m S => ∃ s8_1, slices_Index_int_L1 N a0 a1 m s8_1 = some z1 ∧ S = ⟨[(0, .c (.slv (a0.map eI))), (1, .c (I a1)), (7, .c (I (a0.length : Int))), (8, .c (I s8_1))], []⟩) N ⟨_, h, rfl⟩ ?_
    rintro m1 _ ⟨s8_1, h, rfl⟩
    cases m1 with
    | zero => rw [slices_Index_int_L1.eq_1] at h; cases h
    | succ m1 =>
    rw [slices_Index_int_L1.eq_2] at h
    refine Wp.seq ?_
    refine Wp.text [0, 1, 7, 8, 9] rfl rfl ?_ -- region 2
    refine TextR.int rfl rfl rfl ?_
    refine TextR.done (.cons rfl (.cons rfl (.cons rfl (.cons rfl (.cons rfl .nil))))) ?_
    refine Wp.seq ?_
    refine Wp.condM h rfl (fun hc2 h => ?_) (fun hc2 h => ?_)
    · refine Wp.skip ?_
      refine Wp.seq ?_
      refine Wp.block ?_
      refine Wp.seq ?_
      refine Wp.text [0, 1, 5, 7, 8] rfl rfl ?_ -- region 3
      refine TextR.move rfl ?_
      refine TextR.assign rfl ?_
      refine TextR.done (.cons rfl (.cons rfl (.cons rfl (.cons rfl (.cons rfl .nil))))) ?_
      refine Wp.seq ?_
      obtain ⟨x4, hx4, h⟩ := bind_some h
      refine Wp.text [0, 1, 5, 7, 8, 16] rfl rfl ?_ -- region 4
      refine TextR.move rfl ?_
      refine TextR.move rfl ?_
      refine TextR.move rfl ?_
      refine TextR.indexA se34 rfl rfl rfl hx4 rfl ?_
      refine TextR.load1M tk3 rfl (at_get hx4) rfl ?_
      refine TextR.int rfl rfl rfl ?_
      refine TextR.done (.cons rfl (.cons rfl (.cons rfl (.cons rfl (.cons rfl (.cons rfl .nil)))))) ?_
      refine Wp.condM h rfl (fun hc3 h => ?_) (fun hc3 h => ?_)
      · refine Wp.seq ?_
        refine Wp.text [4] rfl rfl ?_ -- region 5
        refine TextR.move rfl ?_
        refine TextR.assign rfl ?_
        refine TextR.done (.cons rfl .nil) ?_
        refine Wp.ret ?_
        exact ⟨_, (Option.some.inj h).symm, Ret.one rfl (resV_tmp rfl) rfl⟩
      · refine Wp.skip ?_
        refine Wp.text [0, 1, 7, 8] rfl rfl ?_ -- region 6
        refine TextR.int rfl rfl rfl ?_
        refine TextR.move rfl ?_
        refine TextR.done (.cons rfl (.cons rfl (.cons rfl (.cons rfl .nil)))) ?_
        exact ⟨m1, Nat.lt_succ_self _, _, (keepW (live := [0, 1, 7, 8]) (.cons rfl (.cons rfl (.cons rfl (.cons rfl .nil))))), _, h, rfl⟩
    · refine Wp.exit ?_
      exact ⟨_, (Option.some.inj h).symm, _, (keepW (live := []) .nil), rfl⟩
  · rintro _ ⟨z3, rfl, _, hw, rfl⟩
    dsimp only at h
    clear hz1
    refine Wp.weak hw ?_
    refine Wp.seq ?_
    refine Wp.text [4] rfl rfl ?_ -- region 7
    refine TextR.assign rfl ?_
    refine TextR.done (.cons rfl .nil) ?_
    refine Wp.ret ?_
    obtain rfl := Option.some.inj h
    exact Ret.one rfl (resV_tmp rfl) rfl
  · rintro S' ⟨r2, rfl, hR⟩
    dsimp only at h
    obtain rfl := Option.some.inj h
    exact hR
theorem c_slices_Index_int (N : Nat) (a0 : List Int) (a1 : Int) (r : Int) (h : slices_Index_int N a0 a1 = some r) (H : List Ob) : DCall Try.prog 50 [.c (.slv (a0.map eI)), .c (I a1)] H (.c (I r)) := DCall.lift (by first | rfl | simp [-List.map_set]) (by first | rfl | simp [-List.map_set]) (fun _ => by simp [-List.map_set]) (w_slices_Index_int N a0 a1 r h) H
-- slices.Contains[[]int,int]
theorem w_slices_Contains_int (N : Nat) (a0 : List Int) (a1 : Int) (r : Bool) (h : slices_Contains_int N a0 a1 = some r) : Nx.Call Try.prog 40 [.c (.slv (a0.map eI)), .c (I a1)] [] fun r' _ => r' = .c (B r) := by
  refine Nx.Call.of_body Try.func40 rfl en40 Try.ntmps40 rfl (fun Γ hok => ?_)
  unfold slices_Contains_int at h
  refine Wp.seq ?_
  refine Wp.text [0, 1] rfl rfl ?_ -- region 0
  refine TextR.assign rfl ?_
  refine TextR.done (.cons rfl (.cons rfl .nil)) ?_
  refine Wp.seq ?_
  obtain ⟨y1, hy1, h⟩ := bind_some h
  refine Wp.text [4] rfl rfl ?_ -- region 1
  refine TextR.move rfl ?_
  refine TextR.move rfl ?_
  refine TextR.dcall rfl rfl (c_slices_Index_int N a0 a1 y1 hy1 _) ?_
  refine TextR.int rfl rfl rfl ?_
  refine TextR.assign rfl ?_
  refine TextR.done (.cons rfl .nil) ?_
  refine Wp.ret ?_
  obtain rfl := Option.some.inj h
  exact Ret.one rfl (resV_tmp rfl) rfl
theorem c_slices_Contains_int (N : Nat) (a0 : List Int) (a1 : Int) (r : Bool) (h : slices_Contains_int N a0 a1 = some r) (H : List Ob) : DCall Try.prog 40 [.c (.slv (a0.map eI)), .c (I a1)] H (.c (B r)) := DCall.lift (by first | rfl | simp [-List.map_set]) (by first | rfl | simp [-List.map_set]) (fun _ => by simp [-List.map_set]) (w_slices_Contains_int N a0 a1 r h) H
-- narthex/set.Has
theorem w_set_Has (N : Nat) (a0 : List Int) (a1 : Int) (r : Bool) (h : set_Has N a0 a1 = some r) : Nx.Call Try.prog 21 [.c (.slv (a0.map eI)), .c (I a1)] [] fun r' _ => r' = .c (B r) := by
  refine Nx.Call.of_body Try.func21 rfl en21 Try.ntmps21 rfl (fun Γ hok => ?_)
  unfold set_Has at h
  refine Wp.seq ?_
  refine Wp.text [0, 1] rfl rfl ?_ -- region 0
  refine TextR.assign rfl ?_
  refine TextR.done (.cons rfl (.cons rfl .nil)) ?_
  refine Wp.seq ?_
  obtain ⟨y1, hy1, h⟩ := bind_some h
  refine Wp.text [4] rfl rfl ?_ -- region 1
  refine TextR.move rfl ?_
  refine TextR.move rfl ?_
  refine TextR.dcall rfl rfl (c_slices_Contains_int N a0 a1 y1 hy1 _) ?_
  refine TextR.assign rfl ?_
  refine TextR.done (.cons rfl .nil) ?_
  refine Wp.ret ?_
  obtain rfl := Option.some.inj h
  exact Ret.one rfl (resV_tmp rfl) rfl
theorem c_set_Has (N : Nat) (a0 : List Int) (a1 : Int) (r : Bool) (h : set_Has N a0 a1 = some r) (H : List Ob) : DCall Try.prog 21 [.c (.slv (a0.map eI)), .c (I a1)] H (.c (B r)) := DCall.lift (by first | rfl | simp [-List.map_set]) (by first | rfl | simp [-List.map_set]) (fun _ => by simp [-List.map_set]) (w_set_Has N a0 a1 r h) H
-- narthex/narthexlaw03.GraphNear
theorem w_narthexlaw03_GraphNear (N : Nat) (a0 : TGraph) (a1 : Int) (a2 : Int) (r : Bool) (h : narthexlaw03_GraphNear N a0 a1 a2 = some r) : Nx.Call Try.prog 7 [.agg (eGraph a0), .c (I a1), .c (I a2)] [] fun r' _ => r' = .c (B r) := by
  refine Nx.Call.of_body Try.func7 rfl en7 Try.ntmps7 rfl (fun Γ hok => ?_)
  unfold narthexlaw03_GraphNear at h
  refine Wp.seq ?_
  refine Wp.text [1, 2, 3] rfl rfl ?_ -- region 0
  refine TextR.box (cs := [I a0.N, .slv (a0.Edges.map eEdge)]) 0 rfl rfl rfl rfl .nil ?_
  refine TextR.assign rfl ?_
  refine TextR.done (.cons rfl (.cons rfl (.cons rfl .nil))) ?_
  refine Wp.seq ?_
  refine Wp.seq ?_
  obtain ⟨y1, hy1, h⟩ := bind_some h
  obtain ⟨y2, hy2, h⟩ := bind_some h
  obtain ⟨y3, hy3, h⟩ := bind_some h
  refine Wp.go false none [[], [], [], [(11, false)], [(11, false)], [(11, false)], [(11, false)], [], [], [(17, false)], [(17, false)], [(17, false)], [(17, false)], []] [] [1, 2, 3, 22] mixed rfl rfl (by kernel_rfl) ?_ -- region 1
  refine RunR.call rfl rfl rfl (fun H => c_narthexlaw03_awake N y1 hy1 H) ?_
  refine RunR.not rfl rfl rfl ?_
  refine RunR.move rfl rfl rfl ?_
  refine RunR.fieldAddr fo24_1 rfl rfl rfl rfl rfl ?_
  refine RunR.load1 tk22 rfl rfl rfl rfl ?_
  refine RunR.lenM us22 rfl rfl rfl rfl ?_
  refine RunR.int rfl rfl rfl rfl rfl ?_
  refine RunR.pickOr rfl rfl rfl rfl ?_
  refine RunR.move rfl rfl rfl ?_
  refine RunR.loadN (cs := [I a0.N, .slv (a0.Edges.map eEdge)]) tk24 rfl rfl rfl rfl ?_
  refine RunR.callG rfl rfl rfl (fun hb H => c_narthexlaw03_Own N a0 y2 (ifT hy2 gF hb) H) ?_
  refine RunR.callG rfl rfl rfl (fun hb H => c_graph_Check N y2 y3 (ifT hy3 gF hb) H) ?_
  refine RunR.int rfl rfl rfl rfl rfl ?_
  refine RunR.pickOr rfl rfl rfl rfl ?_
  refine RunR.doneQ (.cons rfl (.cons rfl (.cons rfl (.cons rfl .nil)))) ?_
  refine Wp.condM h rfl (fun hc1 h => ?_) (fun hc1 h => ?_)
  · refine Wp.seq ?_
    obtain ⟨y4, hy4, h⟩ := bind_some h
    refine Wp.text [6] rfl rfl ?_ -- region 2
    refine TextR.dcall rfl rfl (c_narthexlaw03_awake N y4 hy4 _) ?_
    refine TextR.assign rfl ?_
    refine TextR.done (.cons rfl .nil) ?_
    refine Wp.ret ?_
    obtain rfl := Option.some.inj h
    exact Ret.one rfl (resV_tmp rfl) rfl
  · refine Wp.skip ?_
    refine Wp.seq ?_
    obtain ⟨y5, hy5, h⟩ := bind_some h
    obtain ⟨y6, hy6, h⟩ := bind_some h
    obtain ⟨y7, hy7, h⟩ := bind_some h
    obtain ⟨y8, hy8, h⟩ := bind_some h
    refine Wp.go true (some ⟨[], []⟩) [] [] [1, 2, 3, 7, 8] mixed rfl rfl (by kernel_rfl) ?_ -- region 3
    refine RunR.loadN (cs := [I a0.N, .slv (a0.Edges.map eEdge)]) tk24 rfl rfl rfl rfl ?_
    refine RunR.call rfl rfl rfl (fun H => c_narthexlaw03_Own N a0 y5 hy5 H) ?_
    refine RunR.move rfl rfl rfl ?_
    refine RunR.call rfl rfl rfl (fun H => c_graph_Near N y5 a1 y6 hy6 H) ?_
    refine RunR.loadN (cs := [I a0.N, .slv (a0.Edges.map eEdge)]) tk24 rfl rfl rfl rfl ?_
    refine RunR.call rfl rfl rfl (fun H => c_narthexlaw03_Own N a0 y7 hy7 H) ?_
    refine RunR.move rfl rfl rfl ?_
    refine RunR.call rfl rfl rfl (fun H => c_graph_Near N y7 a2 y8 hy8 H) ?_
    refine RunR.assign rfl rfl rfl ?_
    refine RunR.assign rfl rfl rfl ?_
    refine RunR.doneQ (.cons rfl (.cons rfl (.cons rfl (.cons rfl (.cons rfl .nil))))) ?_
    refine Wp.seq ?_
    obtain ⟨y9, hy9, h⟩ := bind_some h
    obtain ⟨y10, hy10, h⟩ := bind_some h
    obtain ⟨y11, hy11, h⟩ := bind_some h
    obtain ⟨y12, hy12, h⟩ := bind_some h
    obtain ⟨y13, hy13, h⟩ := bind_some h
    obtain ⟨y14, hy14, h⟩ := bind_some h
    obtain ⟨y15, hy15, h⟩ := bind_some h
    refine Wp.go true (some ⟨[], []⟩) [[], [], [], [(34, true)], [(34, true)], [(34, true)], [(34, true)], [(34, true)], [(34, true)], [(34, true)], [], [], [(43, true)], [(43, true)], [(43, true)], [(43, true)], [(43, true)], [(43, true)], [(43, true)], [(43, true)], [(43, true)], [], [], [(54, true)], [(54, true)], [(54, true)], [(54, true)], [], []] [] [6] mixed rfl rfl (by kernel_rfl) ?_ -- region 4
    refine RunR.move rfl rfl rfl ?_
    refine RunR.call rfl rfl rfl (fun H => c_set_Valid N y6 y9 hy9 H) ?_
    refine RunR.move rfl rfl rfl ?_
    refine RunR.move rfl rfl rfl ?_
    refine RunR.move rfl rfl rfl ?_
    refine RunR.callG rfl rfl rfl (fun hb H => c_set_Has N y6 a2 y10 (ifT hy10 gT hb) H) ?_
    refine RunR.move rfl rfl rfl ?_
    refine RunR.move rfl rfl rfl ?_
    refine RunR.callG rfl rfl rfl (fun hb H => c_set_Has N y8 a1 y11 (ifT hy11 gT hb) H) ?_
    refine RunR.eqBool (by kernel_rfl) rfl rfl rfl rfl ?_
    refine RunR.pickAnd rfl rfl rfl rfl ?_
    refine RunR.move rfl rfl rfl ?_
    refine RunR.move rfl rfl rfl ?_
    refine RunR.move rfl rfl rfl ?_
    refine RunR.callG rfl rfl rfl (fun hb H => c_set_Has N y6 a2 y12 (ifT hy12 gT hb) H) ?_
    refine RunR.loadN (cs := [I a0.N, .slv (a0.Edges.map eEdge)]) tk24 rfl rfl rfl rfl ?_
    refine RunR.callG rfl rfl rfl (fun hb H => c_narthexlaw03_Own N a0 y13 (ifT hy13 gT hb) H) ?_
    refine RunR.move rfl rfl rfl ?_
    refine RunR.move rfl rfl rfl ?_
    refine RunR.callG rfl rfl rfl (fun hb H => c_graph_Has N y13 a1 a2 y14 (ifT hy14 gT hb) H) ?_
    refine RunR.eqBool (by kernel_rfl) rfl rfl rfl rfl ?_
    refine RunR.pickAnd rfl rfl rfl rfl ?_
    refine RunR.move rfl rfl rfl ?_
    refine RunR.move rfl rfl rfl ?_
    refine RunR.move rfl rfl rfl ?_
    refine RunR.callG rfl rfl rfl (fun hb H => c_set_Has N y6 a1 y15 (ifT hy15 gT hb) H) ?_
    refine RunR.not rfl rfl rfl ?_
    refine RunR.pickAnd rfl rfl rfl rfl ?_
    refine RunR.assign rfl rfl rfl ?_
    refine RunR.doneQ (.cons rfl .nil) ?_
    refine Wp.ret ?_
    obtain rfl := Option.some.inj h
    exact Ret.one rfl (resV_tmp rfl) rfl
end Go.Proofs.Ytdhhkpjbfkbcjaa
