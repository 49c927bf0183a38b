/- The functions do what their models say. -/
import Derived.Test.YtagmkgbkagpmnaaWka
namespace Go.Proofs.Ytagmkgbkagpmnaa
open Go Go.Nx
set_option linter.unusedVariables false
set_option linter.unusedSimpArgs false
set_option linter.unnecessarySimpa false
set_option maxRecDepth 8000
attribute [local simp] putSeg List.map_take List.map_drop rvL rvK bwL hfVs hfV hfL hfAll hfRows mvV mvL mv0 sh0 mvO mpE mpV mpVs mpO fzL rnL rn0 ok0 nzI nzB nzN nzF nzP nzO nzQ nzC shL shV shO okV okL okO List.take_of_length_le h_Edge hm_Edge ok_eEdge okR_eEdge fx_eEdge fxR_eEdge h_I hm_I ok_eI okR_eI fx_eI fxR_eI h_Graph hm_Graph ok_eGraph okR_eGraph fx_eGraph fxR_eGraph
-- narthex/narthexlaw11.ColourRight
theorem w_narthexlaw11_ColourRight (N : Nat) (a0 : TGraph) (r : Bool) (h : narthexlaw11_ColourRight N a0 = some r) : Nx.Call Try.prog 5 [.agg (eGraph a0)] [] fun r' _ => r' = .c (B r) := by
  refine Nx.Call.of_body Try.func5 rfl en5 Try.ntmps5 rfl (fun Γ hok => ?_)
  unfold narthexlaw11_ColourRight at h
  refine Wp.seq ?_
  refine Wp.text [1] rfl rfl ?_ -- region 0
  refine TextR.box (cs := [I a0.N, .slv (a0.Edges.map eEdge)]) 0 rfl rfl rfl rfl .nil ?_
  refine TextR.assign rfl ?_
  refine TextR.done (.cons rfl .nil) ?_
  refine Wp.seq ?_
  refine Wp.seq ?_
  obtain ⟨y1, hy1, h⟩ := bind_some h
  obtain ⟨y2, hy2, h⟩ := bind_some h
  refine Wp.go false none [[], [], [], [(9, false)], [(9, false)], [(9, false)], []] [] [1, 13] mixed rfl rfl (by kernel_rfl) ?_ -- region 1
  refine RunR.call rfl rfl rfl (fun H => c_narthexlaw11_awake N y1 hy1 H) ?_
  refine RunR.not rfl rfl rfl ?_
  refine RunR.move rfl rfl rfl ?_
  refine RunR.loadN (cs := [I a0.N, .slv (a0.Edges.map eEdge)]) tk24 rfl rfl rfl rfl ?_
  refine RunR.callG rfl rfl rfl (fun hb H => DCall.nz rfl (c_narthexlaw11_few N a0 [] y2 (ifT hy2 gF hb) H)) ?_
  refine RunR.not rfl rfl rfl ?_
  refine RunR.pickOr rfl rfl rfl rfl ?_
  refine RunR.doneQ (.cons rfl (.cons rfl .nil)) ?_
  refine Wp.condM h rfl (fun hc1 h => ?_) (fun hc1 h => ?_)
  · refine Wp.seq ?_
    obtain ⟨y3, hy3, h⟩ := bind_some h
    refine Wp.text [2] rfl rfl ?_ -- region 2
    refine TextR.dcall rfl rfl (c_narthexlaw11_awake N y3 hy3 _) ?_
    refine TextR.assign rfl ?_
    refine TextR.done (.cons rfl .nil) ?_
    refine Wp.ret ?_
    obtain rfl := Option.some.inj h
    exact Ret.one rfl (resV_tmp rfl) rfl
  · refine Wp.skip ?_
    refine Wp.seq ?_
    obtain ⟨y4, hy4, h⟩ := bind_some h
    obtain ⟨y5, hy5, h⟩ := bind_some h
    refine Wp.text [1, 3, 4, 5] rfl rfl ?_ -- region 3
    refine TextR.loadN (cs := [I a0.N, .slv (a0.Edges.map eEdge)]) tk24 rfl rfl ?_
    refine TextR.dcall rfl rfl (c_narthexlaw03_Own N a0 y4 hy4 _) ?_
    refine TextR.dcall rfl rfl (c_colour_Run N y4 y5 hy5 _) ?_
    refine TextR.move rfl ?_
    refine TextR.extract rfl rfl ?_
    refine TextR.extract rfl rfl ?_
    refine TextR.extract rfl rfl ?_
    refine TextR.assign rfl ?_
    refine TextR.assign rfl ?_
    refine TextR.assign rfl ?_
    refine TextR.done (.cons rfl (.cons rfl (.cons rfl (.cons rfl .nil)))) ?_
    refine Wp.seq ?_
    refine Wp.seq ?_
    refine Wp.text [1, 3, 4, 23] rfl rfl ?_ -- region 4
    refine TextR.move rfl ?_
    refine TextR.int rfl rfl rfl ?_
    refine TextR.done (.cons rfl (.cons rfl (.cons rfl (.cons rfl .nil)))) ?_
    refine Wp.condM h rfl (fun hc2 h => ?_) (fun hc2 h => ?_)
    · refine Wp.seq ?_
      refine Wp.text [2] rfl rfl ?_ -- region 5
      refine TextR.move rfl ?_
      refine TextR.lenM us25 rfl rfl ?_
      refine TextR.int rfl rfl rfl ?_
      refine TextR.assign rfl ?_
      refine TextR.done (.cons rfl .nil) ?_
      refine Wp.ret ?_
      obtain rfl := Option.some.inj h
      exact Ret.one rfl (resV_tmp rfl) rfl
    · refine Wp.skip ?_
      refine Wp.seq ?_
      refine Wp.seq ?_
      refine Wp.text [1, 3, 4, 6] rfl rfl ?_ -- region 6
      refine TextR.assign rfl ?_
      refine TextR.done (.cons rfl (.cons rfl (.cons rfl (.cons rfl .nil)))) ?_
      obtain ⟨z6, hz6, h⟩ := bind_some h
      refine Wp.fragR (fun S => ∃ z8, z6 = .inr z8 ∧ ∃ S', St.Weak ⟨Try.prog, 70, Γ⟩ S S' ∧ S' = ⟨[(1, .c (.ptr 0 0 0 0)), (3, .c (.slv (y5.1.map eI))), (4, .c (I y5.2.1))], [.live 0 2 [[I a0.N, .slv (a0.Edges.map eEdge)]]]⟩) (fun S => ∃ v, z6 = .inl v ∧ Ret Try.prog Try.f5 (fun r' _ => r' = .c (B v)) .ret S) ?_ ?_ ?_
      · replace h := hz6
        refine Wp.block ?_
        refine Wp.weak (keepW (live := [1, 3, 4, 6]) (.cons rfl (.cons rfl (.cons rfl (.cons rfl .nil))))) ?_
        refine Wp.loop (fun m S => ∃ s6_1, narthexlaw11_ColourRight_L1 N a0 y5 m s6_1 = some z6 ∧ S = ⟨[(1, .c (.ptr 0 0 0 0)), (3, .c (.slv (y5.1.map eI))), (4, .c (I y5.2.1)), (6, .c (I s6_1))], [.live 0 2 [[I a0.N, .slv (a0.Edges.map eEdge)]]]⟩) N ⟨_, h, rfl⟩ ?_
        rintro m1 _ ⟨s6_1, h, rfl⟩
        cases m1 with
        | zero => rw [narthexlaw11_ColourRight_L1.eq_1] at h; cases h
        | succ m1 =>
        rw [narthexlaw11_ColourRight_L1.eq_2] at h
        refine Wp.seq ?_
        refine Wp.seq ?_
        refine Wp.text [1, 3, 4, 6, 30] rfl rfl ?_ -- region 7
        refine TextR.move rfl ?_
        refine TextR.move rfl ?_
        refine TextR.lenM us25 rfl rfl ?_
        refine TextR.int rfl rfl rfl ?_
        refine TextR.done (.cons rfl (.cons rfl (.cons rfl (.cons rfl (.cons rfl .nil))))) ?_
        refine Wp.condM h rfl (fun hc4 h => ?_) (fun hc4 h => ?_)
        · refine Wp.skip ?_
          refine Wp.seq ?_
          refine Wp.block ?_
          refine Wp.seq ?_
          obtain ⟨x9, hx9, h⟩ := bind_some h
          obtain ⟨x10, hx10, h⟩ := bind_some h
          obtain ⟨y11, hy11, h⟩ := bind_some h
          refine Wp.go true (some []) [[], [], [], [], [], [], [(38, false)], [(38, false)], [(38, false)], [(38, false)], [(38, false)], [(38, false)], [(38, false)], [(38, false)], [(38, false)], [(38, false)], []] [] [1, 3, 4, 6, 49] mixed rfl rfl (by kernel_rfl) ?_ -- region 9
          refine RunR.move rfl rfl rfl ?_
          refine RunR.move rfl rfl rfl ?_
          refine RunR.indexA se25 rfl rfl rfl rfl rfl hx9 rfl ?_
          refine RunR.load1M tk3 rfl rfl rfl (at_get hx9) rfl ?_
          refine RunR.int rfl rfl rfl rfl rfl ?_
          refine RunR.move rfl rfl rfl ?_
          refine RunR.move rfl rfl rfl ?_
          refine RunR.move rfl rfl rfl ?_
          refine RunR.indexAG se25 rfl rfl rfl rfl rfl (ifPos hx10 gF) (ifAt hx10 gF) rfl ?_
          refine RunR.load1G tk3 rfl rfl rfl (ifAt hx10 gF) rfl ?_
          refine RunR.loadN (cs := [I a0.N, .slv (a0.Edges.map eEdge)]) tk24 rfl rfl rfl rfl ?_
          refine RunR.move rfl rfl rfl ?_
          refine RunR.callG rfl rfl rfl (fun hb H => c_narthexref03_Near N a0 s6_1 y11 (ifT hy11 gF hb) H) ?_
          refine RunR.lenM us25 rfl rfl rfl rfl ?_
          refine RunR.int rfl rfl rfl rfl rfl ?_
          refine RunR.int rfl rfl rfl rfl rfl ?_
          refine RunR.pickOr rfl rfl rfl rfl ?_
          refine RunR.doneQ (.cons rfl (.cons rfl (.cons rfl (.cons rfl (.cons rfl .nil))))) ?_
          refine Wp.condM h rfl (fun hc5 h => ?_) (fun hc5 h => ?_)
          · refine Wp.seq ?_
            refine Wp.text [2] rfl rfl ?_ -- region 10
            refine TextR.assign rfl ?_
            refine TextR.done (.cons rfl .nil) ?_
            refine Wp.ret ?_
            exact ⟨_, (Option.some.inj h).symm, Ret.one rfl (resV_tmp rfl) rfl⟩
          · refine Wp.skip ?_
            refine Wp.text [1, 3, 4, 6] rfl rfl ?_ -- region 8
            refine TextR.move rfl ?_
            refine TextR.int rfl rfl rfl ?_
            refine TextR.assign rfl ?_
            refine TextR.done (.cons rfl (.cons rfl (.cons rfl (.cons rfl .nil)))) ?_
            exact ⟨m1, Nat.lt_succ_self _, _, (keepW (live := [1, 3, 4, 6]) (.cons rfl (.cons rfl (.cons rfl (.cons rfl .nil))))), _, h, rfl⟩
        · refine Wp.exit ?_
          exact ⟨_, (Option.some.inj h).symm, _, (keepW (live := [1, 3, 4]) (.cons rfl (.cons rfl (.cons rfl .nil)))), rfl⟩
      · rintro _ ⟨z8, rfl, _, hw, rfl⟩
        dsimp only at h
        clear hz6
        refine Wp.weak hw ?_
        refine Wp.seq ?_
        obtain ⟨y12, hy12, h⟩ := bind_some h
        obtain ⟨y13, hy13, h⟩ := bind_some h
        obtain ⟨y14, hy14, h⟩ := bind_some h
        refine Wp.go false none [[], [], [], [], [], [], [(55, true)], [(55, true)], [(55, true)], [(55, true)], [], [], [(61, true)], [(61, true)], [(61, true)], [(64, false), (61, true)], [(64, false), (61, true)], [(64, false), (61, true)], [(61, true)], [], []] [] [2] mixed rfl rfl (by kernel_rfl) ?_ -- region 11
        refine RunR.loadN (cs := [I a0.N, .slv (a0.Edges.map eEdge)]) tk24 rfl rfl rfl rfl ?_
        refine RunR.call rfl rfl rfl (fun H => c_narthexlaw03_Own N a0 y12 hy12 H) ?_
        refine RunR.move rfl rfl rfl ?_
        refine RunR.call rfl rfl rfl (fun H => c_narthexlaw11_own N y5.1 y13 hy13 H) ?_
        refine RunR.call rfl rfl rfl (fun H => c_colour_Right N y12 y13 y14 hy14 H) ?_
        refine RunR.move rfl rfl rfl ?_
        refine RunR.move rfl rfl rfl ?_
        refine RunR.fieldAddr fo24_0 rfl rfl rfl rfl rfl ?_
        refine RunR.load1 tk3 rfl rfl rfl rfl ?_
        refine RunR.int rfl rfl rfl rfl rfl ?_
        refine RunR.pickAnd rfl rfl rfl rfl ?_
        refine RunR.move rfl rfl rfl ?_
        refine RunR.move rfl rfl rfl ?_
        refine RunR.int rfl rfl rfl rfl rfl ?_
        refine RunR.move rfl rfl rfl ?_
        refine RunR.fieldAddr fo24_0 rfl rfl rfl rfl rfl ?_
        refine RunR.load1 tk3 rfl rfl rfl rfl ?_
        refine RunR.int rfl rfl rfl rfl rfl ?_
        refine RunR.pickOr rfl rfl rfl rfl ?_
        refine RunR.pickAnd rfl rfl rfl rfl ?_
        refine RunR.assign rfl rfl rfl ?_
        refine RunR.doneQ (.cons rfl .nil) ?_
        refine Wp.ret ?_
        obtain rfl := Option.some.inj h
        exact Ret.one rfl (resV_tmp rfl) rfl
      · rintro S' ⟨r7, rfl, hR⟩
        dsimp only at h
        obtain rfl := Option.some.inj h
        exact hR
theorem c_narthexlaw11_ColourRight (N : Nat) (a0 : TGraph) (r : Bool) (h : narthexlaw11_ColourRight N a0 = some r) (H : List Ob) : DCall Try.prog 5 [.agg (eGraph a0)] H (.c (B r)) := DCall.lift (by first | rfl | simp [-List.map_set]) (by first | rfl | simp [-List.map_set]) (fun _ => by simp [-List.map_set]) (w_narthexlaw11_ColourRight N a0 r h) H
-- narthex/narthexlaw11.ColourGreedy
theorem w_narthexlaw11_ColourGreedy (N : Nat) (a0 : TGraph) (r : Bool) (h : narthexlaw11_ColourGreedy N a0 = some r) : Nx.Call Try.prog 6 [.agg (eGraph a0)] [] fun r' _ => r' = .c (B r) := by
  refine Nx.Call.of_body Try.func6 rfl en6 Try.ntmps6 rfl (fun Γ hok => ?_)
  unfold narthexlaw11_ColourGreedy at h
  refine Wp.seq ?_
  refine Wp.text [1] rfl rfl ?_ -- region 0
  refine TextR.box (cs := [I a0.N, .slv (a0.Edges.map eEdge)]) 0 rfl rfl rfl rfl .nil ?_
  refine TextR.assign rfl ?_
  refine TextR.done (.cons rfl .nil) ?_
  refine Wp.seq ?_
  refine Wp.seq ?_
  obtain ⟨y1, hy1, h⟩ := bind_some h
  obtain ⟨y2, hy2, h⟩ := bind_some h
  refine Wp.go false none [[], [], [], [(13, false)], [(13, false)], [(13, false)], []] [] [1, 17] mixed rfl rfl (by kernel_rfl) ?_ -- region 1
  refine RunR.call rfl rfl rfl (fun H => c_narthexlaw11_awake N y1 hy1 H) ?_
  refine RunR.not rfl rfl rfl ?_
  refine RunR.move rfl rfl rfl ?_
  refine RunR.loadN (cs := [I a0.N, .slv (a0.Edges.map eEdge)]) tk24 rfl rfl rfl rfl ?_
  refine RunR.callG rfl rfl rfl (fun hb H => DCall.nz rfl (c_narthexlaw11_few N a0 [] y2 (ifT hy2 gF hb) H)) ?_
  refine RunR.not rfl rfl rfl ?_
  refine RunR.pickOr rfl rfl rfl rfl ?_
  refine RunR.doneQ (.cons rfl (.cons rfl .nil)) ?_
  refine Wp.condM h rfl (fun hc1 h => ?_) (fun hc1 h => ?_)
  · refine Wp.seq ?_
    obtain ⟨y3, hy3, h⟩ := bind_some h
    refine Wp.text [2] rfl rfl ?_ -- region 2
    refine TextR.dcall rfl rfl (c_narthexlaw11_awake N y3 hy3 _) ?_
    refine TextR.assign rfl ?_
    refine TextR.done (.cons rfl .nil) ?_
    refine Wp.ret ?_
    obtain rfl := Option.some.inj h
    exact Ret.one rfl (resV_tmp rfl) rfl
  · refine Wp.skip ?_
    refine Wp.seq ?_
    obtain ⟨y4, hy4, h⟩ := bind_some h
    obtain ⟨y5, hy5, h⟩ := bind_some h
    refine Wp.text [1, 3, 5] rfl rfl ?_ -- region 3
    refine TextR.loadN (cs := [I a0.N, .slv (a0.Edges.map eEdge)]) tk24 rfl rfl ?_
    refine TextR.dcall rfl rfl (c_narthexlaw03_Own N a0 y4 hy4 _) ?_
    refine TextR.dcall rfl rfl (c_colour_Run N y4 y5 hy5 _) ?_
    refine TextR.move rfl ?_
    refine TextR.extract rfl rfl ?_
    refine TextR.extract rfl rfl ?_
    refine TextR.extract rfl rfl ?_
    refine TextR.assign rfl ?_
    refine TextR.assign rfl ?_
    refine TextR.assign rfl ?_
    refine TextR.done (.cons rfl (.cons rfl (.cons rfl .nil))) ?_
    refine Wp.seq ?_
    refine Wp.seq ?_
    refine Wp.text [1, 3, 27] rfl rfl ?_ -- region 4
    refine TextR.move rfl ?_
    refine TextR.int rfl rfl rfl ?_
    refine TextR.done (.cons rfl (.cons rfl (.cons rfl .nil))) ?_
    refine Wp.condM h rfl (fun hc2 h => ?_) (fun hc2 h => ?_)
    · refine Wp.seq ?_
      refine Wp.text [2] rfl rfl ?_ -- region 5
      refine TextR.move rfl ?_
      refine TextR.lenM us25 rfl rfl ?_
      refine TextR.int rfl rfl rfl ?_
      refine TextR.assign rfl ?_
      refine TextR.done (.cons rfl .nil) ?_
      refine Wp.ret ?_
      obtain rfl := Option.some.inj h
      exact Ret.one rfl (resV_tmp rfl) rfl
    · refine Wp.skip ?_
      refine Wp.seq ?_
      refine Wp.seq ?_
      refine Wp.text [1, 3, 6] rfl rfl ?_ -- region 6
      refine TextR.assign rfl ?_
      refine TextR.done (.cons rfl (.cons rfl (.cons rfl .nil))) ?_
      obtain ⟨z6, hz6, h⟩ := bind_some h
      refine Wp.fragR (fun S => ∃ z8, z6 = .inr z8 ∧ ∃ S', St.Weak ⟨Try.prog, 86, Γ⟩ S S' ∧ S' = ⟨[(1, .c (.ptr 0 0 0 0)), (3, .c (.slv (y5.1.map eI)))], [.live 0 2 [[I a0.N, .slv (a0.Edges.map eEdge)]]]⟩) (fun S => ∃ v, z6 = .inl v ∧ Ret Try.prog Try.f6 (fun r' _ => r' = .c (B v)) .ret S) ?_ ?_ ?_
      · replace h := hz6
        refine Wp.block ?_
        refine Wp.weak (keepW (live := [1, 3, 6]) (.cons rfl (.cons rfl (.cons rfl .nil)))) ?_
        refine Wp.loop (fun m S => ∃ s6_1, narthexlaw11_ColourGreedy_L1 N a0 y5 m s6_1 = some z6 ∧ S = ⟨[(1, .c (.ptr 0 0 0 0)), (3, .c (.slv (y5.1.map eI))), (6, .c (I s6_1))], [.live 0 2 [[I a0.N, .slv (a0.Edges.map eEdge)]]]⟩) N ⟨_, h, rfl⟩ ?_
        rintro m1 _ ⟨s6_1, h, rfl⟩
        cases m1 with
        | zero => rw [narthexlaw11_ColourGreedy_L1.eq_1] at h; cases h
        | succ m1 =>
        rw [narthexlaw11_ColourGreedy_L1.eq_2] at h
        refine Wp.seq ?_
        refine Wp.seq ?_
        refine Wp.text [1, 3, 6, 34] rfl rfl ?_ -- region 7
        refine TextR.move rfl ?_
        refine TextR.move rfl ?_
        refine TextR.lenM us25 rfl rfl ?_
        refine TextR.int rfl rfl rfl ?_
        refine TextR.done (.cons rfl (.cons rfl (.cons rfl (.cons rfl .nil)))) ?_
        refine Wp.condM h rfl (fun hc4 h => ?_) (fun hc4 h => ?_)
        · refine Wp.skip ?_
          refine Wp.seq ?_
          refine Wp.block ?_
          refine Wp.seq ?_
          obtain ⟨y9, hy9, h⟩ := bind_some h
          refine Wp.text [1, 3, 6, 7] rfl rfl ?_ -- region 9
          refine TextR.loadN (cs := [I a0.N, .slv (a0.Edges.map eEdge)]) tk24 rfl rfl ?_
          refine TextR.move rfl ?_
          refine TextR.dcall rfl rfl (c_narthexref03_Near N a0 s6_1 y9 hy9 _) ?_
          refine TextR.assign rfl ?_
          refine TextR.done (.cons rfl (.cons rfl (.cons rfl (.cons rfl .nil)))) ?_
          refine Wp.seq ?_
          refine Wp.text [1, 3, 6, 7, 8] rfl rfl ?_ -- region 10
          refine TextR.buildSlice  1 se25 rfl rfl rfl (.cons .nil) ?_
          refine TextR.assign rfl ?_
          refine TextR.done (.cons rfl (.cons rfl (.cons rfl (.cons rfl (.cons rfl .nil))))) ?_
          refine Wp.seq ?_
          refine Wp.seq ?_
          refine Wp.text [1, 3, 6, 7, 8, 9] rfl rfl ?_ -- region 11
          refine TextR.assign rfl ?_
          refine TextR.done (.cons rfl (.cons rfl (.cons rfl (.cons rfl (.cons rfl (.cons rfl .nil)))))) ?_
          obtain ⟨z10, hz10, h⟩ := bind_some h
          refine Wp.fragN (fun S => ∃ wz10_1, ∃ S', St.Weak ⟨Try.prog, 86, Γ⟩ S S' ∧ S' = ⟨[(1, .c (.ptr 0 0 0 0)), (3, .c (.slv (y5.1.map eI))), (6, .c (I s6_1)), (8, .c (.sl 1 wz10_1 0 z10.length))], [.live 0 2 [[I a0.N, .slv (a0.Edges.map eEdge)]], .live wz10_1 1 (z10.map eI)]⟩) ?_ ?_
          · replace h := hz10
            refine Wp.block ?_
            refine Wp.weak (keepW (live := [1, 3, 6, 7, 8, 9]) (.cons rfl (.cons rfl (.cons rfl (.cons rfl (.cons rfl (.cons rfl .nil))))))) ?_
            refine Wp.loop (fun m S => ∃ l1_2, ∃ s9_2, ∃ wh1_2, narthexlaw11_ColourGreedy_L2 N y5 s6_1 y9 m l1_2 s9_2 = some z10 ∧ S = ⟨[(1, .c (.ptr 0 0 0 0)), (3, .c (.slv (y5.1.map eI))), (6, .c (I s6_1)), (7, .c (.slv (y9.map eI))), (8, .c (.sl 1 wh1_2 0 l1_2.length)), (9, .c (I s9_2))], [.live 0 2 [[I a0.N, .slv (a0.Edges.map eEdge)]], .live wh1_2 1 (l1_2.map eI)]⟩) N ⟨_, _, _, h, rfl⟩ ?_
            rintro m2 _ ⟨l1_2, s9_2, wh1_2, h, rfl⟩
            cases m2 with
            | zero => rw [narthexlaw11_ColourGreedy_L2.eq_1] at h; cases h
            | succ m2 =>
            rw [narthexlaw11_ColourGreedy_L2.eq_2] at h
            refine Wp.seq ?_
            refine Wp.seq ?_
            refine Wp.text [1, 3, 6, 7, 8, 9, 44] rfl rfl ?_ -- region 12
            refine TextR.move rfl ?_
            refine TextR.move rfl ?_
            refine TextR.lenM us25 rfl rfl ?_
            refine TextR.int rfl rfl rfl ?_
            refine TextR.done (.cons rfl (.cons rfl (.cons rfl (.cons rfl (.cons rfl (.cons rfl (.cons rfl .nil))))))) ?_
            refine Wp.condM h rfl (fun hc6 h => ?_) (fun hc6 h => ?_)
            · refine Wp.skip ?_
              refine Wp.seq ?_
              refine Wp.block ?_
              refine Wp.seq ?_
              obtain ⟨x11, hx11, h⟩ := bind_some h
              refine Wp.text [1, 3, 6, 7, 8, 9, 52] rfl rfl ?_ -- region 14
              refine TextR.move rfl ?_
              refine TextR.move rfl ?_
              refine TextR.indexA se25 rfl rfl rfl hx11 rfl ?_
              refine TextR.load1M tk3 rfl (at_get hx11) rfl ?_
              refine TextR.move rfl ?_
              refine TextR.int rfl rfl rfl ?_
              refine TextR.done (.cons rfl (.cons rfl (.cons rfl (.cons rfl (.cons rfl (.cons rfl (.cons rfl .nil))))))) ?_
              refine Wp.condM h rfl (fun hc7 h => ?_) (fun hc7 h => ?_)
              · obtain ⟨x12, hx12, h⟩ := bind_some h
                obtain ⟨x13, hx13, h⟩ := bind_some h
                obtain ⟨x14, hx14, h⟩ := bind_some h
                refine Wp.text [1, 3, 6, 7, 8, 9] rfl rfl ?_ -- region 15
                refine TextR.move rfl ?_
                refine TextR.move rfl ?_
                refine TextR.move rfl ?_
                refine TextR.move rfl ?_
                refine TextR.indexA se25 rfl rfl rfl hx12 rfl ?_
                refine TextR.load1M tk3 rfl (at_get hx12) rfl ?_
                refine TextR.indexA se25 rfl rfl rfl hx13 rfl ?_
                refine TextR.load1M tk3 rfl (at_get hx13) rfl ?_
                refine TextR.buildSlice (rows := [x13].map eI) 2 se25 rfl rfl rfl (.cons (.cons .nil)) ?_
                refine TextR.appendM eI l1_2 [x13] x14 (app_eq hx14) se25 rfl (obj_of rfl) rfl (view_whole (f := eI) (xs := [x13]) rfl) (fun _ => rfl) rfl (app_len hx14) (.succ .zero) ?_
                refine TextR.assign rfl ?_
                refine TextR.done (.cons rfl (.cons rfl (.cons rfl (.cons rfl (.cons rfl (.cons rfl .nil)))))) ?_
                refine Wp.text [1, 3, 6, 7, 8, 9] rfl rfl ?_ -- region 13
                refine TextR.move rfl ?_
                refine TextR.int rfl rfl rfl ?_
                refine TextR.assign rfl ?_
                refine TextR.done (.cons rfl (.cons rfl (.cons rfl (.cons rfl (.cons rfl (.cons rfl .nil)))))) ?_
                exact ⟨m2, Nat.lt_succ_self _, _, (St.Weak.trans (keepW (live := [1, 3, 6, 7, 8, 9]) (.cons rfl (.cons rfl (.cons rfl (.cons rfl (.cons rfl (.cons rfl .nil))))))) (pickT (e' := [(1, .c (.ptr 0 0 0 0)), (3, .c (.slv (y5.1.map eI))), (6, .c (I s6_1)), (7, .c (.slv (y9.map eI))), (8, .c (.sl 1 (wh1_2 + 1) 0 x14.length)), (9, .c (I (w64 (s9_2 + 1))))]) (H' := [.live 0 2 [[I a0.N, .slv (a0.Edges.map eEdge)]], .live (wh1_2 + 1) 1 (x14.map eI)]) [0, 1] [0, 1, 0] 0 hok.len.symm rfl rfl (by decide) (by first | rfl | simp [-List.map_set]) (by first | rfl | simp [-List.map_set]) (by first | rfl | simp [-List.map_set]) (by first | rfl | simp [-List.map_set]))), _, _, _, h, rfl⟩
              · refine Wp.skip ?_
                refine Wp.text [1, 3, 6, 7, 8, 9] rfl rfl ?_ -- region 13
                refine TextR.move rfl ?_
                refine TextR.int rfl rfl rfl ?_
                refine TextR.assign rfl ?_
                refine TextR.done (.cons rfl (.cons rfl (.cons rfl (.cons rfl (.cons rfl (.cons rfl .nil)))))) ?_
                exact ⟨m2, Nat.lt_succ_self _, _, (keepW (live := [1, 3, 6, 7, 8, 9]) (.cons rfl (.cons rfl (.cons rfl (.cons rfl (.cons rfl (.cons rfl .nil))))))), _, _, _, h, rfl⟩
            · refine Wp.exit ?_
              obtain rfl := Option.some.inj h
              exact ⟨_, _, (keepW (live := [1, 3, 6, 8]) (.cons rfl (.cons rfl (.cons rfl (.cons rfl .nil))))), rfl⟩
          rintro _ ⟨wz10_1, S', hw, rfl⟩
          clear hz10
          refine Wp.weak hw ?_
          refine Wp.seq ?_
          refine Wp.seq ?_
          refine Wp.text [1, 3, 6, 8, 10] rfl rfl ?_ -- region 16
          refine TextR.assign rfl ?_
          refine TextR.done (.cons rfl (.cons rfl (.cons rfl (.cons rfl (.cons rfl .nil))))) ?_
          obtain ⟨z15, hz15, h⟩ := bind_some h
          refine Wp.fragR (fun S => ∃ z17, z15 = .inr z17 ∧ ∃ S', St.Weak ⟨Try.prog, 86, Γ⟩ S S' ∧ S' = ⟨[(1, .c (.ptr 0 0 0 0)), (3, .c (.slv (y5.1.map eI))), (6, .c (I s6_1)), (8, .c (.sl 1 wz10_1 0 z10.length))], [.live 0 2 [[I a0.N, .slv (a0.Edges.map eEdge)]], .live wz10_1 1 (z10.map eI)]⟩) (fun S => ∃ v, z15 = .inl v ∧ Ret Try.prog Try.f6 (fun r' _ => r' = .c (B v)) .ret S) ?_ ?_ ?_
          · replace h := hz15
            refine Wp.block ?_
            refine Wp.weak (keepW (live := [1, 3, 6, 8, 10]) (.cons rfl (.cons rfl (.cons rfl (.cons rfl (.cons rfl .nil)))))) ?_
            refine Wp.loop (fun m S => ∃ s10_3, narthexlaw11_ColourGreedy_L3 N y5 s6_1 z10 m s10_3 = some z15 ∧ S = ⟨[(1, .c (.ptr 0 0 0 0)), (3, .c (.slv (y5.1.map eI))), (6, .c (I s6_1)), (8, .c (.sl 1 wz10_1 0 z10.length)), (10, .c (I s10_3))], [.live 0 2 [[I a0.N, .slv (a0.Edges.map eEdge)]], .live wz10_1 1 (z10.map eI)]⟩) N ⟨_, h, rfl⟩ ?_
            rintro m3 _ ⟨s10_3, h, rfl⟩
            cases m3 with
            | zero => rw [narthexlaw11_ColourGreedy_L3.eq_1] at h; cases h
            | succ m3 =>
            rw [narthexlaw11_ColourGreedy_L3.eq_2] at h
            refine Wp.seq ?_
            refine Wp.seq ?_
            obtain ⟨x18, hx18, h⟩ := bind_some h
            refine Wp.text [1, 3, 6, 8, 10, 68] rfl rfl ?_ -- region 17
            refine TextR.move rfl ?_
            refine TextR.move rfl ?_
            refine TextR.move rfl ?_
            refine TextR.indexA se25 rfl rfl rfl hx18 rfl ?_
            refine TextR.load1M tk3 rfl (at_get hx18) rfl ?_
            refine TextR.int rfl rfl rfl ?_
            refine TextR.done (.cons rfl (.cons rfl (.cons rfl (.cons rfl (.cons rfl (.cons rfl .nil)))))) ?_
            refine Wp.condM h rfl (fun hc6 h => ?_) (fun hc6 h => ?_)
            · refine Wp.skip ?_
              refine Wp.seq ?_
              refine Wp.block ?_
              refine Wp.seq ?_
              obtain ⟨y19, hy19, h⟩ := bind_some h
              refine Wp.text [1, 3, 6, 8, 10, 74] rfl rfl ?_ -- region 19
              refine TextR.move rfl ?_
              refine TextR.move rfl ?_
              refine TextR.dcall rfl rfl (DCall.borrow (fs := [.c (.slv (z10.map eI)), .c (I s10_3)]) (by simp [-List.map_set, obj, List.take_of_length_le]) (by first | rfl | simp [-List.map_set]) rfl (w_narthexref01_Has N z10 s10_3 y19 hy19)) ?_
              refine TextR.not rfl ?_
              refine TextR.done (.cons rfl (.cons rfl (.cons rfl (.cons rfl (.cons rfl (.cons rfl .nil)))))) ?_
              refine Wp.condM h rfl (fun hc7 h => ?_) (fun hc7 h => ?_)
              · refine Wp.seq ?_
                refine Wp.text [2] rfl rfl ?_ -- region 20
                refine TextR.assign rfl ?_
                refine TextR.done (.cons rfl .nil) ?_
                refine Wp.ret ?_
                exact ⟨_, (Option.some.inj h).symm, Ret.one rfl (resV_tmp rfl) rfl⟩
              · refine Wp.skip ?_
                refine Wp.text [1, 3, 6, 8, 10] rfl rfl ?_ -- region 18
                refine TextR.move rfl ?_
                refine TextR.int rfl rfl rfl ?_
                refine TextR.assign rfl ?_
                refine TextR.done (.cons rfl (.cons rfl (.cons rfl (.cons rfl (.cons rfl .nil))))) ?_
                exact ⟨m3, Nat.lt_succ_self _, _, (keepW (live := [1, 3, 6, 8, 10]) (.cons rfl (.cons rfl (.cons rfl (.cons rfl (.cons rfl .nil)))))), _, h, rfl⟩
            · refine Wp.exit ?_
              exact ⟨_, (Option.some.inj h).symm, _, (keepW (live := [1, 3, 6, 8]) (.cons rfl (.cons rfl (.cons rfl (.cons rfl .nil))))), rfl⟩
          · rintro _ ⟨z17, rfl, _, hw, rfl⟩
            dsimp only at h
            clear hz15
            refine Wp.weak hw ?_
            refine Wp.seq ?_
            obtain ⟨x20, hx20, h⟩ := bind_some h
            obtain ⟨y21, hy21, h⟩ := bind_some h
            refine Wp.text [1, 3, 6, 80] rfl rfl ?_ -- region 21
            refine TextR.move rfl ?_
            refine TextR.move rfl ?_
            refine TextR.move rfl ?_
            refine TextR.indexA se25 rfl rfl rfl hx20 rfl ?_
            refine TextR.load1M tk3 rfl (at_get hx20) rfl ?_
            refine TextR.dcall rfl rfl (DCall.borrow (fs := [.c (.slv (z10.map eI)), .c (I x20)]) (by simp [-List.map_set, obj, List.take_of_length_le]) (by first | rfl | simp [-List.map_set]) rfl (w_narthexref01_Has N z10 x20 y21 hy21)) ?_
            refine TextR.done (.cons rfl (.cons rfl (.cons rfl (.cons rfl .nil)))) ?_
            refine Wp.condM h rfl (fun hc6 h => ?_) (fun hc6 h => ?_)
            · refine Wp.seq ?_
              refine Wp.text [2] rfl rfl ?_ -- region 22
              refine TextR.assign rfl ?_
              refine TextR.done (.cons rfl .nil) ?_
              refine Wp.ret ?_
              exact ⟨_, (Option.some.inj h).symm, Ret.one rfl (resV_tmp rfl) rfl⟩
            · refine Wp.skip ?_
              refine Wp.text [1, 3, 6] rfl rfl ?_ -- region 8
              refine TextR.move rfl ?_
              refine TextR.int rfl rfl rfl ?_
              refine TextR.assign rfl ?_
              refine TextR.done (.cons rfl (.cons rfl (.cons rfl .nil))) ?_
              exact ⟨m1, Nat.lt_succ_self _, _, (St.Weak.trans (keepW (live := [1, 3, 6]) (.cons rfl (.cons rfl (.cons rfl .nil)))) (pickT (e' := [(1, .c (.ptr 0 0 0 0)), (3, .c (.slv (y5.1.map eI))), (6, .c (I (w64 (s6_1 + 1))))]) (H' := [.live 0 2 [[I a0.N, .slv (a0.Edges.map eEdge)]]]) [0] [0, 0] 0 hok.len.symm rfl rfl (by decide) (by first | rfl | simp [-List.map_set]) (by first | rfl | simp [-List.map_set]) (by first | rfl | simp [-List.map_set]) (by first | rfl | simp [-List.map_set]))), _, h, rfl⟩
          · rintro S' ⟨r16, rfl, hR⟩
            dsimp only at h
            exact ⟨_, (Option.some.inj h).symm, hR⟩
        · refine Wp.exit ?_
          exact ⟨_, (Option.some.inj h).symm, _, (keepW (live := [1, 3]) (.cons rfl (.cons rfl .nil))), rfl⟩
      · rintro _ ⟨z8, rfl, _, hw, rfl⟩
        dsimp only at h
        clear hz6
        refine Wp.weak hw ?_
        refine Wp.seq ?_
        refine Wp.text [2] rfl rfl ?_ -- region 23
        refine TextR.move rfl ?_
        refine TextR.lenM us25 rfl rfl ?_
        refine TextR.fieldAddr fo24_0 rfl rfl rfl ?_
        refine TextR.load1 tk3 rfl rfl ?_
        refine TextR.int rfl rfl rfl ?_
        refine TextR.assign rfl ?_
        refine TextR.done (.cons rfl .nil) ?_
        refine Wp.ret ?_
        obtain rfl := Option.some.inj h
        exact Ret.one rfl (resV_tmp rfl) rfl
      · rintro S' ⟨r7, rfl, hR⟩
        dsimp only at h
        obtain rfl := Option.some.inj h
        exact hR
theorem c_narthexlaw11_ColourGreedy (N : Nat) (a0 : TGraph) (r : Bool) (h : narthexlaw11_ColourGreedy N a0 = some r) (H : List Ob) : DCall Try.prog 6 [.agg (eGraph a0)] H (.c (B r)) := DCall.lift (by first | rfl | simp [-List.map_set]) (by first | rfl | simp [-List.map_set]) (fun _ => by simp [-List.map_set]) (w_narthexlaw11_ColourGreedy N a0 r h) H
-- narthex/narthexlaw11.ColourStays
theorem w_narthexlaw11_ColourStays (N : Nat) (a0 : TGraph) (a1 : List Int) (r : Bool) (h : narthexlaw11_ColourStays N a0 a1 = some r) : Nx.Call Try.prog 7 [.agg (eGraph a0), .c (.slv (a1.map eI))] [] fun r' _ => r' = .c (B r) := by
  refine Nx.Call.of_body Try.func7 rfl en7 Try.ntmps7 rfl (fun Γ hok => ?_)
  unfold narthexlaw11_ColourStays at h
  refine Wp.seq ?_
  refine Wp.text [1, 2] rfl rfl ?_ -- region 0
  refine TextR.box (cs := [I a0.N, .slv (a0.Edges.map eEdge)]) 0 rfl rfl rfl rfl .nil ?_
  refine TextR.assign rfl ?_
  refine TextR.done (.cons rfl (.cons rfl .nil)) ?_
  refine Wp.seq ?_
  refine Wp.seq ?_
  obtain ⟨y1, hy1, h⟩ := bind_some h
  obtain ⟨y2, hy2, h⟩ := bind_some h
  refine Wp.go false none [[], [], [], [(13, false)], [(13, false)], [(13, false)], [(13, false)], []] [] [1, 2, 18] mixed rfl rfl (by kernel_rfl) ?_ -- region 1
  refine RunR.call rfl rfl rfl (fun H => c_narthexlaw11_awake N y1 hy1 H) ?_
  refine RunR.not rfl rfl rfl ?_
  refine RunR.move rfl rfl rfl ?_
  refine RunR.loadN (cs := [I a0.N, .slv (a0.Edges.map eEdge)]) tk24 rfl rfl rfl rfl ?_
  refine RunR.move rfl rfl rfl ?_
  refine RunR.callG rfl rfl rfl (fun hb H => c_narthexlaw11_few N a0 a1 y2 (ifT hy2 gF hb) H) ?_
  refine RunR.not rfl rfl rfl ?_
  refine RunR.pickOr rfl rfl rfl rfl ?_
  refine RunR.doneQ (.cons rfl (.cons rfl (.cons rfl .nil))) ?_
  refine Wp.condM h rfl (fun hc1 h => ?_) (fun hc1 h => ?_)
  · refine Wp.seq ?_
    obtain ⟨y3, hy3, h⟩ := bind_some h
    refine Wp.text [4] rfl rfl ?_ -- region 2
    refine TextR.dcall rfl rfl (c_narthexlaw11_awake N y3 hy3 _) ?_
    refine TextR.assign rfl ?_
    refine TextR.done (.cons rfl .nil) ?_
    refine Wp.ret ?_
    obtain rfl := Option.some.inj h
    exact Ret.one rfl (resV_tmp rfl) rfl
  · refine Wp.skip ?_
    refine Wp.seq ?_
    obtain ⟨y4, hy4, h⟩ := bind_some h
    obtain ⟨y5, hy5, h⟩ := bind_some h
    obtain ⟨y6, hy6, h⟩ := bind_some h
    refine Wp.text [1, 2, 5, 6] rfl rfl ?_ -- region 3
    refine TextR.loadN (cs := [I a0.N, .slv (a0.Edges.map eEdge)]) tk24 rfl rfl ?_
    refine TextR.dcall rfl rfl (c_narthexlaw03_Own N a0 y4 hy4 _) ?_
    refine TextR.move rfl ?_
    refine TextR.dcall rfl rfl (c_narthexlaw11_own N a1 y5 hy5 _) ?_
    refine TextR.dcall rfl rfl (c_colour_Round N y4 y5 y6 hy6 _) ?_
    refine TextR.move rfl ?_
    refine TextR.extract rfl rfl ?_
    refine TextR.extract rfl rfl ?_
    refine TextR.assign rfl ?_
    refine TextR.assign rfl ?_
    refine TextR.done (.cons rfl (.cons rfl (.cons rfl (.cons rfl .nil)))) ?_
    refine Wp.seq ?_
    refine Wp.seq ?_
    refine Wp.go false none [[], [], [], [(30, false)], [(30, false)], [(30, false)], [(30, false)], [(30, false)], []] [] [1, 2, 5, 6, 36] mixed rfl rfl (by kernel_rfl) ?_ -- region 4
    refine RunR.move rfl rfl rfl ?_
    refine RunR.int rfl rfl rfl rfl rfl ?_
    refine RunR.move rfl rfl rfl ?_
    refine RunR.move rfl rfl rfl ?_
    refine RunR.lenM us25 rfl rfl rfl rfl ?_
    refine RunR.move rfl rfl rfl ?_
    refine RunR.lenM us25 rfl rfl rfl rfl ?_
    refine RunR.int rfl rfl rfl rfl rfl ?_
    refine RunR.pickOr rfl rfl rfl rfl ?_
    refine RunR.doneQ (.cons rfl (.cons rfl (.cons rfl (.cons rfl (.cons rfl .nil))))) ?_
    refine Wp.condM h rfl (fun hc2 h => ?_) (fun hc2 h => ?_)
    · refine Wp.seq ?_
      refine Wp.go false none [[], [], [], [(39, true)], [(39, true)], [(39, true)], [], []] [] [4] mixed rfl rfl (by kernel_rfl) ?_ -- region 5
      refine RunR.move rfl rfl rfl ?_
      refine RunR.int rfl rfl rfl rfl rfl ?_
      refine RunR.move rfl rfl rfl ?_
      refine RunR.move rfl rfl rfl ?_
      refine RunR.lenM us25 rfl rfl rfl rfl ?_
      refine RunR.int rfl rfl rfl rfl rfl ?_
      refine RunR.pickAnd rfl rfl rfl rfl ?_
      refine RunR.assign rfl rfl rfl ?_
      refine RunR.doneQ (.cons rfl .nil) ?_
      refine Wp.ret ?_
      obtain rfl := Option.some.inj h
      exact Ret.one rfl (resV_tmp rfl) rfl
    · refine Wp.skip ?_
      refine Wp.seq ?_
      refine Wp.text [1, 2, 5, 7] rfl rfl ?_ -- region 6
      refine TextR.assign rfl ?_
      refine TextR.done (.cons rfl (.cons rfl (.cons rfl (.cons rfl .nil)))) ?_
      refine Wp.seq ?_
      refine Wp.seq ?_
      refine Wp.text [1, 2, 5, 7, 8] rfl rfl ?_ -- region 7
      refine TextR.assign rfl ?_
      refine TextR.done (.cons rfl (.cons rfl (.cons rfl (.cons rfl (.cons rfl .nil))))) ?_
      obtain ⟨z7, hz7, h⟩ := bind_some h
      refine Wp.fragR (fun S => ∃ z9, z7 = .inr z9 ∧ ∃ S', St.Weak ⟨Try.prog, 129, Γ⟩ S S' ∧ S' = ⟨[(1, .c (.slv (a1.map eI))), (2, .c (.ptr 0 0 0 0)), (5, .c (.slv (y6.1.map eI))), (7, .c (I z9))], [.live 0 2 [[I a0.N, .slv (a0.Edges.map eEdge)]]]⟩) (fun S => ∃ v, z7 = .inl v ∧ Ret Try.prog Try.f7 (fun r' _ => r' = .c (B v)) .ret S) ?_ ?_ ?_
      · replace h := hz7
        refine Wp.block ?_
        refine Wp.weak (keepW (live := [1, 2, 5, 7, 8]) (.cons rfl (.cons rfl (.cons rfl (.cons rfl (.cons rfl .nil)))))) ?_
        refine Wp.loop (fun m S => ∃ s7_1, ∃ s8_1, narthexlaw11_ColourStays_L1 N a1 y6 m s7_1 s8_1 = some z7 ∧ S = ⟨[(1, .c (.slv (a1.map eI))), (2, .c (.ptr 0 0 0 0)), (5, .c (.slv (y6.1.map eI))), (7, .c (I s7_1)), (8, .c (I s8_1))], [.live 0 2 [[I a0.N, .slv (a0.Edges.map eEdge)]]]⟩) N ⟨_, _, h, rfl⟩ ?_
        rintro m1 _ ⟨s7_1, s8_1, h, rfl⟩
        cases m1 with
        | zero => rw [narthexlaw11_ColourStays_L1.eq_1] at h; cases h
        | succ m1 =>
        rw [narthexlaw11_ColourStays_L1.eq_2] at h
        refine Wp.seq ?_
        refine Wp.seq ?_
        refine Wp.text [1, 2, 5, 7, 8, 47] rfl rfl ?_ -- region 8
        refine TextR.move rfl ?_
        refine TextR.move rfl ?_
        refine TextR.lenM us25 rfl rfl ?_
        refine TextR.int rfl rfl rfl ?_
        refine TextR.done (.cons rfl (.cons rfl (.cons rfl (.cons rfl (.cons rfl (.cons rfl .nil)))))) ?_
        refine Wp.condM h rfl (fun hc4 h => ?_) (fun hc4 h => ?_)
        · refine Wp.skip ?_
          refine Wp.seq ?_
          refine Wp.block ?_
          refine Wp.seq ?_
          refine Wp.seq ?_
          obtain ⟨x10, hx10, h⟩ := bind_some h
          obtain ⟨x11, hx11, h⟩ := bind_some h
          obtain ⟨x12, hx12, h⟩ := bind_some h
          refine Wp.go true (some []) [[], [], [], [], [], [], [(55, true)], [(55, true)], [(55, true)], [(55, true)], [(55, true)], [(55, true)], [(55, true)], [(55, true)], [(55, true)], []] [] [1, 2, 5, 7, 8, 65] mixed rfl rfl (by kernel_rfl) ?_ -- region 10
          refine RunR.move rfl rfl rfl ?_
          refine RunR.move rfl rfl rfl ?_
          refine RunR.indexA se25 rfl rfl rfl rfl rfl hx10 rfl ?_
          refine RunR.load1M tk3 rfl rfl rfl (at_get hx10) rfl ?_
          refine RunR.int rfl rfl rfl rfl rfl ?_
          refine RunR.move rfl rfl rfl ?_
          refine RunR.move rfl rfl rfl ?_
          refine RunR.move rfl rfl rfl ?_
          refine RunR.indexAG se25 rfl rfl rfl rfl rfl (ifPos hx11 gT) (ifAt hx11 gT) rfl ?_
          refine RunR.load1G tk3 rfl rfl rfl (ifAt hx11 gT) rfl ?_
          refine RunR.move rfl rfl rfl ?_
          refine RunR.move rfl rfl rfl ?_
          refine RunR.indexAG se25 rfl rfl rfl rfl rfl (ifPos hx12 gT) (ifAt hx12 gT) rfl ?_
          refine RunR.load1G tk3 rfl rfl rfl (ifAt hx12 gT) rfl ?_
          refine RunR.int rfl rfl rfl rfl rfl ?_
          refine RunR.pickAnd rfl rfl rfl rfl ?_
          refine RunR.doneQ (.cons rfl (.cons rfl (.cons rfl (.cons rfl (.cons rfl (.cons rfl .nil)))))) ?_
          refine Wp.condM h rfl (fun hc5 h => ?_) (fun hc5 h => ?_)
          · refine Wp.seq ?_
            refine Wp.text [4] rfl rfl ?_ -- region 11
            refine TextR.assign rfl ?_
            refine TextR.done (.cons rfl .nil) ?_
            refine Wp.ret ?_
            exact ⟨_, (Option.some.inj h).symm, Ret.one rfl (resV_tmp rfl) rfl⟩
          · refine Wp.skip ?_
            refine Wp.seq ?_
            obtain ⟨x13, hx13, h⟩ := bind_some h
            obtain ⟨x14, hx14, h⟩ := bind_some h
            refine Wp.go false none [[], [], [], [], [], [], [(71, true)], [(71, true)], [(71, true)], [(71, true)], [(71, true)], []] [] [1, 2, 5, 7, 8, 77] mixed rfl rfl (by kernel_rfl) ?_ -- region 12
            refine RunR.move rfl rfl rfl ?_
            refine RunR.move rfl rfl rfl ?_
            refine RunR.indexA se25 rfl rfl rfl rfl rfl hx13 rfl ?_
            refine RunR.load1M tk3 rfl rfl rfl (at_get hx13) rfl ?_
            refine RunR.int rfl rfl rfl rfl rfl ?_
            refine RunR.move rfl rfl rfl ?_
            refine RunR.move rfl rfl rfl ?_
            refine RunR.move rfl rfl rfl ?_
            refine RunR.indexAG se25 rfl rfl rfl rfl rfl (ifPos hx14 gT) (ifAt hx14 gT) rfl ?_
            refine RunR.load1G tk3 rfl rfl rfl (ifAt hx14 gT) rfl ?_
            refine RunR.int rfl rfl rfl rfl rfl ?_
            refine RunR.pickAnd rfl rfl rfl rfl ?_
            refine RunR.doneQ (.cons rfl (.cons rfl (.cons rfl (.cons rfl (.cons rfl (.cons rfl .nil)))))) ?_
            refine Wp.condM h rfl (fun hc6 h => ?_) (fun hc6 h => ?_)
            · refine Wp.text [1, 2, 5, 7, 8] rfl rfl ?_ -- region 13
              refine TextR.move rfl ?_
              refine TextR.int rfl rfl rfl ?_
              refine TextR.assign rfl ?_
              refine TextR.done (.cons rfl (.cons rfl (.cons rfl (.cons rfl (.cons rfl .nil))))) ?_
              refine Wp.text [1, 2, 5, 7, 8] rfl rfl ?_ -- region 9
              refine TextR.move rfl ?_
              refine TextR.int rfl rfl rfl ?_
              refine TextR.assign rfl ?_
              refine TextR.done (.cons rfl (.cons rfl (.cons rfl (.cons rfl (.cons rfl .nil))))) ?_
              exact ⟨m1, Nat.lt_succ_self _, _, (keepW (live := [1, 2, 5, 7, 8]) (.cons rfl (.cons rfl (.cons rfl (.cons rfl (.cons rfl .nil)))))), _, _, h, rfl⟩
            · refine Wp.skip ?_
              refine Wp.text [1, 2, 5, 7, 8] rfl rfl ?_ -- region 9
              refine TextR.move rfl ?_
              refine TextR.int rfl rfl rfl ?_
              refine TextR.assign rfl ?_
              refine TextR.done (.cons rfl (.cons rfl (.cons rfl (.cons rfl (.cons rfl .nil))))) ?_
              exact ⟨m1, Nat.lt_succ_self _, _, (keepW (live := [1, 2, 5, 7, 8]) (.cons rfl (.cons rfl (.cons rfl (.cons rfl (.cons rfl .nil)))))), _, _, h, rfl⟩
        · refine Wp.exit ?_
          exact ⟨_, (Option.some.inj h).symm, _, (keepW (live := [1, 2, 5, 7]) (.cons rfl (.cons rfl (.cons rfl (.cons rfl .nil))))), rfl⟩
      · rintro _ ⟨z9, rfl, _, hw, rfl⟩
        dsimp only at h
        clear hz7
        refine Wp.weak hw ?_
        refine Wp.seq ?_
        refine Wp.seq ?_
        refine Wp.text [1, 2, 5, 7, 9] rfl rfl ?_ -- region 14
        refine TextR.assign rfl ?_
        refine TextR.done (.cons rfl (.cons rfl (.cons rfl (.cons rfl (.cons rfl .nil))))) ?_
        obtain ⟨z15, hz15, h⟩ := bind_some h
        refine Wp.fragR (fun S => ∃ z17, z15 = .inr z17 ∧ ∃ S', St.Weak ⟨Try.prog, 129, Γ⟩ S S' ∧ S' = ⟨[(1, .c (.slv (a1.map eI))), (7, .c (I z9))], []⟩) (fun S => ∃ v, z15 = .inl v ∧ Ret Try.prog Try.f7 (fun r' _ => r' = .c (B v)) .ret S) ?_ ?_ ?_
        · replace h := hz15
          refine Wp.block ?_
          refine Wp.weak (keepW (live := [1, 2, 5, 7, 9]) (.cons rfl (.cons rfl (.cons rfl (.cons rfl (.cons rfl .nil)))))) ?_
          refine Wp.loop (fun m S => ∃ s9_2, narthexlaw11_ColourStays_L2 N a0 a1 y6 m s9_2 = some z15 ∧ S = ⟨[(1, .c (.slv (a1.map eI))), (2, .c (.ptr 0 0 0 0)), (5, .c (.slv (y6.1.map eI))), (7, .c (I z9)), (9, .c (I s9_2))], [.live 0 2 [[I a0.N, .slv (a0.Edges.map eEdge)]]]⟩) N ⟨_, h, rfl⟩ ?_
          rintro m2 _ ⟨s9_2, h, rfl⟩
          cases m2 with
          | zero => rw [narthexlaw11_ColourStays_L2.eq_1] at h; cases h
          | succ m2 =>
          rw [narthexlaw11_ColourStays_L2.eq_2] at h
          refine Wp.seq ?_
          refine Wp.seq ?_
          refine Wp.text [1, 2, 5, 7, 9, 84] rfl rfl ?_ -- region 15
          refine TextR.move rfl ?_
          refine TextR.fieldAddr fo24_1 rfl rfl rfl ?_
          refine TextR.load1 tk22 rfl rfl ?_
          refine TextR.lenM us22 rfl rfl ?_
          refine TextR.int rfl rfl rfl ?_
          refine TextR.done (.cons rfl (.cons rfl (.cons rfl (.cons rfl (.cons rfl (.cons rfl .nil)))))) ?_
          refine Wp.condM h rfl (fun hc5 h => ?_) (fun hc5 h => ?_)
          · refine Wp.skip ?_
            refine Wp.seq ?_
            refine Wp.block ?_
            refine Wp.seq ?_
            obtain ⟨x18, hx18, h⟩ := bind_some h
            refine Wp.text [1, 2, 5, 7, 9, 10] rfl rfl ?_ -- region 17
            refine TextR.fieldAddr fo24_1 rfl rfl rfl ?_
            refine TextR.load1 tk22 rfl rfl ?_
            refine TextR.move rfl ?_
            refine TextR.indexA se22 rfl rfl rfl hx18 rfl ?_
            refine TextR.loadNM tk44 rfl (at_get hx18) rfl ?_
            refine TextR.alloc 1 zc44 rfl rfl (.cons .nil) ?_
            refine TextR.store1 tk44 rfl rfl rfl rfl rfl rfl (.succ .zero) ?_
            refine TextR.done (.cons rfl (.cons rfl (.cons rfl (.cons rfl (.cons rfl (.cons rfl .nil)))))) ?_
            refine Wp.seq ?_
            obtain ⟨x19, hx19, h⟩ := bind_some h
            obtain ⟨x20, hx20, h⟩ := bind_some h
            obtain ⟨x21, hx21, h⟩ := bind_some h
            obtain ⟨x22, hx22, h⟩ := bind_some h
            refine Wp.go false none [[], [], [], [], [], [], [], [(98, true)], [(98, true)], [(98, true)], [(98, true)], [(98, true)], [(98, true)], [], [], [(106, true)], [(106, true)], [(106, true)], [(106, true)], [(106, true)], [(106, true)], [], [], [(114, true)], [(114, true)], [(114, true)], [(114, true)], [(114, true)], [(114, true)], []] [] [1, 2, 5, 7, 9, 121] mixed rfl rfl (by kernel_rfl) ?_ -- region 18
            refine RunR.move rfl rfl rfl ?_
            refine RunR.fieldAddr fo44_0 rfl rfl rfl rfl rfl ?_
            refine RunR.load1 tk3 rfl rfl rfl rfl ?_
            refine RunR.indexA se25 rfl rfl rfl rfl rfl hx19 rfl ?_
            refine RunR.load1M tk3 rfl rfl rfl (at_get hx19) rfl ?_
            refine RunR.int rfl rfl rfl rfl rfl ?_
            refine RunR.move rfl rfl rfl ?_
            refine RunR.move rfl rfl rfl ?_
            refine RunR.fieldAddr fo44_1 rfl rfl rfl rfl rfl ?_
            refine RunR.load1 tk3 rfl rfl rfl rfl ?_
            refine RunR.indexAG se25 rfl rfl rfl rfl rfl (ifPos hx20 gT) (ifAt hx20 gT) rfl ?_
            refine RunR.load1G tk3 rfl rfl rfl (ifAt hx20 gT) rfl ?_
            refine RunR.int rfl rfl rfl rfl rfl ?_
            refine RunR.pickAnd rfl rfl rfl rfl ?_
            refine RunR.move rfl rfl rfl ?_
            refine RunR.move rfl rfl rfl ?_
            refine RunR.fieldAddr fo44_0 rfl rfl rfl rfl rfl ?_
            refine RunR.load1 tk3 rfl rfl rfl rfl ?_
            refine RunR.indexAG se25 rfl rfl rfl rfl rfl (ifPos hx21 gT) (ifAt hx21 gT) rfl ?_
            refine RunR.load1G tk3 rfl rfl rfl (ifAt hx21 gT) rfl ?_
            refine RunR.int rfl rfl rfl rfl rfl ?_
            refine RunR.pickAnd rfl rfl rfl rfl ?_
            refine RunR.move rfl rfl rfl ?_
            refine RunR.move rfl rfl rfl ?_
            refine RunR.fieldAddr fo44_1 rfl rfl rfl rfl rfl ?_
            refine RunR.load1 tk3 rfl rfl rfl rfl ?_
            refine RunR.indexAG se25 rfl rfl rfl rfl rfl (ifPos hx22 gT) (ifAt hx22 gT) rfl ?_
            refine RunR.load1G tk3 rfl rfl rfl (ifAt hx22 gT) rfl ?_
            refine RunR.int rfl rfl rfl rfl rfl ?_
            refine RunR.pickAnd rfl rfl rfl rfl ?_
            refine RunR.doneQ (.cons rfl (.cons rfl (.cons rfl (.cons rfl (.cons rfl (.cons rfl .nil)))))) ?_
            refine Wp.condM h rfl (fun hc6 h => ?_) (fun hc6 h => ?_)
            · refine Wp.seq ?_
              refine Wp.text [4] rfl rfl ?_ -- region 19
              refine TextR.assign rfl ?_
              refine TextR.done (.cons rfl .nil) ?_
              refine Wp.ret ?_
              exact ⟨_, (Option.some.inj h).symm, Ret.one rfl (resV_tmp rfl) rfl⟩
            · refine Wp.skip ?_
              refine Wp.text [1, 2, 5, 7, 9] rfl rfl ?_ -- region 16
              refine TextR.move rfl ?_
              refine TextR.int rfl rfl rfl ?_
              refine TextR.assign rfl ?_
              refine TextR.done (.cons rfl (.cons rfl (.cons rfl (.cons rfl (.cons rfl .nil))))) ?_
              exact ⟨m2, Nat.lt_succ_self _, _, (St.Weak.trans (keepW (live := [1, 2, 5, 7, 9]) (.cons rfl (.cons rfl (.cons rfl (.cons rfl (.cons rfl .nil)))))) (pickT (e' := [(1, .c (.slv (a1.map eI))), (2, .c (.ptr 0 0 0 0)), (5, .c (.slv (y6.1.map eI))), (7, .c (I z9)), (9, .c (I (w64 (s9_2 + 1))))]) (H' := [.live 0 2 [[I a0.N, .slv (a0.Edges.map eEdge)]]]) [0] [0, 0] 0 hok.len.symm rfl rfl (by decide) (by first | rfl | simp [-List.map_set]) (by first | rfl | simp [-List.map_set]) (by first | rfl | simp [-List.map_set]) (by first | rfl | simp [-List.map_set]))), _, h, rfl⟩
          · refine Wp.exit ?_
            exact ⟨_, (Option.some.inj h).symm, _, (St.Weak.trans (keepW (live := [1, 7]) (.cons rfl (.cons rfl .nil))) (pickT (e' := [(1, .c (.slv (a1.map eI))), (7, .c (I z9))]) (H' := []) [] [0] 0 hok.len.symm rfl rfl (by decide) (by first | rfl | simp [-List.map_set]) (by first | rfl | simp [-List.map_set]) (by first | rfl | simp [-List.map_set]) (by first | rfl | simp [-List.map_set]))), rfl⟩
        · rintro _ ⟨z17, rfl, _, hw, rfl⟩
          dsimp only at h
          clear hz15
          refine Wp.weak hw ?_
          refine Wp.seq ?_
          obtain ⟨y23, hy23, h⟩ := bind_some h
          refine Wp.go false none [[], [], [], [(124, false)], [(124, false)], [(124, false)], [], []] [] [4] mixed rfl rfl (by kernel_rfl) ?_ -- region 20
          refine RunR.move rfl rfl rfl ?_
          refine RunR.int rfl rfl rfl rfl rfl ?_
          refine RunR.move rfl rfl rfl ?_
          refine RunR.move rfl rfl rfl ?_
          refine RunR.callG rfl rfl rfl (fun hb H => c_narthexref01_Has N a1 0 y23 (ifT hy23 gF hb) H) ?_
          refine RunR.not rfl rfl rfl ?_
          refine RunR.pickOr rfl rfl rfl rfl ?_
          refine RunR.assign rfl rfl rfl ?_
          refine RunR.doneQ (.cons rfl .nil) ?_
          refine Wp.ret ?_
          obtain rfl := Option.some.inj h
          exact Ret.one rfl (resV_tmp rfl) rfl
        · rintro S' ⟨r16, rfl, hR⟩
          dsimp only at h
          obtain rfl := Option.some.inj h
          exact hR
      · rintro S' ⟨r8, rfl, hR⟩
        dsimp only at h
        obtain rfl := Option.some.inj h
        exact hR
theorem c_narthexlaw11_ColourStays (N : Nat) (a0 : TGraph) (a1 : List Int) (r : Bool) (h : narthexlaw11_ColourStays N a0 a1 = some r) (H : List Ob) : DCall Try.prog 7 [.agg (eGraph a0), .c (.slv (a1.map eI))] H (.c (B r)) := DCall.lift (by first | rfl | simp [-List.map_set]) (by first | rfl | simp [-List.map_set]) (fun _ => by simp [-List.map_set]) (w_narthexlaw11_ColourStays N a0 a1 r h) H
-- narthex/narthexlaw11.ColourAlone
theorem w_narthexlaw11_ColourAlone (N : Nat) (a0 : TGraph) (r : Bool) (h : narthexlaw11_ColourAlone N a0 = some r) : Nx.Call Try.prog 8 [.agg (eGraph a0)] [] fun r' _ => r' = .c (B r) := by
  refine Nx.Call.of_body Try.func8 rfl en8 Try.ntmps8 rfl (fun Γ hok => ?_)
  unfold narthexlaw11_ColourAlone at h
  refine Wp.seq ?_
  refine Wp.text [1] rfl rfl ?_ -- region 0
  refine TextR.box (cs := [I a0.N, .slv (a0.Edges.map eEdge)]) 0 rfl rfl rfl rfl .nil ?_
  refine TextR.assign rfl ?_
  refine TextR.done (.cons rfl .nil) ?_
  refine Wp.seq ?_
  refine Wp.seq ?_
  obtain ⟨y1, hy1, h⟩ := bind_some h
  obtain ⟨y2, hy2, h⟩ := bind_some h
  obtain ⟨y3, hy3, h⟩ := bind_some h
  refine Wp.go false none [[], [], [], [(10, false)], [(10, false)], [(10, false)], [], [], [(15, false)], [(15, false)], [(15, false)], []] [] [1, 19] mixed rfl rfl (by kernel_rfl) ?_ -- region 1
  refine RunR.call rfl rfl rfl (fun H => c_narthexlaw11_awake N y1 hy1 H) ?_
  refine RunR.not rfl rfl rfl ?_
  refine RunR.move rfl rfl rfl ?_
  refine RunR.loadN (cs := [I a0.N, .slv (a0.Edges.map eEdge)]) tk24 rfl rfl rfl rfl ?_
  refine RunR.callG rfl rfl rfl (fun hb H => DCall.nz rfl (c_narthexlaw11_few N a0 [] y2 (ifT hy2 gF hb) H)) ?_
  refine RunR.not rfl rfl rfl ?_
  refine RunR.pickOr rfl rfl rfl rfl ?_
  refine RunR.move rfl rfl rfl ?_
  refine RunR.loadN (cs := [I a0.N, .slv (a0.Edges.map eEdge)]) tk24 rfl rfl rfl rfl ?_
  refine RunR.callG rfl rfl rfl (fun hb H => c_narthexref03_Check N a0 y3 (ifT hy3 gF hb) H) ?_
  refine RunR.not rfl rfl rfl ?_
  refine RunR.pickOr rfl rfl rfl rfl ?_
  refine RunR.doneQ (.cons rfl (.cons rfl .nil)) ?_
  refine Wp.condM h rfl (fun hc1 h => ?_) (fun hc1 h => ?_)
  · refine Wp.seq ?_
    obtain ⟨y4, hy4, h⟩ := bind_some h
    refine Wp.text [2] rfl rfl ?_ -- region 2
    refine TextR.dcall rfl rfl (c_narthexlaw11_awake N y4 hy4 _) ?_
    refine TextR.assign rfl ?_
    refine TextR.done (.cons rfl .nil) ?_
    refine Wp.ret ?_
    obtain rfl := Option.some.inj h
    exact Ret.one rfl (resV_tmp rfl) rfl
  · refine Wp.skip ?_
    refine Wp.seq ?_
    refine Wp.text [1, 3] rfl rfl ?_ -- region 3
    refine TextR.buildSlice  1 se25 rfl rfl rfl (.cons .nil) ?_
    refine TextR.assign rfl ?_
    refine TextR.done (.cons rfl (.cons rfl .nil)) ?_
    refine Wp.seq ?_
    refine Wp.seq ?_
    refine Wp.text [1, 3, 4] rfl rfl ?_ -- region 4
    refine TextR.assign rfl ?_
    refine TextR.done (.cons rfl (.cons rfl (.cons rfl .nil))) ?_
    obtain ⟨z5, hz5, h⟩ := bind_some h
    refine Wp.fragN (fun S => ∃ wz5_1, ∃ S', St.Weak ⟨Try.prog, 79, Γ⟩ S S' ∧ S' = ⟨[(1, .c (.ptr 0 0 0 0)), (3, .c (.sl 1 wz5_1 0 z5.length))], [.live 0 2 [[I a0.N, .slv (a0.Edges.map eEdge)]], .live wz5_1 1 (z5.map eI)]⟩) ?_ ?_
    · replace h := hz5
      refine Wp.block ?_
      refine Wp.weak (keepW (live := [1, 3, 4]) (.cons rfl (.cons rfl (.cons rfl .nil)))) ?_
      refine Wp.loop (fun m S => ∃ l1_1, ∃ s4_1, ∃ wh1_1, narthexlaw11_ColourAlone_L1 N a0 m l1_1 s4_1 = some z5 ∧ S = ⟨[(1, .c (.ptr 0 0 0 0)), (3, .c (.sl 1 wh1_1 0 l1_1.length)), (4, .c (I s4_1))], [.live 0 2 [[I a0.N, .slv (a0.Edges.map eEdge)]], .live wh1_1 1 (l1_1.map eI)]⟩) N ⟨_, _, _, h, rfl⟩ ?_
      rintro m1 _ ⟨l1_1, s4_1, wh1_1, h, rfl⟩
      cases m1 with
      | zero => rw [narthexlaw11_ColourAlone_L1.eq_1] at h; cases h
      | succ m1 =>
      rw [narthexlaw11_ColourAlone_L1.eq_2] at h
      refine Wp.seq ?_
      refine Wp.seq ?_
      refine Wp.text [1, 3, 4, 25] rfl rfl ?_ -- region 5
      refine TextR.move rfl ?_
      refine TextR.fieldAddr fo24_0 rfl rfl rfl ?_
      refine TextR.load1 tk3 rfl rfl ?_
      refine TextR.int rfl rfl rfl ?_
      refine TextR.done (.cons rfl (.cons rfl (.cons rfl (.cons rfl .nil)))) ?_
      refine Wp.condM h rfl (fun hc3 h => ?_) (fun hc3 h => ?_)
      · refine Wp.skip ?_
        refine Wp.seq ?_
        refine Wp.block ?_
        obtain ⟨x6, hx6, h⟩ := bind_some h
        refine Wp.text [1, 3, 4] rfl rfl ?_ -- region 7
        refine TextR.move rfl ?_
        refine TextR.buildSlice (rows := [0].map eI) 2 se25 rfl rfl rfl (.cons (.cons .nil)) ?_
        refine TextR.appendM eI l1_1 [0] x6 (app_eq hx6) se25 rfl (obj_of rfl) rfl (view_whole (f := eI) (xs := [0]) rfl) (fun _ => rfl) rfl (app_len hx6) (.succ .zero) ?_
        refine TextR.assign rfl ?_
        refine TextR.done (.cons rfl (.cons rfl (.cons rfl .nil))) ?_
        refine Wp.text [1, 3, 4] rfl rfl ?_ -- region 6
        refine TextR.move rfl ?_
        refine TextR.int rfl rfl rfl ?_
        refine TextR.assign rfl ?_
        refine TextR.done (.cons rfl (.cons rfl (.cons rfl .nil))) ?_
        exact ⟨m1, Nat.lt_succ_self _, _, (St.Weak.trans (keepW (live := [1, 3, 4]) (.cons rfl (.cons rfl (.cons rfl .nil)))) (pickT (e' := [(1, .c (.ptr 0 0 0 0)), (3, .c (.sl 1 (wh1_1 + 1) 0 x6.length)), (4, .c (I (w64 (s4_1 + 1))))]) (H' := [.live 0 2 [[I a0.N, .slv (a0.Edges.map eEdge)]], .live (wh1_1 + 1) 1 (x6.map eI)]) [0, 1] [0, 1, 0] 0 hok.len.symm rfl rfl (by decide) (by first | rfl | simp [-List.map_set]) (by first | rfl | simp [-List.map_set]) (by first | rfl | simp [-List.map_set]) (by first | rfl | simp [-List.map_set]))), _, _, _, h, rfl⟩
      · refine Wp.exit ?_
        obtain rfl := Option.some.inj h
        exact ⟨_, _, (keepW (live := [1, 3]) (.cons rfl (.cons rfl .nil))), rfl⟩
    rintro _ ⟨wz5_1, S', hw, rfl⟩
    clear hz5
    refine Wp.weak hw ?_
    refine Wp.seq ?_
    refine Wp.weak (freezeW (h := 1) (ver := wz5_1) (rows := z5.map eI) (e' := [(1, .c (.ptr 0 0 0 0)), (3, .c (.slv (z5.map eI)))]) (H' := [.live 0 2 [[I a0.N, .slv (a0.Edges.map eEdge)]], .dead]) (obj_of rfl) (by first | rfl | simp [-List.map_set]) (by first | rfl | simp [-List.map_set])) ?_
    obtain ⟨y7, hy7, h⟩ := bind_some h
    obtain ⟨y8, hy8, h⟩ := bind_some h
    refine Wp.text [1, 5, 6] rfl rfl ?_ -- region 8
    refine TextR.loadN (cs := [I a0.N, .slv (a0.Edges.map eEdge)]) tk24 rfl rfl ?_
    refine TextR.dcall rfl rfl (c_narthexlaw03_Own N a0 y7 hy7 _) ?_
    refine TextR.move rfl ?_
    refine TextR.dcall rfl rfl (c_colour_Round N y7 z5 y8 hy8 _) ?_
    refine TextR.move rfl ?_
    refine TextR.extract rfl rfl ?_
    refine TextR.extract rfl rfl ?_
    refine TextR.assign rfl ?_
    refine TextR.assign rfl ?_
    refine TextR.done (.cons rfl (.cons rfl (.cons rfl .nil))) ?_
    refine Wp.seq ?_
    refine Wp.seq ?_
    refine Wp.text [1, 5, 6, 7] rfl rfl ?_ -- region 9
    refine TextR.assign rfl ?_
    refine TextR.done (.cons rfl (.cons rfl (.cons rfl (.cons rfl .nil)))) ?_
    obtain ⟨z9, hz9, h⟩ := bind_some h
    refine Wp.fragR (fun S => ∃ z11, z9 = .inr z11 ∧ ∃ S', St.Weak ⟨Try.prog, 79, Γ⟩ S S' ∧ S' = ⟨[(1, .c (.ptr 0 0 0 0)), (5, .c (.slv (y8.1.map eI))), (6, .c (I y8.2))], [.live 0 2 [[I a0.N, .slv (a0.Edges.map eEdge)]]]⟩) (fun S => ∃ v, z9 = .inl v ∧ Ret Try.prog Try.f8 (fun r' _ => r' = .c (B v)) .ret S) ?_ ?_ ?_
    · replace h := hz9
      refine Wp.block ?_
      refine Wp.weak (St.Weak.trans (keepW (live := [1, 5, 6, 7]) (.cons rfl (.cons rfl (.cons rfl (.cons rfl .nil))))) (pickT (e' := [(1, .c (.ptr 0 0 0 0)), (5, .c (.slv (y8.1.map eI))), (6, .c (I y8.2)), (7, .c (I 0))]) (H' := [.live 0 2 [[I a0.N, .slv (a0.Edges.map eEdge)]]]) [0] [0, 0] 0 hok.len.symm rfl rfl (by decide) (by first | rfl | simp [-List.map_set]) (by first | rfl | simp [-List.map_set]) (by first | rfl | simp [-List.map_set]) (by first | rfl | simp [-List.map_set]))) ?_
      refine Wp.loop (fun m S => ∃ s7_2, narthexlaw11_ColourAlone_L2 N a0 y8 m s7_2 = some z9 ∧ S = ⟨[(1, .c (.ptr 0 0 0 0)), (5, .c (.slv (y8.1.map eI))), (6, .c (I y8.2)), (7, .c (I s7_2))], [.live 0 2 [[I a0.N, .slv (a0.Edges.map eEdge)]]]⟩) N ⟨_, h, rfl⟩ ?_
      rintro m2 _ ⟨s7_2, h, rfl⟩
      cases m2 with
      | zero => rw [narthexlaw11_ColourAlone_L2.eq_1] at h; cases h
      | succ m2 =>
      rw [narthexlaw11_ColourAlone_L2.eq_2] at h
      refine Wp.seq ?_
      refine Wp.seq ?_
      refine Wp.text [1, 5, 6, 7, 41] rfl rfl ?_ -- region 10
      refine TextR.move rfl ?_
      refine TextR.move rfl ?_
      refine TextR.lenM us25 rfl rfl ?_
      refine TextR.int rfl rfl rfl ?_
      refine TextR.done (.cons rfl (.cons rfl (.cons rfl (.cons rfl (.cons rfl .nil))))) ?_
      refine Wp.condM h rfl (fun hc3 h => ?_) (fun hc3 h => ?_)
      · refine Wp.skip ?_
        refine Wp.seq ?_
        refine Wp.block ?_
        refine Wp.seq ?_
        obtain ⟨y12, hy12, h⟩ := bind_some h
        obtain ⟨x13, hx13, h⟩ := bind_some h
        obtain ⟨x14, hx14, h⟩ := bind_some h
        refine Wp.go false none [[], [], [], [], [], [], [(49, false)], [(49, false)], [(49, false)], [(49, false)], [(49, false)], [], [], [(56, true)], [(56, true)], [(56, true)], [(56, true)], [(56, true)], [], [], [(63, false)], [(63, false)], [(63, false)], [(63, false)], [(63, false)], []] [] [1, 5, 6, 7, 69] mixed rfl rfl (by kernel_rfl) ?_ -- region 12
        refine RunR.loadN (cs := [I a0.N, .slv (a0.Edges.map eEdge)]) tk24 rfl rfl rfl rfl ?_
        refine RunR.move rfl rfl rfl ?_
        refine RunR.call rfl rfl rfl (fun H => c_narthexref03_Near N a0 s7_2 y12 hy12 H) ?_
        refine RunR.lenM us25 rfl rfl rfl rfl ?_
        refine RunR.int rfl rfl rfl rfl rfl ?_
        refine RunR.move rfl rfl rfl ?_
        refine RunR.move rfl rfl rfl ?_
        refine RunR.fieldAddr fo24_0 rfl rfl rfl rfl rfl ?_
        refine RunR.load1 tk3 rfl rfl rfl rfl ?_
        refine RunR.int rfl rfl rfl rfl rfl ?_
        refine RunR.int rfl rfl rfl rfl rfl ?_
        refine RunR.pickOr rfl rfl rfl rfl ?_
        refine RunR.move rfl rfl rfl ?_
        refine RunR.move rfl rfl rfl ?_
        refine RunR.move rfl rfl rfl ?_
        refine RunR.indexAG se25 rfl rfl rfl rfl rfl (ifPos hx13 gT) (ifAt hx13 gT) rfl ?_
        refine RunR.load1G tk3 rfl rfl rfl (ifAt hx13 gT) rfl ?_
        refine RunR.int rfl rfl rfl rfl rfl ?_
        refine RunR.pickAnd rfl rfl rfl rfl ?_
        refine RunR.move rfl rfl rfl ?_
        refine RunR.move rfl rfl rfl ?_
        refine RunR.move rfl rfl rfl ?_
        refine RunR.indexAG se25 rfl rfl rfl rfl rfl (ifPos hx14 gF) (ifAt hx14 gF) rfl ?_
        refine RunR.load1G tk3 rfl rfl rfl (ifAt hx14 gF) rfl ?_
        refine RunR.int rfl rfl rfl rfl rfl ?_
        refine RunR.pickOr rfl rfl rfl rfl ?_
        refine RunR.doneQ (.cons rfl (.cons rfl (.cons rfl (.cons rfl (.cons rfl .nil))))) ?_
        refine Wp.condM h rfl (fun hc4 h => ?_) (fun hc4 h => ?_)
        · refine Wp.seq ?_
          refine Wp.text [2] rfl rfl ?_ -- region 13
          refine TextR.assign rfl ?_
          refine TextR.done (.cons rfl .nil) ?_
          refine Wp.ret ?_
          exact ⟨_, (Option.some.inj h).symm, Ret.one rfl (resV_tmp rfl) rfl⟩
        · refine Wp.skip ?_
          refine Wp.text [1, 5, 6, 7] rfl rfl ?_ -- region 11
          refine TextR.move rfl ?_
          refine TextR.int rfl rfl rfl ?_
          refine TextR.assign rfl ?_
          refine TextR.done (.cons rfl (.cons rfl (.cons rfl (.cons rfl .nil)))) ?_
          exact ⟨m2, Nat.lt_succ_self _, _, (keepW (live := [1, 5, 6, 7]) (.cons rfl (.cons rfl (.cons rfl (.cons rfl .nil))))), _, h, rfl⟩
      · refine Wp.exit ?_
        exact ⟨_, (Option.some.inj h).symm, _, (keepW (live := [1, 5, 6]) (.cons rfl (.cons rfl (.cons rfl .nil)))), rfl⟩
    · rintro _ ⟨z11, rfl, _, hw, rfl⟩
      dsimp only at h
      clear hz9
      refine Wp.weak hw ?_
      refine Wp.seq ?_
      refine Wp.go false none [[], [], [], [(72, true)], [(72, true)], [(72, true)], [(72, true)], [(72, true)], [], []] [] [2] mixed rfl rfl (by kernel_rfl) ?_ -- region 14
      refine RunR.move rfl rfl rfl ?_
      refine RunR.int rfl rfl rfl rfl rfl ?_
      refine RunR.move rfl rfl rfl ?_
      refine RunR.move rfl rfl rfl ?_
      refine RunR.lenM us25 rfl rfl rfl rfl ?_
      refine RunR.fieldAddr fo24_0 rfl rfl rfl rfl rfl ?_
      refine RunR.load1 tk3 rfl rfl rfl rfl ?_
      refine RunR.int rfl rfl rfl rfl rfl ?_
      refine RunR.pickAnd rfl rfl rfl rfl ?_
      refine RunR.assign rfl rfl rfl ?_
      refine RunR.doneQ (.cons rfl .nil) ?_
      refine Wp.ret ?_
      obtain rfl := Option.some.inj h
      exact Ret.one rfl (resV_tmp rfl) rfl
    · rintro S' ⟨r10, rfl, hR⟩
      dsimp only at h
      obtain rfl := Option.some.inj h
      exact hR
theorem c_narthexlaw11_ColourAlone (N : Nat) (a0 : TGraph) (r : Bool) (h : narthexlaw11_ColourAlone N a0 = some r) (H : List Ob) : DCall Try.prog 8 [.agg (eGraph a0)] H (.c (B r)) := DCall.lift (by first | rfl | simp [-List.map_set]) (by first | rfl | simp [-List.map_set]) (fun _ => by simp [-List.map_set]) (w_narthexlaw11_ColourAlone N a0 r h) H
end Go.Proofs.Ytagmkgbkagpmnaa
