/- The functions do what their models say. -/
import Derived.Test.YtagmkgbkagpmnaaEnc
import Derived.Test.YtagmkgbkagpmnaaLaid
namespace Go.Proofs.Ytagmkgbkagpmnaa
open Go Go.Nx
set_option linter.unusedVariables false
set_option linter.unusedSimpArgs false
set_option linter.unnecessarySimpa false
set_option maxRecDepth 8000
attribute [local simp] putSeg List.map_take List.map_drop rvL rvK bwL hfVs hfV hfL hfAll hfRows mvV mvL mv0 sh0 mvO mpE mpV mpVs mpO fzL rnL rn0 ok0 nzI nzB nzN nzF nzP nzO nzQ nzC shL shV shO okV okL okO List.take_of_length_le h_Edge hm_Edge ok_eEdge okR_eEdge fx_eEdge fxR_eEdge h_I hm_I ok_eI okR_eI fx_eI fxR_eI h_Graph hm_Graph ok_eGraph okR_eGraph fx_eGraph fxR_eGraph
-- narthex/graph.Check$1
theorem w_graph_Check_1 (N : Nat) (a0 : TEdge) (c0_0 : Int) (c0_1 : List TEdge) (r : Bool) (h : graph_Check_1 N a0 c0_0 c0_1 = some r) : Nx.Call Try.prog 41 [.agg (eEdge a0), .c (.ptr 0 0 0 0)] [.live 0 2 [[I c0_0, .slv (c0_1.map eEdge)]]] fun r' H' => r' = .c (B r) ∧ ∃ junk, H' = [.live 0 2 [[I c0_0, .slv (c0_1.map eEdge)]]] ++ junk := by
  refine Nx.Call.of_body Try.func41 rfl en41 Try.ntmps41 rfl (fun Γ hok => ?_)
  unfold graph_Check_1 at h
  refine Wp.seq ?_
  refine Wp.text [1, 2] rfl rfl ?_ -- region 0
  refine TextR.box (cs := [I a0.A, I a0.B]) 1 rfl rfl rfl rfl (.cons .nil) ?_
  refine TextR.assign rfl ?_
  refine TextR.done (.cons rfl (.cons rfl .nil)) ?_
  refine Wp.seq ?_
  refine Wp.go false none [[], [], [], [], [(7, false)], [(7, false)], [(7, false)], [(7, false)], [(7, false)], [], [], [(14, false)], [(14, false)], [(14, false)], [(14, false)], [(14, false)], [], []] [] [3] mixed rfl rfl (by kernel_rfl) ?_ -- region 1
  refine RunR.fieldAddr fo44_0 rfl rfl rfl rfl rfl ?_
  refine RunR.load1 tk3 rfl rfl rfl rfl ?_
  refine RunR.int rfl rfl rfl rfl rfl ?_
  refine RunR.move rfl rfl rfl ?_
  refine RunR.fieldAddr fo44_0 rfl rfl rfl rfl rfl ?_
  refine RunR.load1 tk3 rfl rfl rfl rfl ?_
  refine RunR.fieldAddr fo44_1 rfl rfl rfl rfl rfl ?_
  refine RunR.load1 tk3 rfl rfl rfl rfl ?_
  refine RunR.int rfl rfl rfl rfl rfl ?_
  refine RunR.pickOr rfl rfl rfl rfl ?_
  refine RunR.move rfl rfl rfl ?_
  refine RunR.fieldAddr fo44_1 rfl rfl rfl rfl rfl ?_
  refine RunR.load1 tk3 rfl rfl rfl rfl ?_
  refine RunR.fieldAddr fo24_0 rfl rfl rfl rfl rfl ?_
  refine RunR.load1 tk3 rfl rfl rfl rfl ?_
  refine RunR.int rfl rfl rfl rfl rfl ?_
  refine RunR.pickOr rfl rfl rfl rfl ?_
  refine RunR.assign rfl rfl rfl ?_
  refine RunR.doneQ (.cons rfl .nil) ?_
  refine Wp.ret ?_
  obtain rfl := Option.some.inj h
  exact Ret.one rfl (resV_tmp rfl) ⟨rfl, _, rfl⟩
theorem c_graph_Check_1 (N : Nat) (a0 : TEdge) (c0_0 : Int) (c0_1 : List TEdge) (r : Bool) (h : graph_Check_1 N a0 c0_0 c0_1 = some r) : DCall Try.prog 41 [.agg (eEdge a0), .c (.ptr 0 0 0 0)] [.live 0 2 [[I c0_0, .slv (c0_1.map eEdge)]]] (.c (B r)) := Call.trim (by simp) (by first | rfl | simp [-List.map_set]) (by first | rfl | simp [-List.map_set]) (w_graph_Check_1 N a0 c0_0 c0_1 r h)
-- slices.IndexFunc[[]narthex/api.Edge,narthex/api.Edge]
theorem w_slices_IndexFunc_Edge (N : Nat) (a0 : List TEdge) (c0_0 : Int) (c0_1 : List TEdge) (r : Int) (h : slices_IndexFunc_Edge N a0 c0_0 c0_1 = some r) : Nx.Call Try.prog 45 [.c (.slv (a0.map eEdge)), .c (.clo 41 [.ptr 0 0 0 0])] [.live 0 2 [[I c0_0, .slv (c0_1.map eEdge)]]] fun r' H' => r' = .c (I r) ∧ ∃ junk, H' = [.live 0 2 [[I c0_0, .slv (c0_1.map eEdge)]]] ++ junk := by
  refine Nx.Call.of_body Try.func45 rfl en45 Try.ntmps45 rfl (fun Γ hok => ?_)
  unfold slices_IndexFunc_Edge at h
  refine Wp.seq ?_
  refine Wp.text [0, 1] rfl rfl ?_ -- region 0
  refine TextR.assign rfl ?_
  refine TextR.done (.cons rfl (.cons rfl .nil)) ?_
  refine Wp.seq ?_
  refine Wp.seq ?_
  refine Wp.text [0, 1, 7, 8] rfl rfl ?_ -- region 1
  refine TextR.move rfl ?_
  refine TextR.lenM us22 rfl rfl ?_
  refine TextR.move rfl ?_
  refine TextR.done (.cons rfl (.cons rfl (.cons rfl (.cons rfl .nil)))) ?_
  obtain ⟨z1, hz1, h⟩ := bind_some h
  refine Wp.fragR (fun S => ∃ z3, z1 = .inr z3 ∧ ∃ S', St.Weak ⟨Try.prog, 19, Γ⟩ S S' ∧ S' = ⟨[], [.live 0 2 [[I c0_0, .slv (c0_1.map eEdge)]]]⟩) (fun S => ∃ v, z1 = .inl v ∧ Ret Try.prog Try.f45 (fun r' H' => r' = .c (I v) ∧ ∃ junk, H' = [.live 0 2 [[I c0_0, .slv (c0_1.map eEdge)]]] ++ junk) .ret S) ?_ ?_ ?_
  · replace h := hz1
    refine Wp.block ?_
    refine Wp.weak (keepW (live := [0, 1, 7, 8]) (.cons rfl (.cons rfl (.cons rfl (.cons rfl .nil))))) ?_
    refine Wp.loop (fun m S => ∃ s8_1, slices_IndexFunc_Edge_L1 N a0 c0_0 c0_1 m s8_1 = some z1 ∧ S = ⟨[(0, .c (.slv (a0.map eEdge))), (1, .c (.clo 41 [.ptr 0 0 0 0])), (7, .c (I (a0.length : Int))), (8, .c (I s8_1))], [.live 0 2 [[I c0_0, .slv (c0_1.map eEdge)]]]⟩) N ⟨_, h, rfl⟩ ?_
    rintro m1 _ ⟨s8_1, h, rfl⟩
    cases m1 with
    | zero => rw [slices_IndexFunc_Edge_L1.eq_1] at h; cases h
    | succ m1 =>
    rw [slices_IndexFunc_Edge_L1.eq_2] at h
    refine Wp.seq ?_
    refine Wp.text [0, 1, 7, 8, 9] rfl rfl ?_ -- region 2
    refine TextR.int rfl rfl rfl ?_
    refine TextR.done (.cons rfl (.cons rfl (.cons rfl (.cons rfl (.cons rfl .nil))))) ?_
    refine Wp.seq ?_
    refine Wp.condM h rfl (fun hc2 h => ?_) (fun hc2 h => ?_)
    · refine Wp.skip ?_
      refine Wp.seq ?_
      refine Wp.block ?_
      refine Wp.seq ?_
      refine Wp.text [0, 1, 5, 7, 8] rfl rfl ?_ -- region 3
      refine TextR.move rfl ?_
      refine TextR.assign rfl ?_
      refine TextR.done (.cons rfl (.cons rfl (.cons rfl (.cons rfl (.cons rfl .nil))))) ?_
      refine Wp.seq ?_
      obtain ⟨x4, hx4, h⟩ := bind_some h
      obtain ⟨y5, hy5, h⟩ := bind_some h
      refine Wp.text [0, 1, 5, 7, 8, 16] rfl rfl ?_ -- region 4
      refine TextR.move rfl ?_
      refine TextR.move rfl ?_
      refine TextR.move rfl ?_
      refine TextR.indexA se22 rfl rfl rfl hx4 rfl ?_
      refine TextR.loadNM tk44 rfl (at_get hx4) rfl ?_
      refine TextR.dcall rfl rfl (c_graph_Check_1 N x4 c0_0 c0_1 y5 hy5) ?_
      refine TextR.done (.cons rfl (.cons rfl (.cons rfl (.cons rfl (.cons rfl (.cons rfl .nil)))))) ?_
      refine Wp.condM h rfl (fun hc3 h => ?_) (fun hc3 h => ?_)
      · refine Wp.seq ?_
        refine Wp.text [4] rfl rfl ?_ -- region 5
        refine TextR.move rfl ?_
        refine TextR.assign rfl ?_
        refine TextR.done (.cons rfl .nil) ?_
        refine Wp.ret ?_
        exact ⟨_, (Option.some.inj h).symm, Ret.one rfl (resV_tmp rfl) ⟨rfl, _, rfl⟩⟩
      · refine Wp.skip ?_
        refine Wp.text [0, 1, 7, 8] rfl rfl ?_ -- region 6
        refine TextR.int rfl rfl rfl ?_
        refine TextR.move rfl ?_
        refine TextR.done (.cons rfl (.cons rfl (.cons rfl (.cons rfl .nil)))) ?_
        exact ⟨m1, Nat.lt_succ_self _, _, (keepW (live := [0, 1, 7, 8]) (.cons rfl (.cons rfl (.cons rfl (.cons rfl .nil))))), _, h, rfl⟩
    · refine Wp.exit ?_
      exact ⟨_, (Option.some.inj h).symm, _, (keepW (live := []) .nil), rfl⟩
  · rintro _ ⟨z3, rfl, _, hw, rfl⟩
    dsimp only at h
    clear hz1
    refine Wp.weak hw ?_
    refine Wp.seq ?_
    refine Wp.text [4] rfl rfl ?_ -- region 7
    refine TextR.assign rfl ?_
    refine TextR.done (.cons rfl .nil) ?_
    refine Wp.ret ?_
    obtain rfl := Option.some.inj h
    exact Ret.one rfl (resV_tmp rfl) ⟨rfl, _, rfl⟩
  · rintro S' ⟨r2, rfl, hR⟩
    dsimp only at h
    obtain rfl := Option.some.inj h
    exact hR
theorem c_slices_IndexFunc_Edge (N : Nat) (a0 : List TEdge) (c0_0 : Int) (c0_1 : List TEdge) (r : Int) (h : slices_IndexFunc_Edge N a0 c0_0 c0_1 = some r) : DCall Try.prog 45 [.c (.slv (a0.map eEdge)), .c (.clo 41 [.ptr 0 0 0 0])] [.live 0 2 [[I c0_0, .slv (c0_1.map eEdge)]]] (.c (I r)) := Call.trim (by simp) (by first | rfl | simp [-List.map_set]) (by first | rfl | simp [-List.map_set]) (w_slices_IndexFunc_Edge N a0 c0_0 c0_1 r h)
-- slices.ContainsFunc[[]narthex/api.Edge,narthex/api.Edge]
theorem w_slices_ContainsFunc_Edge (N : Nat) (a0 : List TEdge) (c0_0 : Int) (c0_1 : List TEdge) (r : Bool) (h : slices_ContainsFunc_Edge N a0 c0_0 c0_1 = some r) : Nx.Call Try.prog 33 [.c (.slv (a0.map eEdge)), .c (.clo 41 [.ptr 0 0 0 0])] [.live 0 2 [[I c0_0, .slv (c0_1.map eEdge)]]] fun r' H' => r' = .c (B r) ∧ ∃ junk, H' = [.live 0 2 [[I c0_0, .slv (c0_1.map eEdge)]]] ++ junk := by
  refine Nx.Call.of_body Try.func33 rfl en33 Try.ntmps33 rfl (fun Γ hok => ?_)
  unfold slices_ContainsFunc_Edge at h
  refine Wp.seq ?_
  refine Wp.text [0, 1] rfl rfl ?_ -- region 0
  refine TextR.assign rfl ?_
  refine TextR.done (.cons rfl (.cons rfl .nil)) ?_
  refine Wp.seq ?_
  obtain ⟨y1, hy1, h⟩ := bind_some h
  refine Wp.text [4] rfl rfl ?_ -- region 1
  refine TextR.move rfl ?_
  refine TextR.move rfl ?_
  refine TextR.dcall rfl rfl (c_slices_IndexFunc_Edge N a0 c0_0 c0_1 y1 hy1) ?_
  refine TextR.int rfl rfl rfl ?_
  refine TextR.assign rfl ?_
  refine TextR.done (.cons rfl .nil) ?_
  refine Wp.ret ?_
  obtain rfl := Option.some.inj h
  exact Ret.one rfl (resV_tmp rfl) ⟨rfl, _, rfl⟩
theorem c_slices_ContainsFunc_Edge (N : Nat) (a0 : List TEdge) (c0_0 : Int) (c0_1 : List TEdge) (r : Bool) (h : slices_ContainsFunc_Edge N a0 c0_0 c0_1 = some r) : DCall Try.prog 33 [.c (.slv (a0.map eEdge)), .c (.clo 41 [.ptr 0 0 0 0])] [.live 0 2 [[I c0_0, .slv (c0_1.map eEdge)]]] (.c (B r)) := Call.trim (by simp) (by first | rfl | simp [-List.map_set]) (by first | rfl | simp [-List.map_set]) (w_slices_ContainsFunc_Edge N a0 c0_0 c0_1 r h)
-- cmp.isNaN[int]
theorem w_cmp_isNaN_int (N : Nat) (a0 : Int) (r : Bool) (h : cmp_isNaN_int N a0 = some r) : Nx.Call Try.prog 51 [.c (I a0)] [] fun r' _ => r' = .c (B r) := by
  refine Nx.Call.of_body Try.func51 rfl en51 Try.ntmps51 rfl (fun Γ hok => ?_)
  unfold cmp_isNaN_int at h
  refine Wp.seq ?_
  refine Wp.text [0] rfl rfl ?_ -- region 0
  refine TextR.assign rfl ?_
  refine TextR.done (.cons rfl .nil) ?_
  refine Wp.seq ?_
  refine Wp.text [2] rfl rfl ?_ -- region 1
  refine TextR.move rfl ?_
  refine TextR.move rfl ?_
  refine TextR.int rfl rfl rfl ?_
  refine TextR.assign rfl ?_
  refine TextR.done (.cons rfl .nil) ?_
  refine Wp.ret ?_
  obtain rfl := Option.some.inj h
  exact Ret.one rfl (resV_tmp rfl) rfl
theorem c_cmp_isNaN_int (N : Nat) (a0 : Int) (r : Bool) (h : cmp_isNaN_int N a0 = some r) (H : List Ob) : DCall Try.prog 51 [.c (I a0)] H (.c (B r)) := DCall.lift (by first | rfl | simp [-List.map_set]) (by first | rfl | simp [-List.map_set]) (fun _ => by simp [-List.map_set]) (w_cmp_isNaN_int N a0 r h) H
-- cmp.Compare[int]
theorem w_cmp_Compare_int (N : Nat) (a0 : Int) (a1 : Int) (r : Int) (h : cmp_Compare_int N a0 a1 = some r) : Nx.Call Try.prog 48 [.c (I a0), .c (I a1)] [] fun r' _ => r' = .c (I r) := by
  refine Nx.Call.of_body Try.func48 rfl en48 Try.ntmps48 rfl (fun Γ hok => ?_)
  unfold cmp_Compare_int at h
  refine Wp.seq ?_
  refine Wp.text [0, 1] rfl rfl ?_ -- region 0
  refine TextR.assign rfl ?_
  refine TextR.done (.cons rfl (.cons rfl .nil)) ?_
  refine Wp.seq ?_
  obtain ⟨y1, hy1, h⟩ := bind_some h
  refine Wp.text [0, 1, 5] rfl rfl ?_ -- region 1
  refine TextR.move rfl ?_
  refine TextR.dcall rfl rfl (c_cmp_isNaN_int N a0 y1 hy1 _) ?_
  refine TextR.assign rfl ?_
  refine TextR.done (.cons rfl (.cons rfl (.cons rfl .nil))) ?_
  refine Wp.seq ?_
  obtain ⟨y2, hy2, h⟩ := bind_some h
  refine Wp.text [0, 1, 5, 6] rfl rfl ?_ -- region 2
  refine TextR.move rfl ?_
  refine TextR.dcall rfl rfl (c_cmp_isNaN_int N a1 y2 hy2 _) ?_
  refine TextR.assign rfl ?_
  refine TextR.done (.cons rfl (.cons rfl (.cons rfl (.cons rfl .nil)))) ?_
  refine Wp.seq ?_
  refine Wp.seq ?_
  refine Wp.text [0, 1, 6, 11] rfl rfl ?_ -- region 3
  refine TextR.move rfl ?_
  refine TextR.done (.cons rfl (.cons rfl (.cons rfl (.cons rfl .nil)))) ?_
  refine Wp.condM h rfl (fun hc1 h => ?_) (fun hc1 h => ?_)
  · refine Wp.seq ?_
    refine Wp.seq ?_
    refine Wp.text [12] rfl rfl ?_ -- region 4
    refine TextR.move rfl ?_
    refine TextR.done (.cons rfl .nil) ?_
    refine Wp.condM h rfl (fun hc2 h => ?_) (fun hc2 h => ?_)
    · refine Wp.seq ?_
      refine Wp.text [4] rfl rfl ?_ -- region 5
      refine TextR.assign rfl ?_
      refine TextR.done (.cons rfl .nil) ?_
      refine Wp.ret ?_
      obtain rfl := Option.some.inj h
      exact Ret.one rfl (resV_tmp rfl) rfl
    · refine Wp.skip ?_
      refine Wp.seq ?_
      refine Wp.text [4] rfl rfl ?_ -- region 6
      refine TextR.assign rfl ?_
      refine TextR.done (.cons rfl .nil) ?_
      refine Wp.ret ?_
      obtain rfl := Option.some.inj h
      exact Ret.one rfl (resV_tmp rfl) rfl
  · refine Wp.skip ?_
    refine Wp.seq ?_
    refine Wp.seq ?_
    refine Wp.text [0, 1, 13] rfl rfl ?_ -- region 7
    refine TextR.move rfl ?_
    refine TextR.done (.cons rfl (.cons rfl (.cons rfl .nil))) ?_
    refine Wp.condM h rfl (fun hc2 h => ?_) (fun hc2 h => ?_)
    · refine Wp.seq ?_
      refine Wp.text [4] rfl rfl ?_ -- region 8
      refine TextR.assign rfl ?_
      refine TextR.done (.cons rfl .nil) ?_
      refine Wp.ret ?_
      obtain rfl := Option.some.inj h
      exact Ret.one rfl (resV_tmp rfl) rfl
    · refine Wp.skip ?_
      refine Wp.seq ?_
      refine Wp.seq ?_
      refine Wp.text [0, 1, 16] rfl rfl ?_ -- region 9
      refine TextR.move rfl ?_
      refine TextR.move rfl ?_
      refine TextR.int rfl rfl rfl ?_
      refine TextR.done (.cons rfl (.cons rfl (.cons rfl .nil))) ?_
      refine Wp.condM h rfl (fun hc3 h => ?_) (fun hc3 h => ?_)
      · refine Wp.seq ?_
        refine Wp.text [4] rfl rfl ?_ -- region 10
        refine TextR.assign rfl ?_
        refine TextR.done (.cons rfl .nil) ?_
        refine Wp.ret ?_
        obtain rfl := Option.some.inj h
        exact Ret.one rfl (resV_tmp rfl) rfl
      · refine Wp.skip ?_
        refine Wp.seq ?_
        refine Wp.seq ?_
        refine Wp.text [19] rfl rfl ?_ -- region 11
        refine TextR.move rfl ?_
        refine TextR.move rfl ?_
        refine TextR.int rfl rfl rfl ?_
        refine TextR.done (.cons rfl .nil) ?_
        refine Wp.condM h rfl (fun hc4 h => ?_) (fun hc4 h => ?_)
        · refine Wp.seq ?_
          refine Wp.text [4] rfl rfl ?_ -- region 12
          refine TextR.assign rfl ?_
          refine TextR.done (.cons rfl .nil) ?_
          refine Wp.ret ?_
          obtain rfl := Option.some.inj h
          exact Ret.one rfl (resV_tmp rfl) rfl
        · refine Wp.skip ?_
          refine Wp.seq ?_
          refine Wp.text [4] rfl rfl ?_ -- region 13
          refine TextR.assign rfl ?_
          refine TextR.done (.cons rfl .nil) ?_
          refine Wp.ret ?_
          obtain rfl := Option.some.inj h
          exact Ret.one rfl (resV_tmp rfl) rfl
theorem c_cmp_Compare_int (N : Nat) (a0 : Int) (a1 : Int) (r : Int) (h : cmp_Compare_int N a0 a1 = some r) (H : List Ob) : DCall Try.prog 48 [.c (I a0), .c (I a1)] H (.c (I r)) := DCall.lift (by first | rfl | simp [-List.map_set]) (by first | rfl | simp [-List.map_set]) (fun _ => by simp [-List.map_set]) (w_cmp_Compare_int N a0 a1 r h) H
-- cmp.Or[int]
theorem w_cmp_Or_int (N : Nat) (a0 : List Int) (r : Int) (h : cmp_Or_int N a0 = some r) : Nx.Call Try.prog 47 [.c (.slv (a0.map eI))] [] fun r' _ => r' = .c (I r) := by
  refine Nx.Call.of_body Try.func47 rfl en47 Try.ntmps47 rfl (fun Γ hok => ?_)
  unfold cmp_Or_int at h
  refine Wp.seq ?_
  refine Wp.text [0] rfl rfl ?_ -- region 0
  refine TextR.assign rfl ?_
  refine TextR.done (.cons rfl .nil) ?_
  refine Wp.seq ?_
  refine Wp.text [0, 3] rfl rfl ?_ -- region 1
  refine TextR.assign rfl ?_
  refine TextR.done (.cons rfl (.cons rfl .nil)) ?_
  refine Wp.seq ?_
  refine Wp.seq ?_
  refine Wp.text [3, 6, 7, 8] rfl rfl ?_ -- region 2
  refine TextR.move rfl ?_
  refine TextR.lenM us25 rfl rfl ?_
  refine TextR.move rfl ?_
  refine TextR.done (.cons rfl (.cons rfl (.cons rfl (.cons rfl .nil)))) ?_
  obtain ⟨z1, hz1, h⟩ := bind_some h
  refine Wp.fragR (fun S => ∃ z3, z1 = .inr z3 ∧ ∃ S', St.Weak ⟨Try.prog, 18, Γ⟩ S S' ∧ S' = ⟨[(3, .c (I 0))], []⟩) (fun S => ∃ v, z1 = .inl v ∧ Ret Try.prog Try.f47 (fun r' _ => r' = .c (I v)) .ret S) ?_ ?_ ?_
  · replace h := hz1
    refine Wp.block ?_
    refine Wp.weak (keepW (live := [3, 6, 7, 8]) (.cons rfl (.cons rfl (.cons rfl (.cons rfl .nil))))) ?_
    refine Wp.loop (fun m S => ∃ s8_1, cmp_Or_int_L1 N a0 m s8_1 = some z1 ∧ S = ⟨[(3, .c (I 0)), (6, .c (.slv (a0.map eI))), (7, .c (I (a0.length : Int))), (8, .c (I s8_1))], []⟩) N ⟨_, h, rfl⟩ ?_
    rintro m1 _ ⟨s8_1, h, rfl⟩
    cases m1 with
    | zero => rw [cmp_Or_int_L1.eq_1] at h; cases h
    | succ m1 =>
    rw [cmp_Or_int_L1.eq_2] at h
    refine Wp.seq ?_
    refine Wp.text [3, 6, 7, 8, 9] rfl rfl ?_ -- region 3
    refine TextR.int rfl rfl rfl ?_
    refine TextR.done (.cons rfl (.cons rfl (.cons rfl (.cons rfl (.cons rfl .nil))))) ?_
    refine Wp.seq ?_
    refine Wp.condM h rfl (fun hc2 h => ?_) (fun hc2 h => ?_)
    · refine Wp.skip ?_
      refine Wp.seq ?_
      refine Wp.block ?_
      refine Wp.seq ?_
      obtain ⟨x4, hx4, h⟩ := bind_some h
      refine Wp.text [3, 5, 6, 7, 8] rfl rfl ?_ -- region 4
      refine TextR.indexA se25 rfl rfl rfl hx4 rfl ?_
      refine TextR.load1M tk3 rfl (at_get hx4) rfl ?_
      refine TextR.assign rfl ?_
      refine TextR.done (.cons rfl (.cons rfl (.cons rfl (.cons rfl (.cons rfl .nil))))) ?_
      refine Wp.seq ?_
      refine Wp.text [3, 5, 6, 7, 8, 14] rfl rfl ?_ -- region 5
      refine TextR.move rfl ?_
      refine TextR.move rfl ?_
      refine TextR.int rfl rfl rfl ?_
      refine TextR.done (.cons rfl (.cons rfl (.cons rfl (.cons rfl (.cons rfl (.cons rfl .nil)))))) ?_
      refine Wp.condM h rfl (fun hc3 h => ?_) (fun hc3 h => ?_)
      · refine Wp.seq ?_
        refine Wp.text [2] rfl rfl ?_ -- region 6
        refine TextR.move rfl ?_
        refine TextR.assign rfl ?_
        refine TextR.done (.cons rfl .nil) ?_
        refine Wp.ret ?_
        exact ⟨_, (Option.some.inj h).symm, Ret.one rfl (resV_tmp rfl) rfl⟩
      · refine Wp.skip ?_
        refine Wp.text [3, 6, 7, 8] rfl rfl ?_ -- region 7
        refine TextR.int rfl rfl rfl ?_
        refine TextR.move rfl ?_
        refine TextR.done (.cons rfl (.cons rfl (.cons rfl (.cons rfl .nil)))) ?_
        exact ⟨m1, Nat.lt_succ_self _, _, (keepW (live := [3, 6, 7, 8]) (.cons rfl (.cons rfl (.cons rfl (.cons rfl .nil))))), _, h, rfl⟩
    · refine Wp.exit ?_
      exact ⟨_, (Option.some.inj h).symm, _, (keepW (live := [3]) (.cons rfl .nil)), rfl⟩
  · rintro _ ⟨z3, rfl, _, hw, rfl⟩
    dsimp only at h
    clear hz1
    refine Wp.weak hw ?_
    refine Wp.seq ?_
    refine Wp.text [2] rfl rfl ?_ -- region 8
    refine TextR.move rfl ?_
    refine TextR.assign rfl ?_
    refine TextR.done (.cons rfl .nil) ?_
    refine Wp.ret ?_
    obtain rfl := Option.some.inj h
    exact Ret.one rfl (resV_tmp rfl) rfl
  · rintro S' ⟨r2, rfl, hR⟩
    dsimp only at h
    obtain rfl := Option.some.inj h
    exact hR
theorem c_cmp_Or_int (N : Nat) (a0 : List Int) (r : Int) (h : cmp_Or_int N a0 = some r) (H : List Ob) : DCall Try.prog 47 [.c (.slv (a0.map eI))] H (.c (I r)) := DCall.lift (by first | rfl | simp [-List.map_set]) (by first | rfl | simp [-List.map_set]) (fun _ => by simp [-List.map_set]) (w_cmp_Or_int N a0 r h) H
-- narthex/graph.rank
theorem w_graph_rank (N : Nat) (a0 : TEdge) (a1 : TEdge) (r : Int) (h : graph_rank N a0 a1 = some r) : Nx.Call Try.prog 42 [.agg (eEdge a0), .agg (eEdge a1)] [] fun r' _ => r' = .c (I r) := by
  refine Nx.Call.of_body Try.func42 rfl en42 Try.ntmps42 rfl (fun Γ hok => ?_)
  unfold graph_rank at h
  refine Wp.seq ?_
  refine Wp.text [2, 3] rfl rfl ?_ -- region 0
  refine TextR.box (cs := [I a0.A, I a0.B]) 0 rfl rfl rfl rfl .nil ?_
  refine TextR.box (cs := [I a1.A, I a1.B]) 1 rfl rfl rfl rfl (.cons .nil) ?_
  refine TextR.assign rfl ?_
  refine TextR.done (.cons rfl (.cons rfl .nil)) ?_
  refine Wp.seq ?_
  obtain ⟨y1, hy1, h⟩ := bind_some h
  obtain ⟨y2, hy2, h⟩ := bind_some h
  obtain ⟨y3, hy3, h⟩ := bind_some h
  refine Wp.go true (some [2]) [] [] [4] mixed rfl rfl (by kernel_rfl) ?_ -- region 1
  refine RunR.fieldAddr fo44_0 rfl rfl rfl rfl rfl ?_
  refine RunR.load1 tk3 rfl rfl rfl rfl ?_
  refine RunR.fieldAddr fo44_0 rfl rfl rfl rfl rfl ?_
  refine RunR.load1 tk3 rfl rfl rfl rfl ?_
  refine RunR.call rfl rfl rfl (fun H => c_cmp_Compare_int N a0.A a1.A y1 hy1 H) ?_
  refine RunR.fieldAddr fo44_1 rfl rfl rfl rfl rfl ?_
  refine RunR.load1 tk3 rfl rfl rfl rfl ?_
  refine RunR.fieldAddr fo44_1 rfl rfl rfl rfl rfl ?_
  refine RunR.load1 tk3 rfl rfl rfl rfl ?_
  refine RunR.call rfl rfl rfl (fun H => c_cmp_Compare_int N a0.B a1.B y2 hy2 H) ?_
  refine RunR.buildSlice (rows := [y1, y2].map eI) 2 se25 rfl rfl rfl rfl rfl (.cons (.cons .nil)) ?_
  refine RunR.callH rfl rfl rfl rfl (fun hb => (DCall.borrow (fs := [.c (.slv ([y1, y2].map eI))]) (by simp [-List.map_set, obj, List.take_of_length_le]) (by first | rfl | simp [-List.map_set]) rfl (w_cmp_Or_int N [y1, y2] y3 hy3))) ?_
  refine RunR.assign rfl rfl rfl ?_
  refine RunR.doneQ (.cons rfl .nil) ?_
  refine Wp.ret ?_
  obtain rfl := Option.some.inj h
  exact Ret.one rfl (resV_tmp rfl) rfl
theorem c_graph_rank (N : Nat) (a0 : TEdge) (a1 : TEdge) (r : Int) (h : graph_rank N a0 a1 = some r) (H : List Ob) : DCall Try.prog 42 [.agg (eEdge a0), .agg (eEdge a1)] H (.c (I r)) := DCall.lift (by first | rfl | simp [-List.map_set]) (by first | rfl | simp [-List.map_set]) (fun _ => by simp [-List.map_set]) (w_graph_rank N a0 a1 r h) H
-- narthex/graph.Check
theorem w_graph_Check (N : Nat) (a0 : TGraph) (r : Int) (h : graph_Check N a0 = some r) : Nx.Call Try.prog 25 [.agg (eGraph a0)] [] fun r' _ => r' = .c (I r) := by
  refine Nx.Call.of_body Try.func25 rfl en25 Try.ntmps25 rfl (fun Γ hok => ?_)
  unfold graph_Check at h
  refine Wp.seq ?_
  refine Wp.text [1] rfl rfl ?_ -- region 0
  refine TextR.box (cs := [I a0.N, .slv (a0.Edges.map eEdge)]) 0 rfl rfl rfl rfl .nil ?_
  refine TextR.assign rfl ?_
  refine TextR.done (.cons rfl .nil) ?_
  refine Wp.seq ?_
  refine Wp.text [1, 3] rfl rfl ?_ -- region 1
  refine TextR.makeFunc rfl ?_
  refine TextR.assign rfl ?_
  refine TextR.done (.cons rfl (.cons rfl .nil)) ?_
  refine Wp.seq ?_
  refine Wp.seq ?_
  obtain ⟨y1, hy1, h⟩ := bind_some h
  refine Wp.go false none [[], [], [], [], [(9, false)], [(9, false)], [(9, false)], [], [], [(14, false)], [(14, false)], [(14, false)], [(14, false)], [], [], [(20, false)], [(20, false)], [(20, false)], [(20, false)], []] [] [1, 25] mixed rfl rfl (by kernel_rfl) ?_ -- region 2
  refine RunR.fieldAddr fo24_0 rfl rfl rfl rfl rfl ?_
  refine RunR.load1 tk3 rfl rfl rfl rfl ?_
  refine RunR.int rfl rfl rfl rfl rfl ?_
  refine RunR.move rfl rfl rfl ?_
  refine RunR.fieldAddr fo24_0 rfl rfl rfl rfl rfl ?_
  refine RunR.load1 tk3 rfl rfl rfl rfl ?_
  refine RunR.int rfl rfl rfl rfl rfl ?_
  refine RunR.pickOr rfl rfl rfl rfl ?_
  refine RunR.move rfl rfl rfl ?_
  refine RunR.fieldAddr fo24_1 rfl rfl rfl rfl rfl ?_
  refine RunR.load1 tk22 rfl rfl rfl rfl ?_
  refine RunR.lenM us22 rfl rfl rfl rfl ?_
  refine RunR.int rfl rfl rfl rfl rfl ?_
  refine RunR.pickOr rfl rfl rfl rfl ?_
  refine RunR.move rfl rfl rfl ?_
  refine RunR.fieldAddr fo24_1 rfl rfl rfl rfl rfl ?_
  refine RunR.load1 tk22 rfl rfl rfl rfl ?_
  refine RunR.move rfl rfl rfl ?_
  refine RunR.callH rfl rfl rfl rfl (fun hb => c_slices_ContainsFunc_Edge N a0.Edges a0.N a0.Edges y1 (ifT hy1 gF hb)) ?_
  refine RunR.pickOr rfl rfl rfl rfl ?_
  refine RunR.doneQ (.cons rfl (.cons rfl .nil)) ?_
  refine Wp.condM h rfl (fun hc1 h => ?_) (fun hc1 h => ?_)
  · refine Wp.seq ?_
    refine Wp.text [2] rfl rfl ?_ -- region 3
    refine TextR.assign rfl ?_
    refine TextR.done (.cons rfl .nil) ?_
    refine Wp.ret ?_
    obtain rfl := Option.some.inj h
    exact Ret.one rfl (resV_tmp rfl) rfl
  · refine Wp.skip ?_
    refine Wp.seq ?_
    refine Wp.seq ?_
    refine Wp.text [1, 28, 29] rfl rfl ?_ -- region 4
    refine TextR.fieldAddr fo24_1 rfl rfl rfl ?_
    refine TextR.load1 tk22 rfl rfl ?_
    refine TextR.lenM us22 rfl rfl ?_
    refine TextR.move rfl ?_
    refine TextR.done (.cons rfl (.cons rfl (.cons rfl .nil))) ?_
    obtain ⟨z2, hz2, h⟩ := bind_some h
    refine Wp.fragR (fun S => ∃ z4, z2 = .inr z4 ∧ ∃ S', St.Weak ⟨Try.prog, 50, Γ⟩ S S' ∧ S' = ⟨[], []⟩) (fun S => ∃ v, z2 = .inl v ∧ Ret Try.prog Try.f25 (fun r' _ => r' = .c (I v)) .ret S) ?_ ?_ ?_
    · replace h := hz2
      refine Wp.block ?_
      refine Wp.weak (keepW (live := [1, 28, 29]) (.cons rfl (.cons rfl (.cons rfl .nil)))) ?_
      refine Wp.loop (fun m S => ∃ s29_1, graph_Check_L1 N a0 m s29_1 = some z2 ∧ S = ⟨[(1, .c (.ptr 0 0 0 0)), (28, .c (I (a0.Edges.length : Int))), (29, .c (I s29_1))], [.live 0 2 [[I a0.N, .slv (a0.Edges.map eEdge)]]]⟩) N ⟨_, h, rfl⟩ ?_
      rintro m1 _ ⟨s29_1, h, rfl⟩
      cases m1 with
      | zero => rw [graph_Check_L1.eq_1] at h; cases h
      | succ m1 =>
      rw [graph_Check_L1.eq_2] at h
      refine Wp.seq ?_
      refine Wp.text [1, 28, 29, 30] rfl rfl ?_ -- region 5
      refine TextR.int rfl rfl rfl ?_
      refine TextR.done (.cons rfl (.cons rfl (.cons rfl (.cons rfl .nil)))) ?_
      refine Wp.seq ?_
      refine Wp.condM h rfl (fun hc3 h => ?_) (fun hc3 h => ?_)
      · refine Wp.skip ?_
        refine Wp.seq ?_
        refine Wp.block ?_
        refine Wp.seq ?_
        refine Wp.text [1, 4, 28, 29] rfl rfl ?_ -- region 6
        refine TextR.move rfl ?_
        refine TextR.assign rfl ?_
        refine TextR.done (.cons rfl (.cons rfl (.cons rfl (.cons rfl .nil)))) ?_
        refine Wp.seq ?_
        obtain ⟨x5, hx5, h⟩ := bind_some h
        obtain ⟨x6, hx6, h⟩ := bind_some h
        obtain ⟨y7, hy7, h⟩ := bind_some h
        refine Wp.go true (some []) [[], [], [], [(34, true)], [(34, true)], [(34, true)], [(34, true)], [(34, true)], [(34, true)], [(34, true)], [(34, true)], [(34, true)], [(34, true)], [(34, true)], [(34, true)], [(34, true)], []] [] [1, 28, 29, 48] mixed rfl rfl (by kernel_rfl) ?_ -- region 7
        refine RunR.move rfl rfl rfl ?_
        refine RunR.int rfl rfl rfl rfl rfl ?_
        refine RunR.move rfl rfl rfl ?_
        refine RunR.fieldAddr fo24_1 rfl rfl rfl rfl rfl ?_
        refine RunR.load1 tk22 rfl rfl rfl rfl ?_
        refine RunR.move rfl rfl rfl ?_
        refine RunR.int rfl rfl rfl rfl rfl ?_
        refine RunR.indexAG se22 rfl rfl rfl rfl rfl (ifPos hx5 gT) (ifAt hx5 gT) rfl ?_
        refine RunR.loadNG tk44 rfl rfl rfl (ifAt hx5 gT) rfl ?_
        refine RunR.fieldAddr fo24_1 rfl rfl rfl rfl rfl ?_
        refine RunR.load1 tk22 rfl rfl rfl rfl ?_
        refine RunR.move rfl rfl rfl ?_
        refine RunR.indexAG se22 rfl rfl rfl rfl rfl (ifPos hx6 gT) (ifAt hx6 gT) rfl ?_
        refine RunR.loadNG tk44 rfl rfl rfl (ifAt hx6 gT) rfl ?_
        refine RunR.callG rfl rfl rfl (fun hb H => c_graph_rank N x5 x6 y7 (ifT hy7 gT hb) H) ?_
        refine RunR.int rfl rfl rfl rfl rfl ?_
        refine RunR.pickAnd rfl rfl rfl rfl ?_
        refine RunR.doneQ (.cons rfl (.cons rfl (.cons rfl (.cons rfl .nil)))) ?_
        refine Wp.condM h rfl (fun hc4 h => ?_) (fun hc4 h => ?_)
        · refine Wp.seq ?_
          refine Wp.text [2] rfl rfl ?_ -- region 8
          refine TextR.assign rfl ?_
          refine TextR.done (.cons rfl .nil) ?_
          refine Wp.ret ?_
          exact ⟨_, (Option.some.inj h).symm, Ret.one rfl (resV_tmp rfl) rfl⟩
        · refine Wp.skip ?_
          refine Wp.text [1, 28, 29] rfl rfl ?_ -- region 9
          refine TextR.int rfl rfl rfl ?_
          refine TextR.move rfl ?_
          refine TextR.done (.cons rfl (.cons rfl (.cons rfl .nil))) ?_
          exact ⟨m1, Nat.lt_succ_self _, _, (keepW (live := [1, 28, 29]) (.cons rfl (.cons rfl (.cons rfl .nil)))), _, h, rfl⟩
      · refine Wp.exit ?_
        exact ⟨_, (Option.some.inj h).symm, _, (St.Weak.trans (keepW (live := []) .nil) (pickT (e' := []) (H' := []) [] [0] 0 hok.len.symm rfl rfl (by decide) (by first | rfl | simp [-List.map_set]) (by first | rfl | simp [-List.map_set]) (by first | rfl | simp [-List.map_set]) (by first | rfl | simp [-List.map_set]))), rfl⟩
    · rintro _ ⟨z4, rfl, _, hw, rfl⟩
      dsimp only at h
      clear hz2
      refine Wp.weak hw ?_
      refine Wp.seq ?_
      refine Wp.text [2] rfl rfl ?_ -- region 10
      refine TextR.assign rfl ?_
      refine TextR.done (.cons rfl .nil) ?_
      refine Wp.ret ?_
      obtain rfl := Option.some.inj h
      exact Ret.one rfl (resV_tmp rfl) rfl
    · rintro S' ⟨r3, rfl, hR⟩
      dsimp only at h
      obtain rfl := Option.some.inj h
      exact hR
theorem c_graph_Check (N : Nat) (a0 : TGraph) (r : Int) (h : graph_Check N a0 = some r) (H : List Ob) : DCall Try.prog 25 [.agg (eGraph a0)] H (.c (I r)) := DCall.lift (by first | rfl | simp [-List.map_set]) (by first | rfl | simp [-List.map_set]) (fun _ => by simp [-List.map_set]) (w_graph_Check N a0 r h) H
-- slices.Index[[]int,int]
theorem w_slices_Index_int (N : Nat) (a0 : List Int) (a1 : Int) (r : Int) (h : slices_Index_int N a0 a1 = some r) : Nx.Call Try.prog 46 [.c (.slv (a0.map eI)), .c (I a1)] [] fun r' _ => r' = .c (I r) := by
  refine Nx.Call.of_body Try.func46 rfl en46 Try.ntmps46 rfl (fun Γ hok => ?_)
  unfold slices_Index_int at h
  refine Wp.seq ?_
  refine Wp.text [0, 1] rfl rfl ?_ -- region 0
  refine TextR.assign rfl ?_
  refine TextR.done (.cons rfl (.cons rfl .nil)) ?_
  refine Wp.seq ?_
  refine Wp.seq ?_
  refine Wp.text [0, 1, 7, 8] rfl rfl ?_ -- region 1
  refine TextR.move rfl ?_
  refine TextR.lenM us25 rfl rfl ?_
  refine TextR.move rfl ?_
  refine TextR.done (.cons rfl (.cons rfl (.cons rfl (.cons rfl .nil)))) ?_
  obtain ⟨z1, hz1, h⟩ := bind_some h
  refine Wp.fragR (fun S => ∃ z3, z1 = .inr z3 ∧ ∃ S', St.Weak ⟨Try.prog, 19, Γ⟩ S S' ∧ S' = ⟨[], []⟩) (fun S => ∃ v, z1 = .inl v ∧ Ret Try.prog Try.f46 (fun r' _ => r' = .c (I v)) .ret S) ?_ ?_ ?_
  · replace h := hz1
    refine Wp.block ?_
    refine Wp.weak (keepW (live := [0, 1, 7, 8]) (.cons rfl (.cons rfl (.cons rfl (.cons rfl .nil))))) ?_
    refine Wp.loop (fun m S => ∃ s8_1, slices_Index_int_L1 N a0 a1 m s8_1 = some z1 ∧ S = ⟨[(0, .c (.slv (a0.map eI))), (1, .c (I a1)), (7, .c (I (a0.length : Int))), (8, .c (I s8_1))], []⟩) N ⟨_, h, rfl⟩ ?_
    rintro m1 _ ⟨s8_1, h, rfl⟩
    cases m1 with
    | zero => rw [slices_Index_int_L1.eq_1] at h; cases h
    | succ m1 =>
    rw [slices_Index_int_L1.eq_2] at h
    refine Wp.seq ?_
    refine Wp.text [0, 1, 7, 8, 9] rfl rfl ?_ -- region 2
    refine TextR.int rfl rfl rfl ?_
    refine TextR.done (.cons rfl (.cons rfl (.cons rfl (.cons rfl (.cons rfl .nil))))) ?_
    refine Wp.seq ?_
    refine Wp.condM h rfl (fun hc2 h => ?_) (fun hc2 h => ?_)
    · refine Wp.skip ?_
      refine Wp.seq ?_
      refine Wp.block ?_
      refine Wp.seq ?_
      refine Wp.text [0, 1, 5, 7, 8] rfl rfl ?_ -- region 3
      refine TextR.move rfl ?_
      refine TextR.assign rfl ?_
      refine TextR.done (.cons rfl (.cons rfl (.cons rfl (.cons rfl (.cons rfl .nil))))) ?_
      refine Wp.seq ?_
      obtain ⟨x4, hx4, h⟩ := bind_some h
      refine Wp.text [0, 1, 5, 7, 8, 16] rfl rfl ?_ -- region 4
      refine TextR.move rfl ?_
      refine TextR.move rfl ?_
      refine TextR.move rfl ?_
      refine TextR.indexA se25 rfl rfl rfl hx4 rfl ?_
      refine TextR.load1M tk3 rfl (at_get hx4) rfl ?_
      refine TextR.int rfl rfl rfl ?_
      refine TextR.done (.cons rfl (.cons rfl (.cons rfl (.cons rfl (.cons rfl (.cons rfl .nil)))))) ?_
      refine Wp.condM h rfl (fun hc3 h => ?_) (fun hc3 h => ?_)
      · refine Wp.seq ?_
        refine Wp.text [4] rfl rfl ?_ -- region 5
        refine TextR.move rfl ?_
        refine TextR.assign rfl ?_
        refine TextR.done (.cons rfl .nil) ?_
        refine Wp.ret ?_
        exact ⟨_, (Option.some.inj h).symm, Ret.one rfl (resV_tmp rfl) rfl⟩
      · refine Wp.skip ?_
        refine Wp.text [0, 1, 7, 8] rfl rfl ?_ -- region 6
        refine TextR.int rfl rfl rfl ?_
        refine TextR.move rfl ?_
        refine TextR.done (.cons rfl (.cons rfl (.cons rfl (.cons rfl .nil)))) ?_
        exact ⟨m1, Nat.lt_succ_self _, _, (keepW (live := [0, 1, 7, 8]) (.cons rfl (.cons rfl (.cons rfl (.cons rfl .nil))))), _, h, rfl⟩
    · refine Wp.exit ?_
      exact ⟨_, (Option.some.inj h).symm, _, (keepW (live := []) .nil), rfl⟩
  · rintro _ ⟨z3, rfl, _, hw, rfl⟩
    dsimp only at h
    clear hz1
    refine Wp.weak hw ?_
    refine Wp.seq ?_
    refine Wp.text [4] rfl rfl ?_ -- region 7
    refine TextR.assign rfl ?_
    refine TextR.done (.cons rfl .nil) ?_
    refine Wp.ret ?_
    obtain rfl := Option.some.inj h
    exact Ret.one rfl (resV_tmp rfl) rfl
  · rintro S' ⟨r2, rfl, hR⟩
    dsimp only at h
    obtain rfl := Option.some.inj h
    exact hR
theorem c_slices_Index_int (N : Nat) (a0 : List Int) (a1 : Int) (r : Int) (h : slices_Index_int N a0 a1 = some r) (H : List Ob) : DCall Try.prog 46 [.c (.slv (a0.map eI)), .c (I a1)] H (.c (I r)) := DCall.lift (by first | rfl | simp [-List.map_set]) (by first | rfl | simp [-List.map_set]) (fun _ => by simp [-List.map_set]) (w_slices_Index_int N a0 a1 r h) H
-- slices.Contains[[]int,int]
theorem w_slices_Contains_int (N : Nat) (a0 : List Int) (a1 : Int) (r : Bool) (h : slices_Contains_int N a0 a1 = some r) : Nx.Call Try.prog 39 [.c (.slv (a0.map eI)), .c (I a1)] [] fun r' _ => r' = .c (B r) := by
  refine Nx.Call.of_body Try.func39 rfl en39 Try.ntmps39 rfl (fun Γ hok => ?_)
  unfold slices_Contains_int at h
  refine Wp.seq ?_
  refine Wp.text [0, 1] rfl rfl ?_ -- region 0
  refine TextR.assign rfl ?_
  refine TextR.done (.cons rfl (.cons rfl .nil)) ?_
  refine Wp.seq ?_
  obtain ⟨y1, hy1, h⟩ := bind_some h
  refine Wp.text [4] rfl rfl ?_ -- region 1
  refine TextR.move rfl ?_
  refine TextR.move rfl ?_
  refine TextR.dcall rfl rfl (c_slices_Index_int N a0 a1 y1 hy1 _) ?_
  refine TextR.int rfl rfl rfl ?_
  refine TextR.assign rfl ?_
  refine TextR.done (.cons rfl .nil) ?_
  refine Wp.ret ?_
  obtain rfl := Option.some.inj h
  exact Ret.one rfl (resV_tmp rfl) rfl
theorem c_slices_Contains_int (N : Nat) (a0 : List Int) (a1 : Int) (r : Bool) (h : slices_Contains_int N a0 a1 = some r) (H : List Ob) : DCall Try.prog 39 [.c (.slv (a0.map eI)), .c (I a1)] H (.c (B r)) := DCall.lift (by first | rfl | simp [-List.map_set]) (by first | rfl | simp [-List.map_set]) (fun _ => by simp [-List.map_set]) (w_slices_Contains_int N a0 a1 r h) H
-- narthex/colour.Round$1
theorem w_colour_Round_1 (N : Nat) (a0 : Int) (r : Bool) (h : colour_Round_1 N a0 = some r) : Nx.Call Try.prog 27 [.c (I a0)] [] fun r' _ => r' = .c (B r) := by
  refine Nx.Call.of_body Try.func27 rfl en27 Try.ntmps27 rfl (fun Γ hok => ?_)
  unfold colour_Round_1 at h
  refine Wp.seq ?_
  refine Wp.text [0] rfl rfl ?_ -- region 0
  refine TextR.assign rfl ?_
  refine TextR.done (.cons rfl .nil) ?_
  refine Wp.seq ?_
  refine Wp.text [2] rfl rfl ?_ -- region 1
  refine TextR.move rfl ?_
  refine TextR.int rfl rfl rfl ?_
  refine TextR.assign rfl ?_
  refine TextR.done (.cons rfl .nil) ?_
  refine Wp.ret ?_
  obtain rfl := Option.some.inj h
  exact Ret.one rfl (resV_tmp rfl) rfl
theorem c_colour_Round_1 (N : Nat) (a0 : Int) (r : Bool) (h : colour_Round_1 N a0 = some r) (H : List Ob) : DCall Try.prog 27 [.c (I a0)] H (.c (B r)) := DCall.lift (by first | rfl | simp [-List.map_set]) (by first | rfl | simp [-List.map_set]) (fun _ => by simp [-List.map_set]) (w_colour_Round_1 N a0 r h) H
-- slices.IndexFunc[[]int,int]
theorem w_slices_IndexFunc_int (N : Nat) (a0 : List Int) (r : Int) (h : slices_IndexFunc_int N a0 = some r) : Nx.Call Try.prog 43 [.c (.slv (a0.map eI)), .c (.clo 27 [])] [] fun r' _ => r' = .c (I r) := by
  refine Nx.Call.of_body Try.func43 rfl en43 Try.ntmps43 rfl (fun Γ hok => ?_)
  unfold slices_IndexFunc_int at h
  refine Wp.seq ?_
  refine Wp.text [0, 1] rfl rfl ?_ -- region 0
  refine TextR.assign rfl ?_
  refine TextR.done (.cons rfl (.cons rfl .nil)) ?_
  refine Wp.seq ?_
  refine Wp.seq ?_
  refine Wp.text [0, 1, 7, 8] rfl rfl ?_ -- region 1
  refine TextR.move rfl ?_
  refine TextR.lenM us25 rfl rfl ?_
  refine TextR.move rfl ?_
  refine TextR.done (.cons rfl (.cons rfl (.cons rfl (.cons rfl .nil)))) ?_
  obtain ⟨z1, hz1, h⟩ := bind_some h
  refine Wp.fragR (fun S => ∃ z3, z1 = .inr z3 ∧ ∃ S', St.Weak ⟨Try.prog, 19, Γ⟩ S S' ∧ S' = ⟨[], []⟩) (fun S => ∃ v, z1 = .inl v ∧ Ret Try.prog Try.f43 (fun r' _ => r' = .c (I v)) .ret S) ?_ ?_ ?_
  · replace h := hz1
    refine Wp.block ?_
    refine Wp.weak (keepW (live := [0, 1, 7, 8]) (.cons rfl (.cons rfl (.cons rfl (.cons rfl .nil))))) ?_
    refine Wp.loop (fun m S => ∃ s8_1, slices_IndexFunc_int_L1 N a0 m s8_1 = some z1 ∧ S = ⟨[(0, .c (.slv (a0.map eI))), (1, .c (.clo 27 [])), (7, .c (I (a0.length : Int))), (8, .c (I s8_1))], []⟩) N ⟨_, h, rfl⟩ ?_
    rintro m1 _ ⟨s8_1, h, rfl⟩
    cases m1 with
    | zero => rw [slices_IndexFunc_int_L1.eq_1] at h; cases h
    | succ m1 =>
    rw [slices_IndexFunc_int_L1.eq_2] at h
    refine Wp.seq ?_
    refine Wp.text [0, 1, 7, 8, 9] rfl rfl ?_ -- region 2
    refine TextR.int rfl rfl rfl ?_
    refine TextR.done (.cons rfl (.cons rfl (.cons rfl (.cons rfl (.cons rfl .nil))))) ?_
    refine Wp.seq ?_
    refine Wp.condM h rfl (fun hc2 h => ?_) (fun hc2 h => ?_)
    · refine Wp.skip ?_
      refine Wp.seq ?_
      refine Wp.block ?_
      refine Wp.seq ?_
      refine Wp.text [0, 1, 5, 7, 8] rfl rfl ?_ -- region 3
      refine TextR.move rfl ?_
      refine TextR.assign rfl ?_
      refine TextR.done (.cons rfl (.cons rfl (.cons rfl (.cons rfl (.cons rfl .nil))))) ?_
      refine Wp.seq ?_
      obtain ⟨x4, hx4, h⟩ := bind_some h
      obtain ⟨y5, hy5, h⟩ := bind_some h
      refine Wp.text [0, 1, 5, 7, 8, 16] rfl rfl ?_ -- region 4
      refine TextR.move rfl ?_
      refine TextR.move rfl ?_
      refine TextR.move rfl ?_
      refine TextR.indexA se25 rfl rfl rfl hx4 rfl ?_
      refine TextR.load1M tk3 rfl (at_get hx4) rfl ?_
      refine TextR.dcall rfl rfl (c_colour_Round_1 N x4 y5 hy5 _) ?_
      refine TextR.done (.cons rfl (.cons rfl (.cons rfl (.cons rfl (.cons rfl (.cons rfl .nil)))))) ?_
      refine Wp.condM h rfl (fun hc3 h => ?_) (fun hc3 h => ?_)
      · refine Wp.seq ?_
        refine Wp.text [4] rfl rfl ?_ -- region 5
        refine TextR.move rfl ?_
        refine TextR.assign rfl ?_
        refine TextR.done (.cons rfl .nil) ?_
        refine Wp.ret ?_
        exact ⟨_, (Option.some.inj h).symm, Ret.one rfl (resV_tmp rfl) rfl⟩
      · refine Wp.skip ?_
        refine Wp.text [0, 1, 7, 8] rfl rfl ?_ -- region 6
        refine TextR.int rfl rfl rfl ?_
        refine TextR.move rfl ?_
        refine TextR.done (.cons rfl (.cons rfl (.cons rfl (.cons rfl .nil)))) ?_
        exact ⟨m1, Nat.lt_succ_self _, _, (keepW (live := [0, 1, 7, 8]) (.cons rfl (.cons rfl (.cons rfl (.cons rfl .nil))))), _, h, rfl⟩
    · refine Wp.exit ?_
      exact ⟨_, (Option.some.inj h).symm, _, (keepW (live := []) .nil), rfl⟩
  · rintro _ ⟨z3, rfl, _, hw, rfl⟩
    dsimp only at h
    clear hz1
    refine Wp.weak hw ?_
    refine Wp.seq ?_
    refine Wp.text [4] rfl rfl ?_ -- region 7
    refine TextR.assign rfl ?_
    refine TextR.done (.cons rfl .nil) ?_
    refine Wp.ret ?_
    obtain rfl := Option.some.inj h
    exact Ret.one rfl (resV_tmp rfl) rfl
  · rintro S' ⟨r2, rfl, hR⟩
    dsimp only at h
    obtain rfl := Option.some.inj h
    exact hR
theorem c_slices_IndexFunc_int (N : Nat) (a0 : List Int) (r : Int) (h : slices_IndexFunc_int N a0 = some r) (H : List Ob) : DCall Try.prog 43 [.c (.slv (a0.map eI)), .c (.clo 27 [])] H (.c (I r)) := DCall.lift (by first | rfl | simp [-List.map_set]) (by first | rfl | simp [-List.map_set]) (fun _ => by simp [-List.map_set]) (w_slices_IndexFunc_int N a0 r h) H
-- slices.ContainsFunc[[]int,int]
theorem w_slices_ContainsFunc_int (N : Nat) (a0 : List Int) (r : Bool) (h : slices_ContainsFunc_int N a0 = some r) : Nx.Call Try.prog 26 [.c (.slv (a0.map eI)), .c (.clo 27 [])] [] fun r' _ => r' = .c (B r) := by
  refine Nx.Call.of_body Try.func26 rfl en26 Try.ntmps26 rfl (fun Γ hok => ?_)
  unfold slices_ContainsFunc_int at h
  refine Wp.seq ?_
  refine Wp.text [0, 1] rfl rfl ?_ -- region 0
  refine TextR.assign rfl ?_
  refine TextR.done (.cons rfl (.cons rfl .nil)) ?_
  refine Wp.seq ?_
  obtain ⟨y1, hy1, h⟩ := bind_some h
  refine Wp.text [4] rfl rfl ?_ -- region 1
  refine TextR.move rfl ?_
  refine TextR.move rfl ?_
  refine TextR.dcall rfl rfl (c_slices_IndexFunc_int N a0 y1 hy1 _) ?_
  refine TextR.int rfl rfl rfl ?_
  refine TextR.assign rfl ?_
  refine TextR.done (.cons rfl .nil) ?_
  refine Wp.ret ?_
  obtain rfl := Option.some.inj h
  exact Ret.one rfl (resV_tmp rfl) rfl
theorem c_slices_ContainsFunc_int (N : Nat) (a0 : List Int) (r : Bool) (h : slices_ContainsFunc_int N a0 = some r) (H : List Ob) : DCall Try.prog 26 [.c (.slv (a0.map eI)), .c (.clo 27 [])] H (.c (B r)) := DCall.lift (by first | rfl | simp [-List.map_set]) (by first | rfl | simp [-List.map_set]) (fun _ => by simp [-List.map_set]) (w_slices_ContainsFunc_int N a0 r h) H
-- slices.Clone
theorem bn_slices_Clone_int : Nx.Call Try.prog 28 [.c nilS] [] fun r' H' => r' = .c (.sl 0 1 0 0) ∧ ∃ junk, H' = [.live 1 1 []] ++ junk := by
  refine Nx.Call.of_body Try.func28 rfl en28 Try.ntmps28 rfl (fun Γ hok => ?_)
  refine Wp.seq ?_
  refine Wp.text [0] rfl rfl ?_ -- region 0
  refine TextR.assign rfl ?_
  refine TextR.done (.cons rfl .nil) ?_
  refine Wp.seq ?_
  refine Wp.seq ?_
  refine Wp.text [0, 4] rfl rfl ?_ -- region 1
  refine TextR.move rfl ?_
  refine TextR.eqNil us25 rfl rfl ?_
  refine TextR.done (.cons rfl (.cons rfl .nil)) ?_
  refine Wp.cond rfl (fun hc => ?_) (fun hc => ?_)
  · refine Wp.seq ?_
    refine Wp.text [2] rfl rfl ?_ -- region 2
    refine TextR.assign rfl ?_
    refine TextR.done (.cons rfl .nil) ?_
    refine Wp.weak (fun a w hs => nilV_sat (t := 2) 1 1 0 rfl rfl .nil hs) ?_
    refine Wp.ret ?_
    refine Ret.one rfl (resV_tmp rfl) ?_
    exact ⟨rfl, [], rfl⟩
  · cases hc
theorem bq_slices_Clone_int (xs : List Int) (hl : xs.length ≤ 10000000000) : Nx.Call Try.prog 28 [.c (.slq (xs.map eI))] [] fun r' H' => r' = .c (.sl 0 1 0 xs.length) ∧ ∃ junk, H' = [.live 1 1 (xs.map eI)] ++ junk := by
  refine Nx.Call.of_body Try.func28 rfl en28 Try.ntmps28 rfl (fun Γ hok => ?_)
  refine Wp.seq ?_
  refine Wp.text [0] rfl rfl ?_ -- region 0
  refine TextR.assign rfl ?_
  refine TextR.done (.cons rfl .nil) ?_
  refine Wp.seq ?_
  refine Wp.seq ?_
  refine Wp.text [0, 4] rfl rfl ?_ -- region 1
  refine TextR.move rfl ?_
  refine TextR.eqNil us25 rfl rfl ?_
  refine TextR.done (.cons rfl (.cons rfl .nil)) ?_
  refine Wp.cond rfl (fun hc => ?_) (fun hc => ?_)
  · cases hc
  · refine Wp.skip ?_
    refine Wp.seq ?_
    refine Wp.text [2] rfl rfl ?_ -- region 3
    refine TextR.buildSlice 0 se25 rfl rfl rfl .nil ?_
    refine TextR.move rfl ?_
    refine TextR.appendM eI [] xs xs rfl se25 rfl rfl rfl rfl (fun _ => rfl) rfl (by simp; omega) .zero ?_
    refine TextR.assign rfl ?_
    refine TextR.done (.cons rfl .nil) ?_
    refine Wp.ret ?_
    refine Ret.one rfl (resV_tmp rfl) ?_
    exact ⟨rfl, [], rfl⟩
theorem b_slices_Clone_int (xs : List Int) (hl : xs.length ≤ 10000000000) : Nx.Call Try.prog 28 [.c (.slv (xs.map eI))] [] fun r' H' => r' = .c (.sl 0 1 0 xs.length) ∧ ∃ junk, H' = [.live 1 1 (xs.map eI)] ++ junk :=
  .cases en28 fun Γ args' hok hc => by
    simp only [concVs] at hc
    obtain ⟨y, ys', h1, h2, h3⟩ := hc
    rcases conc_slv_nil h2 with ⟨h4, h5⟩ | h5
    · have h6 : xs = [] := by simpa using h4
      subst h6
      exact ⟨[.c nilS], bn_slices_Clone_int, by simp only [concVs]; exact ⟨y, ys', h1, h5, h3⟩⟩
    · exact ⟨[.c (.slq (xs.map eI))], bq_slices_Clone_int xs hl, by simp only [concVs]; exact ⟨y, ys', h1, h5, h3⟩⟩
theorem o_slices_Clone_int (N : Nat) (a0 r : List Int) (h : slices_Clone_int N a0 = some r) {H H1 : List Ob} (k : Nat) (hh : H.length = k) (hs : Snoc (.live 1 1 (r.map eI)) H H1) : Nx.Call Try.prog 28 [.c (.slv (a0.map eI))] H fun r' H' => r' = .c (.sl k 1 0 r.length) ∧ H' = H1 := by
  have he := app_eq h
  have hl := app_len h
  simp only [List.nil_append] at he
  subst he
  have hc := Call.lift (objs := [.live 1 1 (a0.map eI)]) (by simp [hfVs, hfV, hfL, hfRows_map h_I]) rfl (by have := okR_eI (p := mvL 1) a0; simpa [mvO] using this) (b_slices_Clone_int a0 (by simpa using hl)) H
  refine Call.mono hc fun r' H' ⟨h1, h2⟩ => ⟨by subst hh; simpa [shV, shL] using h1, ?_⟩
  rw [h2, ← hs.eq]
  simp [shO, fx_eI]
theorem w_slices_Clone_int (N : Nat) (a0 r : List Int) (h : slices_Clone_int N a0 = some r) : Nx.Call Try.prog 28 [.c (.slv (a0.map eI))] [] fun r' _ => r' = .c (.slv (r.map eI)) := by
  have he := app_eq h
  have hl := app_len h
  simp only [List.nil_append] at he
  subst he
  exact Call.frz (b_slices_Clone_int a0 (by simpa using hl))
theorem c_slices_Clone_int (N : Nat) (a0 r : List Int) (h : slices_Clone_int N a0 = some r) (H : List Ob) : DCall Try.prog 28 [.c (.slv (a0.map eI))] H (.c (.slv (r.map eI))) := DCall.lift (by simp [hfVs, hfV, hfL, hfRows_map h_I]) (by simp [mvV, mvL, hfL, hfRows_map h_I]) (fun _ => rfl) (w_slices_Clone_int N a0 r h) H

-- narthex/set.Of
theorem w_set_Of (N : Nat) (a0 : List Int) (r : (List Int)) (h : set_Of N a0 = some r) : Nx.Call Try.prog 44 [.c (.slv (a0.map eI))] [] fun r' _ => r' = .c (.slv (r.map eI)) := by
  refine Nx.Call.of_body Try.func44 rfl en44 Try.ntmps44 rfl (fun Γ hok => ?_)
  unfold set_Of at h
  refine Wp.seq ?_
  refine Wp.text [0] rfl rfl ?_ -- region 0
  refine TextR.assign rfl ?_
  refine TextR.done (.cons rfl .nil) ?_
  refine Wp.seq ?_
  obtain ⟨y1, hy1, h⟩ := bind_some h
  refine Wp.text [3] rfl rfl ?_ -- region 1
  refine TextR.move rfl ?_
  refine TextR.call rfl rfl (by exact o_slices_Clone_int N a0 y1 hy1 0 rfl .nil) (fun x H' hk => ?_)
  obtain ⟨rfl, rfl⟩ := hk
  refine TextR.assign rfl ?_
  refine TextR.done (.cons rfl .nil) ?_
  refine Wp.seq ?_
  obtain ⟨x2, hx2, h⟩ := bind_some h
  refine Wp.text [3] rfl rfl ?_ -- region 2
  refine TextR.move rfl ?_
  refine TextR.call rfl rfl (by exact call_sort lays189 rfl en49 hx2 rfl .zero) (fun x H' hk => ?_)
  obtain ⟨rfl, rfl⟩ := hk
  refine TextR.done (.cons rfl .nil) ?_
  refine Wp.weak (eqW (S' := ⟨[(3, .c (.sl 0 1 0 x2.length))], [.live 1 1 (x2.map eI)]⟩) (by have e0 := (length_sort hx2).symm; first | rfl | (simp only [List.length_set]; done) | (simp only [List.length_set]; rfl) | (simp only [List.length_set, e0]; done) | (simp only [List.length_set, e0]; rfl))) ?_
  refine Wp.seq ?_
  obtain ⟨x3, hx3, h⟩ := bind_some h
  refine Wp.text [2] rfl rfl ?_ -- region 3
  refine TextR.move rfl ?_
  refine TextR.call rfl rfl (by exact call_ded lays220 rfl en50 hx3 rfl .zero) (fun x H' hk => ?_)
  obtain ⟨rfl, rfl⟩ := hk
  refine TextR.assign rfl ?_
  refine TextR.done (.cons rfl .nil) ?_
  refine Wp.weak (keepW (live := [2] ) (.cons rfl .nil)) ?_
  refine Wp.weak (freezeW (h := 0) (ver := 2) (rows := x3.map eI) (e' := [(2, .c (.slv (x3.map eI)))]) (H' := [.dead]) rfl (by first | rfl | simp [-List.map_set]) (by first | rfl | simp [-List.map_set])) ?_
  refine Wp.ret ?_
  obtain rfl := Option.some.inj h
  exact Ret.one rfl (resV_tmp rfl) rfl
theorem c_set_Of (N : Nat) (a0 : List Int) (r : (List Int)) (h : set_Of N a0 = some r) (H : List Ob) : DCall Try.prog 44 [.c (.slv (a0.map eI))] H (.c (.slv (r.map eI))) := DCall.lift (by first | rfl | simp [-List.map_set]) (by first | rfl | simp [-List.map_set]) (fun _ => by simp [-List.map_set]) (w_set_Of N a0 r h) H
-- narthex/graph.Near
theorem w_graph_Near (N : Nat) (a0 : TGraph) (a1 : Int) (r : (List Int)) (h : graph_Near N a0 a1 = some r) : Nx.Call Try.prog 29 [.agg (eGraph a0), .c (I a1)] [] fun r' _ => r' = .c (.slv (r.map eI)) := by
  refine Nx.Call.of_body Try.func29 rfl en29 Try.ntmps29 rfl (fun Γ hok => ?_)
  unfold graph_Near at h
  refine Wp.seq ?_
  refine Wp.text [1, 2] rfl rfl ?_ -- region 0
  refine TextR.box (cs := [I a0.N, .slv (a0.Edges.map eEdge)]) 0 rfl rfl rfl rfl .nil ?_
  refine TextR.assign rfl ?_
  refine TextR.done (.cons rfl (.cons rfl .nil)) ?_
  refine Wp.seq ?_
  refine Wp.seq ?_
  obtain ⟨y1, hy1, h⟩ := bind_some h
  refine Wp.text [1, 2, 10] rfl rfl ?_ -- region 1
  refine TextR.loadN (cs := [I a0.N, .slv (a0.Edges.map eEdge)]) tk24 rfl rfl ?_
  refine TextR.dcall rfl rfl (c_graph_Check N a0 y1 hy1 _) ?_
  refine TextR.int rfl rfl rfl ?_
  refine TextR.done (.cons rfl (.cons rfl (.cons rfl .nil))) ?_
  refine Wp.condM h rfl (fun hc1 h => ?_) (fun hc1 h => ?_)
  · refine Wp.seq ?_
    refine Wp.text [4] rfl rfl ?_ -- region 2
    refine TextR.assign rfl ?_
    refine TextR.done (.cons rfl .nil) ?_
    refine Wp.weak (keepW (live := [4] ) (.cons rfl .nil)) ?_
    refine Wp.weak (nzT (e' := [(4, .c (.slv ([].map eI)))]) (H' := [.live 0 2 [[I a0.N, .slv (a0.Edges.map eEdge)]]]) (by first | rfl | simp [-List.map_set]) (by first | rfl | simp [-List.map_set])) ?_
    refine Wp.ret ?_
    obtain rfl := Option.some.inj h
    exact Ret.one rfl (resV_tmp rfl) rfl
  · refine Wp.skip ?_
    refine Wp.seq ?_
    refine Wp.text [1, 2, 5] rfl rfl ?_ -- region 3
    refine TextR.assign rfl ?_
    refine TextR.done (.cons rfl (.cons rfl (.cons rfl .nil))) ?_
    refine Wp.seq ?_
    refine Wp.seq ?_
    refine Wp.text [1, 5, 12, 13, 14] rfl rfl ?_ -- region 4
    refine TextR.fieldAddr fo24_1 rfl rfl rfl ?_
    refine TextR.load1 tk22 rfl rfl ?_
    refine TextR.lenM us22 rfl rfl ?_
    refine TextR.move rfl ?_
    refine TextR.done (.cons rfl (.cons rfl (.cons rfl (.cons rfl (.cons rfl .nil))))) ?_
    obtain ⟨z2, hz2, h⟩ := bind_some h
    refine Wp.fragN (fun S => ∃ wz2_0, ∃ S', St.Weak ⟨Try.prog, 40, Γ⟩ S S' ∧ S' = ⟨[(5, .c (.sl 0 wz2_0 0 z2.length))], [.live wz2_0 1 (z2.map eI)]⟩) ?_ ?_
    · replace h := hz2
      refine Wp.block ?_
      refine Wp.weak (St.Weak.trans (keepW (live := [1, 5, 12, 13, 14]) (.cons rfl (.cons rfl (.cons rfl (.cons rfl (.cons rfl .nil)))))) (St.Weak.trans (pickT (e' := [(1, .c (I a1)), (5, .c (nilS)), (12, .c (.slv (a0.Edges.map eEdge))), (13, .c (I (a0.Edges.length : Int))), (14, .c (I 0))]) (H' := []) [] [0] 0 hok.len.symm rfl rfl (by decide) (by first | rfl | simp [-List.map_set]) (by first | rfl | simp [-List.map_set]) (by first | rfl | simp [-List.map_set]) (by first | rfl | simp [-List.map_set])) (St.Weak.trans (nilW (e := [(1, .c (I a1)), (5, .c (nilS)), (12, .c (.slv (a0.Edges.map eEdge))), (13, .c (I (a0.Edges.length : Int))), (14, .c (I 0))]) (H := []) (t := 5) 0 1 0 rfl rfl .nil) (keepW (live := [1, 5, 12, 13, 14]) (.cons rfl (.cons rfl (.cons rfl (.cons rfl (.cons rfl .nil))))))))) ?_
      refine Wp.loop (fun m S => ∃ l0_1, ∃ s14_1, ∃ wh0_1, graph_Near_L1 N a0 a1 m l0_1 s14_1 = some z2 ∧ S = ⟨[(1, .c (I a1)), (5, .c (.sl 0 wh0_1 0 l0_1.length)), (12, .c (.slv (a0.Edges.map eEdge))), (13, .c (I (a0.Edges.length : Int))), (14, .c (I s14_1))], [.live wh0_1 1 (l0_1.map eI)]⟩) N ⟨_, _, _, h, rfl⟩ ?_
      rintro m1 _ ⟨l0_1, s14_1, wh0_1, h, rfl⟩
      cases m1 with
      | zero => rw [graph_Near_L1.eq_1] at h; cases h
      | succ m1 =>
      rw [graph_Near_L1.eq_2] at h
      refine Wp.seq ?_
      refine Wp.text [1, 5, 12, 13, 14, 15] rfl rfl ?_ -- region 5
      refine TextR.int rfl rfl rfl ?_
      refine TextR.done (.cons rfl (.cons rfl (.cons rfl (.cons rfl (.cons rfl (.cons rfl .nil)))))) ?_
      refine Wp.seq ?_
      refine Wp.condM h rfl (fun hc3 h => ?_) (fun hc3 h => ?_)
      · refine Wp.skip ?_
        refine Wp.seq ?_
        refine Wp.block ?_
        refine Wp.seq ?_
        obtain ⟨x3, hx3, h⟩ := bind_some h
        refine Wp.text [1, 5, 7, 12, 13, 14] rfl rfl ?_ -- region 6
        refine TextR.indexA se22 rfl rfl rfl hx3 rfl ?_
        refine TextR.loadNM tk44 rfl (at_get hx3) rfl ?_
        refine TextR.alloc 1 zc44 rfl rfl (.cons .nil) ?_
        refine TextR.store1 tk44 rfl rfl rfl rfl rfl rfl (.succ .zero) ?_
        refine TextR.done (.cons rfl (.cons rfl (.cons rfl (.cons rfl (.cons rfl (.cons rfl .nil)))))) ?_
        refine Wp.seq ?_
        refine Wp.text [1, 5, 7, 12, 13, 14, 18] rfl rfl ?_ -- region 7
        refine TextR.move rfl ?_
        refine TextR.done (.cons rfl (.cons rfl (.cons rfl (.cons rfl (.cons rfl (.cons rfl (.cons rfl .nil))))))) ?_
        refine Wp.block ?_
        refine Wp.seq ?_
        refine Wp.text [1, 5, 7, 12, 13, 14, 18, 19] rfl rfl ?_ -- region 8
        refine TextR.fieldAddr fo44_0 rfl rfl rfl ?_
        refine TextR.load1 tk3 rfl rfl ?_
        refine TextR.int rfl rfl rfl ?_
        refine TextR.assign rfl ?_
        refine TextR.done (.cons rfl (.cons rfl (.cons rfl (.cons rfl (.cons rfl (.cons rfl (.cons rfl (.cons rfl .nil)))))))) ?_
        refine Wp.condM h rfl (fun hc4 h => ?_) (fun hc4 h => ?_)
        · obtain ⟨x4, hx4, h⟩ := bind_some h
          refine Wp.text [1, 5, 12, 13, 14] rfl rfl ?_ -- region 9
          refine TextR.move rfl ?_
          refine TextR.fieldAddr fo44_1 rfl rfl rfl ?_
          refine TextR.load1 tk3 rfl rfl ?_
          refine TextR.buildSlice (rows := [x3.B].map eI) 2 se25 rfl rfl rfl (.cons (.cons .nil)) ?_
          refine TextR.appendM eI l0_1 [x3.B] x4 (app_eq hx4) se25 rfl (obj_of rfl) rfl (view_whole (f := eI) (xs := [x3.B]) rfl) (fun _ => rfl) rfl (app_len hx4) .zero ?_
          refine TextR.assign rfl ?_
          refine TextR.done (.cons rfl (.cons rfl (.cons rfl (.cons rfl (.cons rfl .nil))))) ?_
          refine Wp.text [1, 5, 12, 13, 14] rfl rfl ?_ -- region 12
          refine TextR.int rfl rfl rfl ?_
          refine TextR.move rfl ?_
          refine TextR.done (.cons rfl (.cons rfl (.cons rfl (.cons rfl (.cons rfl .nil))))) ?_
          exact ⟨m1, Nat.lt_succ_self _, _, (St.Weak.trans (keepW (live := [1, 5, 12, 13, 14]) (.cons rfl (.cons rfl (.cons rfl (.cons rfl (.cons rfl .nil)))))) (pickT (e' := [(1, .c (I a1)), (5, .c (.sl 0 (wh0_1 + 1) 0 x4.length)), (12, .c (.slv (a0.Edges.map eEdge))), (13, .c (I (a0.Edges.length : Int))), (14, .c (I (w64 (s14_1 + 1))))]) (H' := [.live (wh0_1 + 1) 1 (x4.map eI)]) [0] [0, 0, 0] 0 hok.len.symm rfl rfl (by decide) (by first | rfl | simp [-List.map_set]) (by first | rfl | simp [-List.map_set]) (by first | rfl | simp [-List.map_set]) (by first | rfl | simp [-List.map_set]))), _, _, _, h, rfl⟩
        · refine Wp.seq ?_
          refine Wp.text [1, 5, 7, 12, 13, 14, 28] rfl rfl ?_ -- region 10
          refine TextR.fieldAddr fo44_1 rfl rfl rfl ?_
          refine TextR.load1 tk3 rfl rfl ?_
          refine TextR.int rfl rfl rfl ?_
          refine TextR.assign rfl ?_
          refine TextR.done (.cons rfl (.cons rfl (.cons rfl (.cons rfl (.cons rfl (.cons rfl (.cons rfl .nil))))))) ?_
          refine Wp.condM h rfl (fun hc5 h => ?_) (fun hc5 h => ?_)
          · obtain ⟨x5, hx5, h⟩ := bind_some h
            refine Wp.text [1, 5, 12, 13, 14] rfl rfl ?_ -- region 11
            refine TextR.move rfl ?_
            refine TextR.fieldAddr fo44_0 rfl rfl rfl ?_
            refine TextR.load1 tk3 rfl rfl ?_
            refine TextR.buildSlice (rows := [x3.A].map eI) 2 se25 rfl rfl rfl (.cons (.cons .nil)) ?_
            refine TextR.appendM eI l0_1 [x3.A] x5 (app_eq hx5) se25 rfl (obj_of rfl) rfl (view_whole (f := eI) (xs := [x3.A]) rfl) (fun _ => rfl) rfl (app_len hx5) .zero ?_
            refine TextR.assign rfl ?_
            refine TextR.done (.cons rfl (.cons rfl (.cons rfl (.cons rfl (.cons rfl .nil))))) ?_
            refine Wp.text [1, 5, 12, 13, 14] rfl rfl ?_ -- region 12
            refine TextR.int rfl rfl rfl ?_
            refine TextR.move rfl ?_
            refine TextR.done (.cons rfl (.cons rfl (.cons rfl (.cons rfl (.cons rfl .nil))))) ?_
            exact ⟨m1, Nat.lt_succ_self _, _, (St.Weak.trans (keepW (live := [1, 5, 12, 13, 14]) (.cons rfl (.cons rfl (.cons rfl (.cons rfl (.cons rfl .nil)))))) (pickT (e' := [(1, .c (I a1)), (5, .c (.sl 0 (wh0_1 + 1) 0 x5.length)), (12, .c (.slv (a0.Edges.map eEdge))), (13, .c (I (a0.Edges.length : Int))), (14, .c (I (w64 (s14_1 + 1))))]) (H' := [.live (wh0_1 + 1) 1 (x5.map eI)]) [0] [0, 0, 0] 0 hok.len.symm rfl rfl (by decide) (by first | rfl | simp [-List.map_set]) (by first | rfl | simp [-List.map_set]) (by first | rfl | simp [-List.map_set]) (by first | rfl | simp [-List.map_set]))), _, _, _, h, rfl⟩
          · refine Wp.skip ?_
            refine Wp.text [1, 5, 12, 13, 14] rfl rfl ?_ -- region 12
            refine TextR.int rfl rfl rfl ?_
            refine TextR.move rfl ?_
            refine TextR.done (.cons rfl (.cons rfl (.cons rfl (.cons rfl (.cons rfl .nil))))) ?_
            exact ⟨m1, Nat.lt_succ_self _, _, (St.Weak.trans (keepW (live := [1, 5, 12, 13, 14]) (.cons rfl (.cons rfl (.cons rfl (.cons rfl (.cons rfl .nil)))))) (pickT (e' := [(1, .c (I a1)), (5, .c (.sl 0 wh0_1 0 l0_1.length)), (12, .c (.slv (a0.Edges.map eEdge))), (13, .c (I (a0.Edges.length : Int))), (14, .c (I (w64 (s14_1 + 1))))]) (H' := [.live wh0_1 1 (l0_1.map eI)]) [0] [0, 0] 0 hok.len.symm rfl rfl (by decide) (by first | rfl | simp [-List.map_set]) (by first | rfl | simp [-List.map_set]) (by first | rfl | simp [-List.map_set]) (by first | rfl | simp [-List.map_set]))), _, _, _, h, rfl⟩
      · refine Wp.exit ?_
        obtain rfl := Option.some.inj h
        exact ⟨_, _, (keepW (live := [5]) (.cons rfl .nil)), rfl⟩
    rintro _ ⟨wz2_0, S', hw, rfl⟩
    clear hz2
    refine Wp.weak hw ?_
    refine Wp.seq ?_
    refine Wp.weak (freezeW (h := 0) (ver := wz2_0) (rows := z2.map eI) (e' := [(5, .c (.slv (z2.map eI)))]) (H' := [.dead]) (obj_of rfl) (by first | rfl | simp [-List.map_set]) (by first | rfl | simp [-List.map_set])) ?_
    obtain ⟨y6, hy6, h⟩ := bind_some h
    refine Wp.text [4] rfl rfl ?_ -- region 13
    refine TextR.move rfl ?_
    refine TextR.dcall rfl rfl (c_set_Of N z2 y6 hy6 _) ?_
    refine TextR.assign rfl ?_
    refine TextR.done (.cons rfl .nil) ?_
    refine Wp.ret ?_
    obtain rfl := Option.some.inj h
    exact Ret.one rfl (resV_tmp rfl) rfl
theorem c_graph_Near (N : Nat) (a0 : TGraph) (a1 : Int) (r : (List Int)) (h : graph_Near N a0 a1 = some r) (H : List Ob) : DCall Try.prog 29 [.agg (eGraph a0), .c (I a1)] H (.c (.slv (r.map eI))) := DCall.lift (by first | rfl | simp [-List.map_set]) (by first | rfl | simp [-List.map_set]) (fun _ => by simp [-List.map_set]) (w_graph_Near N a0 a1 r h) H
-- narthex/colour.Round$2
theorem w_colour_Round_2_2 (N : Nat) (a0 : Int) (c0_0 : Int) (c0_1 : List TEdge) (c1_0 : List Int) (l3 : List Int) (c4_0 : Int) {w3 : Nat} (r : Bool) (h : colour_Round_2_2 N a0 c0_0 c0_1 c1_0 l3 c4_0 = some r) : Nx.Call Try.prog 30 [.c (I a0), .c (.ptr 1 0 0 0), .c (.ptr 4 0 0 0)] [.live 0 2 [[I c0_0, .slv (c0_1.map eEdge)]], .live 0 1 [[.slv (c1_0.map eI)]], .live 0 1 [[.sl 3 w3 0 l3.length]], .live w3 1 (l3.map eI), .live 0 1 [[I c4_0]]] fun r' H' => r' = .c (B r) ∧ ∃ junk, H' = [.live 0 2 [[I c0_0, .slv (c0_1.map eEdge)]], .live 0 1 [[.slv (c1_0.map eI)]], .live 0 1 [[.sl 3 w3 0 l3.length]], .live w3 1 (l3.map eI), .live 0 1 [[I c4_0]]] ++ junk := by
  refine Nx.Call.of_body Try.func30 rfl en30 Try.ntmps30 rfl (fun Γ hok => ?_)
  unfold colour_Round_2_2 at h
  refine Wp.seq ?_
  refine Wp.text [0, 1, 2] rfl rfl ?_ -- region 0
  refine TextR.assign rfl ?_
  refine TextR.done (.cons rfl (.cons rfl (.cons rfl .nil))) ?_
  refine Wp.seq ?_
  obtain ⟨x1, hx1, h⟩ := bind_some h
  refine Wp.go false none [[], [], [], [], [], [], [(10, true)], [(10, true)], [(10, true)], [], []] [] [4] mixed rfl rfl (by kernel_rfl) ?_ -- region 1
  refine RunR.load1 tk25 rfl rfl rfl rfl ?_
  refine RunR.move rfl rfl rfl ?_
  refine RunR.indexA se25 rfl rfl rfl rfl rfl hx1 rfl ?_
  refine RunR.load1M tk3 rfl rfl rfl (at_get hx1) rfl ?_
  refine RunR.int rfl rfl rfl rfl rfl ?_
  refine RunR.move rfl rfl rfl ?_
  refine RunR.move rfl rfl rfl ?_
  refine RunR.load1 tk3 rfl rfl rfl rfl ?_
  refine RunR.int rfl rfl rfl rfl rfl ?_
  refine RunR.pickAnd rfl rfl rfl rfl ?_
  refine RunR.assign rfl rfl rfl ?_
  refine RunR.doneQ (.cons rfl .nil) ?_
  refine Wp.ret ?_
  obtain rfl := Option.some.inj h
  exact Ret.one rfl (resV_tmp rfl) ⟨rfl, _, rfl⟩
theorem c_colour_Round_2_2 (N : Nat) (a0 : Int) (c0_0 : Int) (c0_1 : List TEdge) (c1_0 : List Int) (l3 : List Int) (c4_0 : Int) {w3 : Nat} (r : Bool) (h : colour_Round_2_2 N a0 c0_0 c0_1 c1_0 l3 c4_0 = some r) : DCall Try.prog 30 [.c (I a0), .c (.ptr 1 0 0 0), .c (.ptr 4 0 0 0)] [.live 0 2 [[I c0_0, .slv (c0_1.map eEdge)]], .live 0 1 [[.slv (c1_0.map eI)]], .live 0 1 [[.sl 3 w3 0 l3.length]], .live w3 1 (l3.map eI), .live 0 1 [[I c4_0]]] (.c (B r)) := Call.trim (by simp) (by first | rfl | simp [-List.map_set]) (by first | rfl | simp [-List.map_set]) (w_colour_Round_2_2 N a0 c0_0 c0_1 c1_0 l3 c4_0 r h)
-- slices.IndexFunc[[]int,int]
theorem w_slices_IndexFunc_int_3 (N : Nat) (a0 : List Int) (c0_0 : Int) (c0_1 : List TEdge) (c1_0 : List Int) (l3 : List Int) (c4_0 : Int) {w3 : Nat} (r : Int) (h : slices_IndexFunc_int_3 N a0 c0_0 c0_1 c1_0 l3 c4_0 = some r) : Nx.Call Try.prog 43 [.c (.slv (a0.map eI)), .c (.clo 30 [.ptr 1 0 0 0, .ptr 4 0 0 0])] [.live 0 2 [[I c0_0, .slv (c0_1.map eEdge)]], .live 0 1 [[.slv (c1_0.map eI)]], .live 0 1 [[.sl 3 w3 0 l3.length]], .live w3 1 (l3.map eI), .live 0 1 [[I c4_0]]] fun r' H' => r' = .c (I r) ∧ ∃ junk, H' = [.live 0 2 [[I c0_0, .slv (c0_1.map eEdge)]], .live 0 1 [[.slv (c1_0.map eI)]], .live 0 1 [[.sl 3 w3 0 l3.length]], .live w3 1 (l3.map eI), .live 0 1 [[I c4_0]]] ++ junk := by
  refine Nx.Call.of_body Try.func43 rfl en43 Try.ntmps43 rfl (fun Γ hok => ?_)
  unfold slices_IndexFunc_int_3 at h
  refine Wp.seq ?_
  refine Wp.text [0, 1] rfl rfl ?_ -- region 0
  refine TextR.assign rfl ?_
  refine TextR.done (.cons rfl (.cons rfl .nil)) ?_
  refine Wp.seq ?_
  refine Wp.seq ?_
  refine Wp.text [0, 1, 7, 8] rfl rfl ?_ -- region 1
  refine TextR.move rfl ?_
  refine TextR.lenM us25 rfl rfl ?_
  refine TextR.move rfl ?_
  refine TextR.done (.cons rfl (.cons rfl (.cons rfl (.cons rfl .nil)))) ?_
  obtain ⟨z1, hz1, h⟩ := bind_some h
  refine Wp.fragR (fun S => ∃ z3, z1 = .inr z3 ∧ ∃ S', St.Weak ⟨Try.prog, 19, Γ⟩ S S' ∧ S' = ⟨[], [.live 0 2 [[I c0_0, .slv (c0_1.map eEdge)]], .live 0 1 [[.slv (c1_0.map eI)]], .live 0 1 [[.sl 3 w3 0 l3.length]], .live w3 1 (l3.map eI), .live 0 1 [[I c4_0]]]⟩) (fun S => ∃ v, z1 = .inl v ∧ Ret Try.prog Try.f43 (fun r' H' => r' = .c (I v) ∧ ∃ junk, H' = [.live 0 2 [[I c0_0, .slv (c0_1.map eEdge)]], .live 0 1 [[.slv (c1_0.map eI)]], .live 0 1 [[.sl 3 w3 0 l3.length]], .live w3 1 (l3.map eI), .live 0 1 [[I c4_0]]] ++ junk) .ret S) ?_ ?_ ?_
  · replace h := hz1
    refine Wp.block ?_
    refine Wp.weak (keepW (live := [0, 1, 7, 8]) (.cons rfl (.cons rfl (.cons rfl (.cons rfl .nil))))) ?_
    refine Wp.loop (fun m S => ∃ s8_1, slices_IndexFunc_int_3_L1 N a0 c0_0 c0_1 c1_0 l3 c4_0 m s8_1 = some z1 ∧ S = ⟨[(0, .c (.slv (a0.map eI))), (1, .c (.clo 30 [.ptr 1 0 0 0, .ptr 4 0 0 0])), (7, .c (I (a0.length : Int))), (8, .c (I s8_1))], [.live 0 2 [[I c0_0, .slv (c0_1.map eEdge)]], .live 0 1 [[.slv (c1_0.map eI)]], .live 0 1 [[.sl 3 w3 0 l3.length]], .live w3 1 (l3.map eI), .live 0 1 [[I c4_0]]]⟩) N ⟨_, h, rfl⟩ ?_
    rintro m1 _ ⟨s8_1, h, rfl⟩
    cases m1 with
    | zero => rw [slices_IndexFunc_int_3_L1.eq_1] at h; cases h
    | succ m1 =>
    rw [slices_IndexFunc_int_3_L1.eq_2] at h
    refine Wp.seq ?_
    refine Wp.text [0, 1, 7, 8, 9] rfl rfl ?_ -- region 2
    refine TextR.int rfl rfl rfl ?_
    refine TextR.done (.cons rfl (.cons rfl (.cons rfl (.cons rfl (.cons rfl .nil))))) ?_
    refine Wp.seq ?_
    refine Wp.condM h rfl (fun hc2 h => ?_) (fun hc2 h => ?_)
    · refine Wp.skip ?_
      refine Wp.seq ?_
      refine Wp.block ?_
      refine Wp.seq ?_
      refine Wp.text [0, 1, 5, 7, 8] rfl rfl ?_ -- region 3
      refine TextR.move rfl ?_
      refine TextR.assign rfl ?_
      refine TextR.done (.cons rfl (.cons rfl (.cons rfl (.cons rfl (.cons rfl .nil))))) ?_
      refine Wp.seq ?_
      obtain ⟨x4, hx4, h⟩ := bind_some h
      obtain ⟨y5, hy5, h⟩ := bind_some h
      refine Wp.text [0, 1, 5, 7, 8, 16] rfl rfl ?_ -- region 4
      refine TextR.move rfl ?_
      refine TextR.move rfl ?_
      refine TextR.move rfl ?_
      refine TextR.indexA se25 rfl rfl rfl hx4 rfl ?_
      refine TextR.load1M tk3 rfl (at_get hx4) rfl ?_
      refine TextR.dcall rfl rfl (c_colour_Round_2_2 N x4 c0_0 c0_1 c1_0 l3 c4_0 y5 hy5) ?_
      refine TextR.done (.cons rfl (.cons rfl (.cons rfl (.cons rfl (.cons rfl (.cons rfl .nil)))))) ?_
      refine Wp.condM h rfl (fun hc3 h => ?_) (fun hc3 h => ?_)
      · refine Wp.seq ?_
        refine Wp.text [4] rfl rfl ?_ -- region 5
        refine TextR.move rfl ?_
        refine TextR.assign rfl ?_
        refine TextR.done (.cons rfl .nil) ?_
        refine Wp.ret ?_
        exact ⟨_, (Option.some.inj h).symm, Ret.one rfl (resV_tmp rfl) ⟨rfl, _, rfl⟩⟩
      · refine Wp.skip ?_
        refine Wp.text [0, 1, 7, 8] rfl rfl ?_ -- region 6
        refine TextR.int rfl rfl rfl ?_
        refine TextR.move rfl ?_
        refine TextR.done (.cons rfl (.cons rfl (.cons rfl (.cons rfl .nil)))) ?_
        exact ⟨m1, Nat.lt_succ_self _, _, (keepW (live := [0, 1, 7, 8]) (.cons rfl (.cons rfl (.cons rfl (.cons rfl .nil))))), _, h, rfl⟩
    · refine Wp.exit ?_
      exact ⟨_, (Option.some.inj h).symm, _, (keepW (live := []) .nil), rfl⟩
  · rintro _ ⟨z3, rfl, _, hw, rfl⟩
    dsimp only at h
    clear hz1
    refine Wp.weak hw ?_
    refine Wp.seq ?_
    refine Wp.text [4] rfl rfl ?_ -- region 7
    refine TextR.assign rfl ?_
    refine TextR.done (.cons rfl .nil) ?_
    refine Wp.ret ?_
    obtain rfl := Option.some.inj h
    exact Ret.one rfl (resV_tmp rfl) ⟨rfl, _, rfl⟩
  · rintro S' ⟨r2, rfl, hR⟩
    dsimp only at h
    obtain rfl := Option.some.inj h
    exact hR
theorem c_slices_IndexFunc_int_3 (N : Nat) (a0 : List Int) (c0_0 : Int) (c0_1 : List TEdge) (c1_0 : List Int) (l3 : List Int) (c4_0 : Int) {w3 : Nat} (r : Int) (h : slices_IndexFunc_int_3 N a0 c0_0 c0_1 c1_0 l3 c4_0 = some r) : DCall Try.prog 43 [.c (.slv (a0.map eI)), .c (.clo 30 [.ptr 1 0 0 0, .ptr 4 0 0 0])] [.live 0 2 [[I c0_0, .slv (c0_1.map eEdge)]], .live 0 1 [[.slv (c1_0.map eI)]], .live 0 1 [[.sl 3 w3 0 l3.length]], .live w3 1 (l3.map eI), .live 0 1 [[I c4_0]]] (.c (I r)) := Call.trim (by simp) (by first | rfl | simp [-List.map_set]) (by first | rfl | simp [-List.map_set]) (w_slices_IndexFunc_int_3 N a0 c0_0 c0_1 c1_0 l3 c4_0 r h)
-- slices.ContainsFunc[[]int,int]
theorem w_slices_ContainsFunc_int_3 (N : Nat) (a0 : List Int) (c0_0 : Int) (c0_1 : List TEdge) (c1_0 : List Int) (l3 : List Int) (c4_0 : Int) {w3 : Nat} (r : Bool) (h : slices_ContainsFunc_int_3 N a0 c0_0 c0_1 c1_0 l3 c4_0 = some r) : Nx.Call Try.prog 26 [.c (.slv (a0.map eI)), .c (.clo 30 [.ptr 1 0 0 0, .ptr 4 0 0 0])] [.live 0 2 [[I c0_0, .slv (c0_1.map eEdge)]], .live 0 1 [[.slv (c1_0.map eI)]], .live 0 1 [[.sl 3 w3 0 l3.length]], .live w3 1 (l3.map eI), .live 0 1 [[I c4_0]]] fun r' H' => r' = .c (B r) ∧ ∃ junk, H' = [.live 0 2 [[I c0_0, .slv (c0_1.map eEdge)]], .live 0 1 [[.slv (c1_0.map eI)]], .live 0 1 [[.sl 3 w3 0 l3.length]], .live w3 1 (l3.map eI), .live 0 1 [[I c4_0]]] ++ junk := by
  refine Nx.Call.of_body Try.func26 rfl en26 Try.ntmps26 rfl (fun Γ hok => ?_)
  unfold slices_ContainsFunc_int_3 at h
  refine Wp.seq ?_
  refine Wp.text [0, 1] rfl rfl ?_ -- region 0
  refine TextR.assign rfl ?_
  refine TextR.done (.cons rfl (.cons rfl .nil)) ?_
  refine Wp.seq ?_
  obtain ⟨y1, hy1, h⟩ := bind_some h
  refine Wp.text [4] rfl rfl ?_ -- region 1
  refine TextR.move rfl ?_
  refine TextR.move rfl ?_
  refine TextR.dcall rfl rfl (c_slices_IndexFunc_int_3 N a0 c0_0 c0_1 c1_0 l3 c4_0 y1 hy1) ?_
  refine TextR.int rfl rfl rfl ?_
  refine TextR.assign rfl ?_
  refine TextR.done (.cons rfl .nil) ?_
  refine Wp.ret ?_
  obtain rfl := Option.some.inj h
  exact Ret.one rfl (resV_tmp rfl) ⟨rfl, _, rfl⟩
theorem c_slices_ContainsFunc_int_3 (N : Nat) (a0 : List Int) (c0_0 : Int) (c0_1 : List TEdge) (c1_0 : List Int) (l3 : List Int) (c4_0 : Int) {w3 : Nat} (r : Bool) (h : slices_ContainsFunc_int_3 N a0 c0_0 c0_1 c1_0 l3 c4_0 = some r) : DCall Try.prog 26 [.c (.slv (a0.map eI)), .c (.clo 30 [.ptr 1 0 0 0, .ptr 4 0 0 0])] [.live 0 2 [[I c0_0, .slv (c0_1.map eEdge)]], .live 0 1 [[.slv (c1_0.map eI)]], .live 0 1 [[.sl 3 w3 0 l3.length]], .live w3 1 (l3.map eI), .live 0 1 [[I c4_0]]] (.c (B r)) := Call.trim (by simp) (by first | rfl | simp [-List.map_set]) (by first | rfl | simp [-List.map_set]) (w_slices_ContainsFunc_int_3 N a0 c0_0 c0_1 c1_0 l3 c4_0 r h)
-- narthex/colour.Round$3
theorem w_colour_Round_3 (N : Nat) (a0 : Int) (c0_0 : Int) (c0_1 : List TEdge) (c1_0 : List Int) (l3 : List Int) (c4_0 : Int) {w3 : Nat} (r : Bool) (h : colour_Round_3 N a0 c0_0 c0_1 c1_0 l3 c4_0 = some r) : Nx.Call Try.prog 31 [.c (I a0), .c (.ptr 1 0 0 0), .c (.ptr 2 0 0 0), .c (.ptr 4 0 0 0)] [.live 0 2 [[I c0_0, .slv (c0_1.map eEdge)]], .live 0 1 [[.slv (c1_0.map eI)]], .live 0 1 [[.sl 3 w3 0 l3.length]], .live w3 1 (l3.map eI), .live 0 1 [[I c4_0]]] fun r' H' => r' = .c (B r) ∧ ∃ junk, H' = [.live 0 2 [[I c0_0, .slv (c0_1.map eEdge)]], .live 0 1 [[.slv (c1_0.map eI)]], .live 0 1 [[.sl 3 w3 0 l3.length]], .live w3 1 (l3.map eI), .live 0 1 [[I c4_0]]] ++ junk := by
  refine Nx.Call.of_body Try.func31 rfl en31 Try.ntmps31 rfl (fun Γ hok => ?_)
  unfold colour_Round_3 at h
  refine Wp.seq ?_
  refine Wp.text [0, 1, 2, 3] rfl rfl ?_ -- region 0
  refine TextR.assign rfl ?_
  refine TextR.done (.cons rfl (.cons rfl (.cons rfl (.cons rfl .nil)))) ?_
  refine Wp.seq ?_
  obtain ⟨x1, hx1, h⟩ := bind_some h
  obtain ⟨x2, hx2, h⟩ := bind_some h
  refine Wp.go true (some []) [] [] [5] mixed rfl rfl (by kernel_rfl) ?_ -- region 1
  refine RunR.load1 tk25 rfl rfl rfl rfl ?_
  refine RunR.move rfl rfl rfl ?_
  refine RunR.indexA se25 rfl rfl rfl rfl rfl hx1 rfl ?_
  refine RunR.load1M tk3 rfl rfl rfl (at_get hx1) rfl ?_
  refine RunR.load1 tk25 rfl rfl rfl rfl ?_
  refine RunR.load1 tk3 rfl rfl rfl rfl ?_
  refine RunR.indexOA se25 rfl rfl rfl rfl (obj_of rfl) hx2 ?_
  refine RunR.load1O tk3 rfl rfl rfl (obj_of rfl) (at_get hx2) rfl ?_
  refine RunR.int rfl rfl rfl rfl rfl ?_
  refine RunR.assign rfl rfl rfl ?_
  refine RunR.doneQ (.cons rfl .nil) ?_
  refine Wp.ret ?_
  obtain rfl := Option.some.inj h
  exact Ret.one rfl (resV_tmp rfl) ⟨rfl, _, rfl⟩
theorem c_colour_Round_3 (N : Nat) (a0 : Int) (c0_0 : Int) (c0_1 : List TEdge) (c1_0 : List Int) (l3 : List Int) (c4_0 : Int) {w3 : Nat} (r : Bool) (h : colour_Round_3 N a0 c0_0 c0_1 c1_0 l3 c4_0 = some r) : DCall Try.prog 31 [.c (I a0), .c (.ptr 1 0 0 0), .c (.ptr 2 0 0 0), .c (.ptr 4 0 0 0)] [.live 0 2 [[I c0_0, .slv (c0_1.map eEdge)]], .live 0 1 [[.slv (c1_0.map eI)]], .live 0 1 [[.sl 3 w3 0 l3.length]], .live w3 1 (l3.map eI), .live 0 1 [[I c4_0]]] (.c (B r)) := Call.trim (by simp) (by first | rfl | simp [-List.map_set]) (by first | rfl | simp [-List.map_set]) (w_colour_Round_3 N a0 c0_0 c0_1 c1_0 l3 c4_0 r h)
-- slices.IndexFunc[[]int,int]
theorem w_slices_IndexFunc_int_4 (N : Nat) (a0 : List Int) (c0_0 : Int) (c0_1 : List TEdge) (c1_0 : List Int) (l3 : List Int) (c4_0 : Int) {w3 : Nat} (r : Int) (h : slices_IndexFunc_int_4 N a0 c0_0 c0_1 c1_0 l3 c4_0 = some r) : Nx.Call Try.prog 43 [.c (.slv (a0.map eI)), .c (.clo 31 [.ptr 1 0 0 0, .ptr 2 0 0 0, .ptr 4 0 0 0])] [.live 0 2 [[I c0_0, .slv (c0_1.map eEdge)]], .live 0 1 [[.slv (c1_0.map eI)]], .live 0 1 [[.sl 3 w3 0 l3.length]], .live w3 1 (l3.map eI), .live 0 1 [[I c4_0]]] fun r' H' => r' = .c (I r) ∧ ∃ junk, H' = [.live 0 2 [[I c0_0, .slv (c0_1.map eEdge)]], .live 0 1 [[.slv (c1_0.map eI)]], .live 0 1 [[.sl 3 w3 0 l3.length]], .live w3 1 (l3.map eI), .live 0 1 [[I c4_0]]] ++ junk := by
  refine Nx.Call.of_body Try.func43 rfl en43 Try.ntmps43 rfl (fun Γ hok => ?_)
  unfold slices_IndexFunc_int_4 at h
  refine Wp.seq ?_
  refine Wp.text [0, 1] rfl rfl ?_ -- region 0
  refine TextR.assign rfl ?_
  refine TextR.done (.cons rfl (.cons rfl .nil)) ?_
  refine Wp.seq ?_
  refine Wp.seq ?_
  refine Wp.text [0, 1, 7, 8] rfl rfl ?_ -- region 1
  refine TextR.move rfl ?_
  refine TextR.lenM us25 rfl rfl ?_
  refine TextR.move rfl ?_
  refine TextR.done (.cons rfl (.cons rfl (.cons rfl (.cons rfl .nil)))) ?_
  obtain ⟨z1, hz1, h⟩ := bind_some h
  refine Wp.fragR (fun S => ∃ z3, z1 = .inr z3 ∧ ∃ S', St.Weak ⟨Try.prog, 19, Γ⟩ S S' ∧ S' = ⟨[], [.live 0 2 [[I c0_0, .slv (c0_1.map eEdge)]], .live 0 1 [[.slv (c1_0.map eI)]], .live 0 1 [[.sl 3 w3 0 l3.length]], .live w3 1 (l3.map eI), .live 0 1 [[I c4_0]]]⟩) (fun S => ∃ v, z1 = .inl v ∧ Ret Try.prog Try.f43 (fun r' H' => r' = .c (I v) ∧ ∃ junk, H' = [.live 0 2 [[I c0_0, .slv (c0_1.map eEdge)]], .live 0 1 [[.slv (c1_0.map eI)]], .live 0 1 [[.sl 3 w3 0 l3.length]], .live w3 1 (l3.map eI), .live 0 1 [[I c4_0]]] ++ junk) .ret S) ?_ ?_ ?_
  · replace h := hz1
    refine Wp.block ?_
    refine Wp.weak (keepW (live := [0, 1, 7, 8]) (.cons rfl (.cons rfl (.cons rfl (.cons rfl .nil))))) ?_
    refine Wp.loop (fun m S => ∃ s8_1, slices_IndexFunc_int_4_L1 N a0 c0_0 c0_1 c1_0 l3 c4_0 m s8_1 = some z1 ∧ S = ⟨[(0, .c (.slv (a0.map eI))), (1, .c (.clo 31 [.ptr 1 0 0 0, .ptr 2 0 0 0, .ptr 4 0 0 0])), (7, .c (I (a0.length : Int))), (8, .c (I s8_1))], [.live 0 2 [[I c0_0, .slv (c0_1.map eEdge)]], .live 0 1 [[.slv (c1_0.map eI)]], .live 0 1 [[.sl 3 w3 0 l3.length]], .live w3 1 (l3.map eI), .live 0 1 [[I c4_0]]]⟩) N ⟨_, h, rfl⟩ ?_
    rintro m1 _ ⟨s8_1, h, rfl⟩
    cases m1 with
    | zero => rw [slices_IndexFunc_int_4_L1.eq_1] at h; cases h
    | succ m1 =>
    rw [slices_IndexFunc_int_4_L1.eq_2] at h
    refine Wp.seq ?_
    refine Wp.text [0, 1, 7, 8, 9] rfl rfl ?_ -- region 2
    refine TextR.int rfl rfl rfl ?_
    refine TextR.done (.cons rfl (.cons rfl (.cons rfl (.cons rfl (.cons rfl .nil))))) ?_
    refine Wp.seq ?_
    refine Wp.condM h rfl (fun hc2 h => ?_) (fun hc2 h => ?_)
    · refine Wp.skip ?_
      refine Wp.seq ?_
      refine Wp.block ?_
      refine Wp.seq ?_
      refine Wp.text [0, 1, 5, 7, 8] rfl rfl ?_ -- region 3
      refine TextR.move rfl ?_
      refine TextR.assign rfl ?_
      refine TextR.done (.cons rfl (.cons rfl (.cons rfl (.cons rfl (.cons rfl .nil))))) ?_
      refine Wp.seq ?_
      obtain ⟨x4, hx4, h⟩ := bind_some h
      obtain ⟨y5, hy5, h⟩ := bind_some h
      refine Wp.text [0, 1, 5, 7, 8, 16] rfl rfl ?_ -- region 4
      refine TextR.move rfl ?_
      refine TextR.move rfl ?_
      refine TextR.move rfl ?_
      refine TextR.indexA se25 rfl rfl rfl hx4 rfl ?_
      refine TextR.load1M tk3 rfl (at_get hx4) rfl ?_
      refine TextR.dcall rfl rfl (c_colour_Round_3 N x4 c0_0 c0_1 c1_0 l3 c4_0 y5 hy5) ?_
      refine TextR.done (.cons rfl (.cons rfl (.cons rfl (.cons rfl (.cons rfl (.cons rfl .nil)))))) ?_
      refine Wp.condM h rfl (fun hc3 h => ?_) (fun hc3 h => ?_)
      · refine Wp.seq ?_
        refine Wp.text [4] rfl rfl ?_ -- region 5
        refine TextR.move rfl ?_
        refine TextR.assign rfl ?_
        refine TextR.done (.cons rfl .nil) ?_
        refine Wp.ret ?_
        exact ⟨_, (Option.some.inj h).symm, Ret.one rfl (resV_tmp rfl) ⟨rfl, _, rfl⟩⟩
      · refine Wp.skip ?_
        refine Wp.text [0, 1, 7, 8] rfl rfl ?_ -- region 6
        refine TextR.int rfl rfl rfl ?_
        refine TextR.move rfl ?_
        refine TextR.done (.cons rfl (.cons rfl (.cons rfl (.cons rfl .nil)))) ?_
        exact ⟨m1, Nat.lt_succ_self _, _, (keepW (live := [0, 1, 7, 8]) (.cons rfl (.cons rfl (.cons rfl (.cons rfl .nil))))), _, h, rfl⟩
    · refine Wp.exit ?_
      exact ⟨_, (Option.some.inj h).symm, _, (keepW (live := []) .nil), rfl⟩
  · rintro _ ⟨z3, rfl, _, hw, rfl⟩
    dsimp only at h
    clear hz1
    refine Wp.weak hw ?_
    refine Wp.seq ?_
    refine Wp.text [4] rfl rfl ?_ -- region 7
    refine TextR.assign rfl ?_
    refine TextR.done (.cons rfl .nil) ?_
    refine Wp.ret ?_
    obtain rfl := Option.some.inj h
    exact Ret.one rfl (resV_tmp rfl) ⟨rfl, _, rfl⟩
  · rintro S' ⟨r2, rfl, hR⟩
    dsimp only at h
    obtain rfl := Option.some.inj h
    exact hR
theorem c_slices_IndexFunc_int_4 (N : Nat) (a0 : List Int) (c0_0 : Int) (c0_1 : List TEdge) (c1_0 : List Int) (l3 : List Int) (c4_0 : Int) {w3 : Nat} (r : Int) (h : slices_IndexFunc_int_4 N a0 c0_0 c0_1 c1_0 l3 c4_0 = some r) : DCall Try.prog 43 [.c (.slv (a0.map eI)), .c (.clo 31 [.ptr 1 0 0 0, .ptr 2 0 0 0, .ptr 4 0 0 0])] [.live 0 2 [[I c0_0, .slv (c0_1.map eEdge)]], .live 0 1 [[.slv (c1_0.map eI)]], .live 0 1 [[.sl 3 w3 0 l3.length]], .live w3 1 (l3.map eI), .live 0 1 [[I c4_0]]] (.c (I r)) := Call.trim (by simp) (by first | rfl | simp [-List.map_set]) (by first | rfl | simp [-List.map_set]) (w_slices_IndexFunc_int_4 N a0 c0_0 c0_1 c1_0 l3 c4_0 r h)
-- slices.ContainsFunc[[]int,int]
theorem w_slices_ContainsFunc_int_4 (N : Nat) (a0 : List Int) (c0_0 : Int) (c0_1 : List TEdge) (c1_0 : List Int) (l3 : List Int) (c4_0 : Int) {w3 : Nat} (r : Bool) (h : slices_ContainsFunc_int_4 N a0 c0_0 c0_1 c1_0 l3 c4_0 = some r) : Nx.Call Try.prog 26 [.c (.slv (a0.map eI)), .c (.clo 31 [.ptr 1 0 0 0, .ptr 2 0 0 0, .ptr 4 0 0 0])] [.live 0 2 [[I c0_0, .slv (c0_1.map eEdge)]], .live 0 1 [[.slv (c1_0.map eI)]], .live 0 1 [[.sl 3 w3 0 l3.length]], .live w3 1 (l3.map eI), .live 0 1 [[I c4_0]]] fun r' H' => r' = .c (B r) ∧ ∃ junk, H' = [.live 0 2 [[I c0_0, .slv (c0_1.map eEdge)]], .live 0 1 [[.slv (c1_0.map eI)]], .live 0 1 [[.sl 3 w3 0 l3.length]], .live w3 1 (l3.map eI), .live 0 1 [[I c4_0]]] ++ junk := by
  refine Nx.Call.of_body Try.func26 rfl en26 Try.ntmps26 rfl (fun Γ hok => ?_)
  unfold slices_ContainsFunc_int_4 at h
  refine Wp.seq ?_
  refine Wp.text [0, 1] rfl rfl ?_ -- region 0
  refine TextR.assign rfl ?_
  refine TextR.done (.cons rfl (.cons rfl .nil)) ?_
  refine Wp.seq ?_
  obtain ⟨y1, hy1, h⟩ := bind_some h
  refine Wp.text [4] rfl rfl ?_ -- region 1
  refine TextR.move rfl ?_
  refine TextR.move rfl ?_
  refine TextR.dcall rfl rfl (c_slices_IndexFunc_int_4 N a0 c0_0 c0_1 c1_0 l3 c4_0 y1 hy1) ?_
  refine TextR.int rfl rfl rfl ?_
  refine TextR.assign rfl ?_
  refine TextR.done (.cons rfl .nil) ?_
  refine Wp.ret ?_
  obtain rfl := Option.some.inj h
  exact Ret.one rfl (resV_tmp rfl) ⟨rfl, _, rfl⟩
theorem c_slices_ContainsFunc_int_4 (N : Nat) (a0 : List Int) (c0_0 : Int) (c0_1 : List TEdge) (c1_0 : List Int) (l3 : List Int) (c4_0 : Int) {w3 : Nat} (r : Bool) (h : slices_ContainsFunc_int_4 N a0 c0_0 c0_1 c1_0 l3 c4_0 = some r) : DCall Try.prog 26 [.c (.slv (a0.map eI)), .c (.clo 31 [.ptr 1 0 0 0, .ptr 2 0 0 0, .ptr 4 0 0 0])] [.live 0 2 [[I c0_0, .slv (c0_1.map eEdge)]], .live 0 1 [[.slv (c1_0.map eI)]], .live 0 1 [[.sl 3 w3 0 l3.length]], .live w3 1 (l3.map eI), .live 0 1 [[I c4_0]]] (.c (B r)) := Call.trim (by simp) (by first | rfl | simp [-List.map_set]) (by first | rfl | simp [-List.map_set]) (w_slices_ContainsFunc_int_4 N a0 c0_0 c0_1 c1_0 l3 c4_0 r h)
-- narthex/colour.Round
theorem w_colour_Round (N : Nat) (a0 : TGraph) (a1 : List Int) (r : (List Int) × Int) (h : colour_Round N a0 a1 = some r) : Nx.Call Try.prog 11 [.agg (eGraph a0), .c (.slv (a1.map eI))] [] fun r' _ => r' = .tup [.c (.slv (r.1.map eI)), .c (I r.2)] := by
  refine Nx.Call.of_body Try.func11 rfl en11 Try.ntmps11 rfl (fun Γ hok => ?_)
  unfold colour_Round at h
  refine Wp.seq ?_
  refine Wp.text [2, 3] rfl rfl ?_ -- region 0
  refine TextR.box (cs := [I a0.N, .slv (a0.Edges.map eEdge)]) 0 rfl rfl rfl rfl .nil ?_
  refine TextR.box (cs := [.slv (a1.map eI)]) 1 rfl rfl rfl rfl (.cons .nil) ?_
  refine TextR.assign rfl ?_
  refine TextR.assign rfl ?_
  refine TextR.done (.cons rfl (.cons rfl .nil)) ?_
  refine Wp.seq ?_
  refine Wp.seq ?_
  obtain ⟨y1, hy1, h⟩ := bind_some h
  refine Wp.text [2, 3, 6] rfl rfl ?_ -- region 1
  refine TextR.loadN (cs := [I a0.N, .slv (a0.Edges.map eEdge)]) tk24 rfl rfl ?_
  refine TextR.dcall rfl rfl (c_graph_Check N a0 y1 hy1 _) ?_
  refine TextR.assign rfl ?_
  refine TextR.done (.cons rfl (.cons rfl (.cons rfl .nil))) ?_
  refine Wp.seq ?_
  refine Wp.text [2, 3, 6, 13] rfl rfl ?_ -- region 2
  refine TextR.move rfl ?_
  refine TextR.int rfl rfl rfl ?_
  refine TextR.done (.cons rfl (.cons rfl (.cons rfl (.cons rfl .nil)))) ?_
  refine Wp.condM h rfl (fun hc1 h => ?_) (fun hc1 h => ?_)
  · refine Wp.seq ?_
    refine Wp.text [4, 5] rfl rfl ?_ -- region 3
    refine TextR.move rfl ?_
    refine TextR.assign rfl ?_
    refine TextR.assign rfl ?_
    refine TextR.done (.cons rfl (.cons rfl .nil)) ?_
    refine Wp.weak (keepW (live := [4, 5] ) (.cons rfl (.cons rfl .nil))) ?_
    refine Wp.weak (nzT (e' := [(4, .c (.slv ([].map eI))), (5, .c (I y1))]) (H' := [.live 0 2 [[I a0.N, .slv (a0.Edges.map eEdge)]], .live 0 1 [[.slv (a1.map eI)]]]) (by first | rfl | simp [-List.map_set]) (by first | rfl | simp [-List.map_set])) ?_
    refine Wp.ret ?_
    obtain rfl := Option.some.inj h
    exact Ret.two rfl (resV_tmp rfl) (resV_tmp rfl) rfl
  · refine Wp.skip ?_
    refine Wp.seq ?_
    refine Wp.seq ?_
    obtain ⟨y2, hy2, h⟩ := bind_some h
    refine Wp.go false none [[], [], [], [], [], [], [(20, false)], [(20, false)], []] [] [2, 3, 23] mixed rfl rfl (by kernel_rfl) ?_ -- region 4
    refine RunR.load1 tk25 rfl rfl rfl rfl ?_
    refine RunR.lenM us25 rfl rfl rfl rfl ?_
    refine RunR.fieldAddr fo24_0 rfl rfl rfl rfl rfl ?_
    refine RunR.load1 tk3 rfl rfl rfl rfl ?_
    refine RunR.int rfl rfl rfl rfl rfl ?_
    refine RunR.move rfl rfl rfl ?_
    refine RunR.load1 tk25 rfl rfl rfl rfl ?_
    refine RunR.callG rfl rfl rfl (fun hb H => c_slices_ContainsFunc_int N a1 y2 (ifT hy2 gF hb) H) ?_
    refine RunR.pickOr rfl rfl rfl rfl ?_
    refine RunR.doneQ (.cons rfl (.cons rfl (.cons rfl .nil))) ?_
    refine Wp.condM h rfl (fun hc2 h => ?_) (fun hc2 h => ?_)
    · refine Wp.seq ?_
      refine Wp.text [4, 5] rfl rfl ?_ -- region 5
      refine TextR.assign rfl ?_
      refine TextR.assign rfl ?_
      refine TextR.done (.cons rfl (.cons rfl .nil)) ?_
      refine Wp.weak (keepW (live := [4, 5] ) (.cons rfl (.cons rfl .nil))) ?_
      refine Wp.weak (nzT (e' := [(4, .c (.slv ([].map eI))), (5, .c (I 110))]) (H' := [.live 0 2 [[I a0.N, .slv (a0.Edges.map eEdge)]], .live 0 1 [[.slv (a1.map eI)]]]) (by first | rfl | simp [-List.map_set]) (by first | rfl | simp [-List.map_set])) ?_
      refine Wp.ret ?_
      obtain rfl := Option.some.inj h
      exact Ret.two rfl (resV_tmp rfl) (resV_tmp rfl) rfl
    · refine Wp.skip ?_
      refine Wp.seq ?_
      obtain ⟨y3, hy3, h⟩ := bind_some h
      refine Wp.text [2, 3, 7] rfl rfl ?_ -- region 6
      refine TextR.load1 tk25 rfl rfl ?_
      refine TextR.call rfl rfl (by exact o_slices_Clone_int N a1 y3 hy3 2 rfl (.cons (.cons .nil))) (fun x H' hk => ?_)
      obtain ⟨rfl, rfl⟩ := hk
      refine TextR.alloc 3 zc25 rfl rfl (.cons (.cons (.cons .nil))) ?_
      refine TextR.store1 tk25 rfl rfl rfl rfl rfl rfl (.succ (.succ (.succ .zero))) ?_
      refine TextR.done (.cons rfl (.cons rfl (.cons rfl .nil))) ?_
      refine Wp.seq ?_
      refine Wp.seq ?_
      refine Wp.text [2, 3, 7, 27, 28] rfl rfl ?_ -- region 7
      refine TextR.fieldAddr fo24_0 rfl rfl rfl ?_
      refine TextR.load1 tk3 rfl rfl ?_
      refine TextR.move rfl ?_
      refine TextR.done (.cons rfl (.cons rfl (.cons rfl (.cons rfl (.cons rfl .nil))))) ?_
      obtain ⟨z4, hz4, h⟩ := bind_some h
      refine Wp.fragN (fun S => ∃ S', St.Weak ⟨Try.prog, 58, Γ⟩ S S' ∧ S' = ⟨[(7, .c (.ptr 0 0 0 0))], [.live 0 1 [[.sl 1 1 0 z4.length]], .live 1 1 (z4.map eI)]⟩) ?_ ?_
      · replace h := hz4
        refine Wp.block ?_
        refine Wp.weak (St.Weak.trans (keepW (live := [2, 3, 7, 27, 28]) (.cons rfl (.cons rfl (.cons rfl (.cons rfl (.cons rfl .nil)))))) (pickT (e' := [(2, .c (.ptr 0 0 0 0)), (3, .c (.ptr 1 0 0 0)), (7, .c (.ptr 2 0 0 0)), (27, .c (I a0.N)), (28, .c (I 0))]) (H' := [.live 0 2 [[I a0.N, .slv (a0.Edges.map eEdge)]], .live 0 1 [[.slv (a1.map eI)]], .live 0 1 [[.sl 3 1 0 y3.length]], .live 1 1 (y3.map eI)]) [0, 1, 3, 2] [0, 1, 3, 2] 0 hok.len.symm rfl rfl (by decide) (by first | rfl | simp [-List.map_set]) (by first | rfl | simp [-List.map_set]) (by first | rfl | simp [-List.map_set]) (by first | rfl | simp [-List.map_set]))) ?_
        refine Wp.loop (fun m S => ∃ l3_1, ∃ s28_1, colour_Round_L1 N a0 a1 m l3_1 s28_1 = some z4 ∧ S = ⟨[(2, .c (.ptr 0 0 0 0)), (3, .c (.ptr 1 0 0 0)), (7, .c (.ptr 2 0 0 0)), (27, .c (I a0.N)), (28, .c (I s28_1))], [.live 0 2 [[I a0.N, .slv (a0.Edges.map eEdge)]], .live 0 1 [[.slv (a1.map eI)]], .live 0 1 [[.sl 3 1 0 l3_1.length]], .live 1 1 (l3_1.map eI)]⟩) N ⟨_, _, h, rfl⟩ ?_
        rintro m1 _ ⟨l3_1, s28_1, h, rfl⟩
        cases m1 with
        | zero => rw [colour_Round_L1.eq_1] at h; cases h
        | succ m1 =>
        rw [colour_Round_L1.eq_2] at h
        refine Wp.seq ?_
        refine Wp.text [2, 3, 7, 27, 28, 29] rfl rfl ?_ -- region 8
        refine TextR.int rfl rfl rfl ?_
        refine TextR.done (.cons rfl (.cons rfl (.cons rfl (.cons rfl (.cons rfl (.cons rfl .nil)))))) ?_
        refine Wp.seq ?_
        refine Wp.condM h rfl (fun hc4 h => ?_) (fun hc4 h => ?_)
        · refine Wp.skip ?_
          refine Wp.seq ?_
          refine Wp.block ?_
          refine Wp.seq ?_
          refine Wp.text [2, 3, 7, 8, 27, 28] rfl rfl ?_ -- region 9
          refine TextR.move rfl ?_
          refine TextR.alloc 4 zc3 rfl rfl (.cons (.cons (.cons (.cons .nil)))) ?_
          refine TextR.store1 tk3 rfl rfl rfl rfl rfl rfl (.succ (.succ (.succ (.succ .zero)))) ?_
          refine TextR.done (.cons rfl (.cons rfl (.cons rfl (.cons rfl (.cons rfl (.cons rfl .nil)))))) ?_
          refine Wp.seq ?_
          obtain ⟨y5, hy5, h⟩ := bind_some h
          refine Wp.text [2, 3, 7, 8, 9, 27, 28] rfl rfl ?_ -- region 10
          refine TextR.loadN (cs := [I a0.N, .slv (a0.Edges.map eEdge)]) tk24 rfl rfl ?_
          refine TextR.load1 tk3 rfl rfl ?_
          refine TextR.dcall rfl rfl (c_graph_Near N a0 s28_1 y5 hy5 _) ?_
          refine TextR.assign rfl ?_
          refine TextR.done (.cons rfl (.cons rfl (.cons rfl (.cons rfl (.cons rfl (.cons rfl (.cons rfl .nil))))))) ?_
          refine Wp.seq ?_
          refine Wp.seq ?_
          obtain ⟨x6, hx6, h⟩ := bind_some h
          obtain ⟨y7, hy7, h⟩ := bind_some h
          refine Wp.go false none [[], [], [], [], [], [], [(39, false)], [(39, false)], [(39, false)], []] [] [2, 3, 7, 8, 9, 27, 28, 43] mixed rfl rfl (by kernel_rfl) ?_ -- region 11
          refine RunR.load1 tk25 rfl rfl rfl rfl ?_
          refine RunR.load1 tk3 rfl rfl rfl rfl ?_
          refine RunR.indexA se25 rfl rfl rfl rfl rfl hx6 rfl ?_
          refine RunR.load1M tk3 rfl rfl rfl (at_get hx6) rfl ?_
          refine RunR.int rfl rfl rfl rfl rfl ?_
          refine RunR.move rfl rfl rfl ?_
          refine RunR.move rfl rfl rfl ?_
          refine RunR.makeFunc rfl rfl rfl ?_
          refine RunR.callH rfl rfl rfl rfl (fun hb => c_slices_ContainsFunc_int_3 N y5 a0.N a0.Edges a1 l3_1 s28_1 y7 (ifT hy7 gF hb)) ?_
          refine RunR.pickOr rfl rfl rfl rfl ?_
          refine RunR.doneQ (.cons rfl (.cons rfl (.cons rfl (.cons rfl (.cons rfl (.cons rfl (.cons rfl (.cons rfl .nil)))))))) ?_
          refine Wp.condM h rfl (fun hc5 h => ?_) (fun hc5 h => ?_)
          · refine Wp.exit ?_
            refine Wp.text [2, 3, 7, 27, 28] rfl rfl ?_ -- region 15
            refine TextR.int rfl rfl rfl ?_
            refine TextR.move rfl ?_
            refine TextR.done (.cons rfl (.cons rfl (.cons rfl (.cons rfl (.cons rfl .nil))))) ?_
            exact ⟨m1, Nat.lt_succ_self _, _, (St.Weak.trans (keepW (live := [2, 3, 7, 27, 28]) (.cons rfl (.cons rfl (.cons rfl (.cons rfl (.cons rfl .nil)))))) (pickT (e' := [(2, .c (.ptr 0 0 0 0)), (3, .c (.ptr 1 0 0 0)), (7, .c (.ptr 2 0 0 0)), (27, .c (I a0.N)), (28, .c (I (w64 (s28_1 + 1))))]) (H' := [.live 0 2 [[I a0.N, .slv (a0.Edges.map eEdge)]], .live 0 1 [[.slv (a1.map eI)]], .live 0 1 [[.sl 3 1 0 l3_1.length]], .live 1 1 (l3_1.map eI)]) [0, 1, 2, 3] [0, 1, 2, 3, 0] 0 hok.len.symm rfl rfl (by decide) (by first | rfl | simp [-List.map_set]) (by first | rfl | simp [-List.map_set]) (by first | rfl | simp [-List.map_set]) (by first | rfl | simp [-List.map_set]))), _, _, h, rfl⟩
          · refine Wp.skip ?_
            refine Wp.seq ?_
            obtain ⟨x8, hx8, h⟩ := bind_some h
            refine Wp.text [2, 3, 7, 8, 9, 27, 28] rfl rfl ?_ -- region 12
            refine TextR.load1 tk25 rfl rfl ?_
            refine TextR.load1 tk3 rfl rfl ?_
            refine TextR.indexOA se25 rfl rfl rfl hx8 ?_
            refine TextR.storeO 1 tk3 rfl rfl rfl rfl rfl (at_get hx8) rfl rfl (.succ (.succ (.succ .zero))) ?_
            refine TextR.done (.cons rfl (.cons rfl (.cons rfl (.cons rfl (.cons rfl (.cons rfl (.cons rfl .nil))))))) ?_
            refine Wp.weak (eqW (S' := ⟨[(2, .c (.ptr 0 0 0 0)), (3, .c (.ptr 1 0 0 0)), (7, .c (.ptr 2 0 0 0)), (8, .c (.ptr 4 0 0 0)), (9, .c (.slv (y5.map eI))), (27, .c (I a0.N)), (28, .c (I s28_1))], [.live 0 2 [[I a0.N, .slv (a0.Edges.map eEdge)]], .live 0 1 [[.slv (a1.map eI)]], .live 0 1 [[.sl 3 1 0 (l3_1.set s28_1.toNat 1).length]], .live 1 1 ((l3_1.set s28_1.toNat 1).map eI), .live 0 1 [[I s28_1]]]⟩) (by first | rfl | (simp only [List.length_set]; done) | (simp only [List.length_set]; rfl))) ?_
            obtain ⟨z9, hz9, h⟩ := bind_some h
            refine Wp.fragN (fun S => ∃ S', St.Weak ⟨Try.prog, 58, Γ⟩ S S' ∧ S' = ⟨[(2, .c (.ptr 0 0 0 0)), (3, .c (.ptr 1 0 0 0)), (7, .c (.ptr 2 0 0 0)), (27, .c (I a0.N)), (28, .c (I s28_1))], [.live 0 2 [[I a0.N, .slv (a0.Edges.map eEdge)]], .live 0 1 [[.slv (a1.map eI)]], .live 0 1 [[.sl 3 1 0 z9.length]], .live 1 1 (z9.map eI)]⟩) ?_ ?_
            · replace h := hz9
              refine Wp.block ?_
              refine Wp.weak (keepW (live := [2, 3, 7, 8, 9, 27, 28]) (.cons rfl (.cons rfl (.cons rfl (.cons rfl (.cons rfl (.cons rfl (.cons rfl .nil)))))))) ?_
              refine Wp.loop (fun m S => ∃ l3_2, colour_Round_L2 N a0 a1 s28_1 y5 m l3_2 = some z9 ∧ S = ⟨[(2, .c (.ptr 0 0 0 0)), (3, .c (.ptr 1 0 0 0)), (7, .c (.ptr 2 0 0 0)), (8, .c (.ptr 4 0 0 0)), (9, .c (.slv (y5.map eI))), (27, .c (I a0.N)), (28, .c (I s28_1))], [.live 0 2 [[I a0.N, .slv (a0.Edges.map eEdge)]], .live 0 1 [[.slv (a1.map eI)]], .live 0 1 [[.sl 3 1 0 l3_2.length]], .live 1 1 (l3_2.map eI), .live 0 1 [[I s28_1]]]⟩) N ⟨_, h, rfl⟩ ?_
              rintro m2 _ ⟨l3_2, h, rfl⟩
              cases m2 with
              | zero => rw [colour_Round_L2.eq_1] at h; cases h
              | succ m2 =>
              rw [colour_Round_L2.eq_2] at h
              refine Wp.seq ?_
              refine Wp.seq ?_
              obtain ⟨y10, hy10, h⟩ := bind_some h
              refine Wp.text [2, 3, 7, 8, 9, 27, 28, 49] rfl rfl ?_ -- region 13
              refine TextR.move rfl ?_
              refine TextR.makeFunc rfl ?_
              refine TextR.dcall rfl rfl (c_slices_ContainsFunc_int_4 N y5 a0.N a0.Edges a1 l3_2 s28_1 y10 hy10) ?_
              refine TextR.done (.cons rfl (.cons rfl (.cons rfl (.cons rfl (.cons rfl (.cons rfl (.cons rfl (.cons rfl .nil)))))))) ?_
              refine Wp.condM h rfl (fun hc7 h => ?_) (fun hc7 h => ?_)
              · refine Wp.skip ?_
                refine Wp.block ?_
                obtain ⟨x11, hx11, h⟩ := bind_some h
                obtain ⟨x12, hx12, h⟩ := bind_some h
                refine Wp.text [2, 3, 7, 8, 9, 27, 28] rfl rfl ?_ -- region 14
                refine TextR.load1 tk25 rfl rfl ?_
                refine TextR.load1 tk3 rfl rfl ?_
                refine TextR.indexOA se25 rfl rfl rfl hx11 ?_
                refine TextR.load1O tk3 rfl rfl (at_get hx11) rfl ?_
                refine TextR.int rfl rfl rfl ?_
                refine TextR.indexOA se25 rfl rfl rfl hx12 ?_
                refine TextR.storeO (w64 (x11 + 1)) tk3 rfl rfl rfl rfl rfl (at_get hx12) rfl rfl (.succ (.succ (.succ .zero))) ?_
                refine TextR.done (.cons rfl (.cons rfl (.cons rfl (.cons rfl (.cons rfl (.cons rfl (.cons rfl .nil))))))) ?_
                exact ⟨m2, Nat.lt_succ_self _, _, (St.Weak.trans (eqW (S' := ⟨[(2, .c (.ptr 0 0 0 0)), (3, .c (.ptr 1 0 0 0)), (7, .c (.ptr 2 0 0 0)), (8, .c (.ptr 4 0 0 0)), (9, .c (.slv (y5.map eI))), (27, .c (I a0.N)), (28, .c (I s28_1))], [.live 0 2 [[I a0.N, .slv (a0.Edges.map eEdge)]], .live 0 1 [[.slv (a1.map eI)]], .live 0 1 [[.sl 3 1 0 (l3_2.set s28_1.toNat (w64 (x11 + 1))).length]], .live 1 1 ((l3_2.set s28_1.toNat (w64 (x11 + 1))).map eI), .live 0 1 [[I s28_1]]]⟩) (by first | rfl | (simp only [List.length_set]; done) | (simp only [List.length_set]; rfl))) (keepW (live := [2, 3, 7, 8, 9, 27, 28]) (.cons rfl (.cons rfl (.cons rfl (.cons rfl (.cons rfl (.cons rfl (.cons rfl .nil))))))))), _, h, rfl⟩
              · refine Wp.exit ?_
                obtain rfl := Option.some.inj h
                exact ⟨_, (St.Weak.trans (keepW (live := [2, 3, 7, 27, 28]) (.cons rfl (.cons rfl (.cons rfl (.cons rfl (.cons rfl .nil)))))) (pickT (e' := [(2, .c (.ptr 0 0 0 0)), (3, .c (.ptr 1 0 0 0)), (7, .c (.ptr 2 0 0 0)), (27, .c (I a0.N)), (28, .c (I s28_1))]) (H' := [.live 0 2 [[I a0.N, .slv (a0.Edges.map eEdge)]], .live 0 1 [[.slv (a1.map eI)]], .live 0 1 [[.sl 3 1 0 l3_2.length]], .live 1 1 (l3_2.map eI)]) [0, 1, 2, 3] [0, 1, 2, 3, 0] 0 hok.len.symm rfl rfl (by decide) (by first | rfl | simp [-List.map_set]) (by first | rfl | simp [-List.map_set]) (by first | rfl | simp [-List.map_set]) (by first | rfl | simp [-List.map_set]))), rfl⟩
            rintro _ ⟨S', hw, rfl⟩
            clear hz9
            refine Wp.weak hw ?_
            refine Wp.text [2, 3, 7, 27, 28] rfl rfl ?_ -- region 15
            refine TextR.int rfl rfl rfl ?_
            refine TextR.move rfl ?_
            refine TextR.done (.cons rfl (.cons rfl (.cons rfl (.cons rfl (.cons rfl .nil))))) ?_
            exact ⟨m1, Nat.lt_succ_self _, _, (keepW (live := [2, 3, 7, 27, 28]) (.cons rfl (.cons rfl (.cons rfl (.cons rfl (.cons rfl .nil)))))), _, _, h, rfl⟩
        · refine Wp.exit ?_
          obtain rfl := Option.some.inj h
          exact ⟨_, (St.Weak.trans (keepW (live := [7]) (.cons rfl .nil)) (pickT (e' := [(7, .c (.ptr 0 0 0 0))]) (H' := [.live 0 1 [[.sl 1 1 0 l3_1.length]], .live 1 1 (l3_1.map eI)]) [2, 3] [0, 0, 0, 1] 0 hok.len.symm rfl rfl (by decide) (by first | rfl | simp [-List.map_set]) (by first | rfl | simp [-List.map_set]) (by first | rfl | simp [-List.map_set]) (by first | rfl | simp [-List.map_set]))), rfl⟩
      rintro _ ⟨S', hw, rfl⟩
      clear hz4
      refine Wp.weak hw ?_
      refine Wp.seq ?_
      refine Wp.text [4, 5] rfl rfl ?_ -- region 16
      refine TextR.load1 tk25 rfl rfl ?_
      refine TextR.assign rfl ?_
      refine TextR.assign rfl ?_
      refine TextR.done (.cons rfl (.cons rfl .nil)) ?_
      refine Wp.weak (keepW (live := [4, 5] ) (.cons rfl (.cons rfl .nil))) ?_
      refine Wp.weak (freezeW (h := 1) (ver := 1) (rows := z4.map eI) (e' := [(4, .c (.slv (z4.map eI))), (5, .c (I 0))]) (H' := [.live 0 1 [[.slv (z4.map eI)]], .dead]) rfl (by first | rfl | simp [-List.map_set]) (by first | rfl | simp [-List.map_set])) ?_
      refine Wp.ret ?_
      obtain rfl := Option.some.inj h
      exact Ret.two rfl (resV_tmp rfl) (resV_tmp rfl) rfl
theorem c_colour_Round (N : Nat) (a0 : TGraph) (a1 : List Int) (r : (List Int) × Int) (h : colour_Round N a0 a1 = some r) (H : List Ob) : DCall Try.prog 11 [.agg (eGraph a0), .c (.slv (a1.map eI))] H (.tup [.c (.slv (r.1.map eI)), .c (I r.2)]) := DCall.lift (by first | rfl | simp [-List.map_set]) (by first | rfl | simp [-List.map_set]) (fun _ => by simp [-List.map_set]) (w_colour_Round N a0 a1 r h) H
-- narthex/colour.Run
theorem w_colour_Run (N : Nat) (a0 : TGraph) (r : (List Int) × Int × Int) (h : colour_Run N a0 = some r) : Nx.Call Try.prog 21 [.agg (eGraph a0)] [] fun r' _ => r' = .tup [.c (.slv (r.1.map eI)), .c (I r.2.1), .c (I r.2.2)] := by
  refine Nx.Call.of_body Try.func21 rfl en21 Try.ntmps21 rfl (fun Γ hok => ?_)
  unfold colour_Run at h
  refine Wp.seq ?_
  refine Wp.text [1] rfl rfl ?_ -- region 0
  refine TextR.box (cs := [I a0.N, .slv (a0.Edges.map eEdge)]) 0 rfl rfl rfl rfl .nil ?_
  refine TextR.assign rfl ?_
  refine TextR.assign rfl ?_
  refine TextR.assign rfl ?_
  refine TextR.done (.cons rfl .nil) ?_
  refine Wp.seq ?_
  refine Wp.seq ?_
  obtain ⟨y1, hy1, h⟩ := bind_some h
  refine Wp.text [1, 5] rfl rfl ?_ -- region 1
  refine TextR.loadN (cs := [I a0.N, .slv (a0.Edges.map eEdge)]) tk24 rfl rfl ?_
  refine TextR.dcall rfl rfl (c_graph_Check N a0 y1 hy1 _) ?_
  refine TextR.assign rfl ?_
  refine TextR.done (.cons rfl (.cons rfl .nil)) ?_
  refine Wp.seq ?_
  refine Wp.text [1, 5, 11] rfl rfl ?_ -- region 2
  refine TextR.move rfl ?_
  refine TextR.int rfl rfl rfl ?_
  refine TextR.done (.cons rfl (.cons rfl (.cons rfl .nil))) ?_
  refine Wp.condM h rfl (fun hc1 h => ?_) (fun hc1 h => ?_)
  · refine Wp.seq ?_
    refine Wp.text [2, 3, 4] rfl rfl ?_ -- region 3
    refine TextR.move rfl ?_
    refine TextR.assign rfl ?_
    refine TextR.assign rfl ?_
    refine TextR.assign rfl ?_
    refine TextR.done (.cons rfl (.cons rfl (.cons rfl .nil))) ?_
    refine Wp.weak (keepW (live := [2, 3, 4] ) (.cons rfl (.cons rfl (.cons rfl .nil)))) ?_
    refine Wp.weak (nzT (e' := [(2, .c (.slv ([].map eI))), (3, .c (I 0)), (4, .c (I y1))]) (H' := [.live 0 2 [[I a0.N, .slv (a0.Edges.map eEdge)]]]) (by first | rfl | simp [-List.map_set]) (by first | rfl | simp [-List.map_set])) ?_
    refine Wp.ret ?_
    obtain rfl := Option.some.inj h
    exact Ret.three rfl (resV_tmp rfl) (resV_tmp rfl) (resV_tmp rfl) rfl
  · refine Wp.skip ?_
    refine Wp.seq ?_
    obtain ⟨x2, hx2, h⟩ := bind_some h
    refine Wp.text [1, 6, 7] rfl rfl ?_ -- region 4
    refine TextR.fieldAddr fo24_0 rfl rfl rfl ?_
    refine TextR.load1 tk3 rfl rfl ?_
    refine TextR.makeM (f := eI) 1 se25 rfl rfl rfl rfl hx2 rfl (.cons .nil) ?_
    refine TextR.assign rfl ?_
    refine TextR.assign rfl ?_
    refine TextR.done (.cons rfl (.cons rfl (.cons rfl .nil))) ?_
    refine Wp.seq ?_
    obtain ⟨z3, hz3, h⟩ := bind_some h
    refine Wp.fragN (fun S => ∃ S', St.Weak ⟨Try.prog, 28, Γ⟩ S S' ∧ S' = ⟨[(6, .c (.slv (z3.1.map eI))), (7, .c (I z3.2))], []⟩) ?_ ?_
    · replace h := hz3
      refine Wp.block ?_
      refine Wp.weak (St.Weak.trans (keepW (live := [1, 6, 7]) (.cons rfl (.cons rfl (.cons rfl .nil)))) (St.Weak.trans (freezeW (h := 1) (ver := 0) (rows := x2.map eI) (e' := [(1, .c (.ptr 0 0 0 0)), (6, .c (.slv (x2.map eI))), (7, .c (I 0))]) (H' := [.live 0 2 [[I a0.N, .slv (a0.Edges.map eEdge)]], .dead]) rfl (by first | rfl | simp [-List.map_set]) (by first | rfl | simp [-List.map_set])) (St.Weak.trans (keepW (live := [1, 6, 7]) (.cons rfl (.cons rfl (.cons rfl .nil)))) (pickT (e' := [(1, .c (.ptr 0 0 0 0)), (6, .c (.slv (x2.map eI))), (7, .c (I 0))]) (H' := [.live 0 2 [[I a0.N, .slv (a0.Edges.map eEdge)]]]) [0] [0, 0] 0 hok.len.symm rfl rfl (by decide) (by first | rfl | simp [-List.map_set]) (by first | rfl | simp [-List.map_set]) (by first | rfl | simp [-List.map_set]) (by first | rfl | simp [-List.map_set]))))) ?_
      refine Wp.loop (fun m S => ∃ s6_1, ∃ s7_1, colour_Run_L1 N a0 m s6_1 s7_1 = some z3 ∧ S = ⟨[(1, .c (.ptr 0 0 0 0)), (6, .c (.slv (s6_1.map eI))), (7, .c (I s7_1))], [.live 0 2 [[I a0.N, .slv (a0.Edges.map eEdge)]]]⟩) N ⟨_, _, h, rfl⟩ ?_
      rintro m1 _ ⟨s6_1, s7_1, h, rfl⟩
      cases m1 with
      | zero => rw [colour_Run_L1.eq_1] at h; cases h
      | succ m1 =>
      rw [colour_Run_L1.eq_2] at h
      refine Wp.seq ?_
      refine Wp.seq ?_
      obtain ⟨y4, hy4, h⟩ := bind_some h
      refine Wp.text [1, 6, 7, 17] rfl rfl ?_ -- region 5
      refine TextR.move rfl ?_
      refine TextR.dcall rfl rfl (c_slices_Contains_int N s6_1 0 y4 hy4 _) ?_
      refine TextR.done (.cons rfl (.cons rfl (.cons rfl (.cons rfl .nil)))) ?_
      refine Wp.condM h rfl (fun hc3 h => ?_) (fun hc3 h => ?_)
      · refine Wp.skip ?_
        refine Wp.block ?_
        refine Wp.seq ?_
        obtain ⟨y5, hy5, h⟩ := bind_some h
        refine Wp.text [1, 6, 7] rfl rfl ?_ -- region 6
        refine TextR.loadN (cs := [I a0.N, .slv (a0.Edges.map eEdge)]) tk24 rfl rfl ?_
        refine TextR.move rfl ?_
        refine TextR.dcall rfl rfl (c_colour_Round N a0 s6_1 y5 hy5 _) ?_
        refine TextR.move rfl ?_
        refine TextR.extract rfl rfl ?_
        refine TextR.extract rfl rfl ?_
        refine TextR.assign rfl ?_
        refine TextR.done (.cons rfl (.cons rfl (.cons rfl .nil))) ?_
        refine Wp.text [1, 6, 7] rfl rfl ?_ -- region 7
        refine TextR.move rfl ?_
        refine TextR.int rfl rfl rfl ?_
        refine TextR.assign rfl ?_
        refine TextR.done (.cons rfl (.cons rfl (.cons rfl .nil))) ?_
        exact ⟨m1, Nat.lt_succ_self _, _, (keepW (live := [1, 6, 7]) (.cons rfl (.cons rfl (.cons rfl .nil)))), _, _, h, rfl⟩
      · refine Wp.exit ?_
        obtain rfl := Option.some.inj h
        exact ⟨_, (St.Weak.trans (keepW (live := [6, 7]) (.cons rfl (.cons rfl .nil))) (pickT (e' := [(6, .c (.slv (s6_1.map eI))), (7, .c (I s7_1))]) (H' := []) [] [0] 0 hok.len.symm rfl rfl (by decide) (by first | rfl | simp [-List.map_set]) (by first | rfl | simp [-List.map_set]) (by first | rfl | simp [-List.map_set]) (by first | rfl | simp [-List.map_set]))), rfl⟩
    rintro _ ⟨S', hw, rfl⟩
    clear hz3
    refine Wp.weak hw ?_
    refine Wp.seq ?_
    refine Wp.text [2, 3, 4] rfl rfl ?_ -- region 8
    refine TextR.move rfl ?_
    refine TextR.move rfl ?_
    refine TextR.assign rfl ?_
    refine TextR.assign rfl ?_
    refine TextR.assign rfl ?_
    refine TextR.done (.cons rfl (.cons rfl (.cons rfl .nil))) ?_
    refine Wp.ret ?_
    obtain rfl := Option.some.inj h
    exact Ret.three rfl (resV_tmp rfl) (resV_tmp rfl) (resV_tmp rfl) rfl
theorem c_colour_Run (N : Nat) (a0 : TGraph) (r : (List Int) × Int × Int) (h : colour_Run N a0 = some r) (H : List Ob) : DCall Try.prog 21 [.agg (eGraph a0)] H (.tup [.c (.slv (r.1.map eI)), .c (I r.2.1), .c (I r.2.2)]) := DCall.lift (by first | rfl | simp [-List.map_set]) (by first | rfl | simp [-List.map_set]) (fun _ => by simp [-List.map_set]) (w_colour_Run N a0 r h) H
-- narthex/narthexref01.Same
theorem w_narthexref01_Same (N : Nat) (a0 : List Int) (a1 : List Int) (r : Bool) (h : narthexref01_Same N a0 a1 = some r) : Nx.Call Try.prog 19 [.c (.slv (a0.map eI)), .c (.slv (a1.map eI))] [] fun r' _ => r' = .c (B r) := by
  refine Nx.Call.of_body Try.func19 rfl en19 Try.ntmps19 rfl (fun Γ hok => ?_)
  unfold narthexref01_Same at h
  refine Wp.seq ?_
  refine Wp.text [0, 1] rfl rfl ?_ -- region 0
  refine TextR.assign rfl ?_
  refine TextR.done (.cons rfl (.cons rfl .nil)) ?_
  refine Wp.seq ?_
  refine Wp.seq ?_
  refine Wp.text [0, 1, 10] rfl rfl ?_ -- region 1
  refine TextR.move rfl ?_
  refine TextR.lenM us25 rfl rfl ?_
  refine TextR.move rfl ?_
  refine TextR.lenM us25 rfl rfl ?_
  refine TextR.int rfl rfl rfl ?_
  refine TextR.done (.cons rfl (.cons rfl (.cons rfl .nil))) ?_
  refine Wp.condM h rfl (fun hc1 h => ?_) (fun hc1 h => ?_)
  · refine Wp.seq ?_
    refine Wp.text [4] rfl rfl ?_ -- region 2
    refine TextR.assign rfl ?_
    refine TextR.done (.cons rfl .nil) ?_
    refine Wp.ret ?_
    obtain rfl := Option.some.inj h
    exact Ret.one rfl (resV_tmp rfl) rfl
  · refine Wp.skip ?_
    refine Wp.seq ?_
    refine Wp.seq ?_
    refine Wp.text [0, 1, 5] rfl rfl ?_ -- region 3
    refine TextR.assign rfl ?_
    refine TextR.done (.cons rfl (.cons rfl (.cons rfl .nil))) ?_
    obtain ⟨z1, hz1, h⟩ := bind_some h
    refine Wp.fragR (fun S => ∃ z3, z1 = .inr z3 ∧ ∃ S', St.Weak ⟨Try.prog, 26, Γ⟩ S S' ∧ S' = ⟨[], []⟩) (fun S => ∃ v, z1 = .inl v ∧ Ret Try.prog Try.f19 (fun r' _ => r' = .c (B v)) .ret S) ?_ ?_ ?_
    · replace h := hz1
      refine Wp.block ?_
      refine Wp.weak (keepW (live := [0, 1, 5]) (.cons rfl (.cons rfl (.cons rfl .nil)))) ?_
      refine Wp.loop (fun m S => ∃ s5_1, narthexref01_Same_L1 N a0 a1 m s5_1 = some z1 ∧ S = ⟨[(0, .c (.slv (a0.map eI))), (1, .c (.slv (a1.map eI))), (5, .c (I s5_1))], []⟩) N ⟨_, h, rfl⟩ ?_
      rintro m1 _ ⟨s5_1, h, rfl⟩
      cases m1 with
      | zero => rw [narthexref01_Same_L1.eq_1] at h; cases h
      | succ m1 =>
      rw [narthexref01_Same_L1.eq_2] at h
      refine Wp.seq ?_
      refine Wp.seq ?_
      refine Wp.text [0, 1, 5, 14] rfl rfl ?_ -- region 4
      refine TextR.move rfl ?_
      refine TextR.move rfl ?_
      refine TextR.lenM us25 rfl rfl ?_
      refine TextR.int rfl rfl rfl ?_
      refine TextR.done (.cons rfl (.cons rfl (.cons rfl (.cons rfl .nil)))) ?_
      refine Wp.condM h rfl (fun hc3 h => ?_) (fun hc3 h => ?_)
      · refine Wp.skip ?_
        refine Wp.seq ?_
        refine Wp.block ?_
        refine Wp.seq ?_
        obtain ⟨x4, hx4, h⟩ := bind_some h
        obtain ⟨x5, hx5, h⟩ := bind_some h
        refine Wp.go true (some []) [] [] [0, 1, 5, 25] mixed rfl rfl (by kernel_rfl) ?_ -- region 6
        refine RunR.move rfl rfl rfl ?_
        refine RunR.move rfl rfl rfl ?_
        refine RunR.indexA se25 rfl rfl rfl rfl rfl hx4 rfl ?_
        refine RunR.load1M tk3 rfl rfl rfl (at_get hx4) rfl ?_
        refine RunR.move rfl rfl rfl ?_
        refine RunR.move rfl rfl rfl ?_
        refine RunR.indexA se25 rfl rfl rfl rfl rfl hx5 rfl ?_
        refine RunR.load1M tk3 rfl rfl rfl (at_get hx5) rfl ?_
        refine RunR.int rfl rfl rfl rfl rfl ?_
        refine RunR.doneQ (.cons rfl (.cons rfl (.cons rfl (.cons rfl .nil)))) ?_
        refine Wp.condM h rfl (fun hc4 h => ?_) (fun hc4 h => ?_)
        · refine Wp.seq ?_
          refine Wp.text [4] rfl rfl ?_ -- region 7
          refine TextR.assign rfl ?_
          refine TextR.done (.cons rfl .nil) ?_
          refine Wp.ret ?_
          exact ⟨_, (Option.some.inj h).symm, Ret.one rfl (resV_tmp rfl) rfl⟩
        · refine Wp.skip ?_
          refine Wp.text [0, 1, 5] rfl rfl ?_ -- region 5
          refine TextR.move rfl ?_
          refine TextR.int rfl rfl rfl ?_
          refine TextR.assign rfl ?_
          refine TextR.done (.cons rfl (.cons rfl (.cons rfl .nil))) ?_
          exact ⟨m1, Nat.lt_succ_self _, _, (keepW (live := [0, 1, 5]) (.cons rfl (.cons rfl (.cons rfl .nil)))), _, h, rfl⟩
      · refine Wp.exit ?_
        exact ⟨_, (Option.some.inj h).symm, _, (keepW (live := []) .nil), rfl⟩
    · rintro _ ⟨z3, rfl, _, hw, rfl⟩
      dsimp only at h
      clear hz1
      refine Wp.weak hw ?_
      refine Wp.seq ?_
      refine Wp.text [4] rfl rfl ?_ -- region 8
      refine TextR.assign rfl ?_
      refine TextR.done (.cons rfl .nil) ?_
      refine Wp.ret ?_
      obtain rfl := Option.some.inj h
      exact Ret.one rfl (resV_tmp rfl) rfl
    · rintro S' ⟨r2, rfl, hR⟩
      dsimp only at h
      obtain rfl := Option.some.inj h
      exact hR
theorem c_narthexref01_Same (N : Nat) (a0 : List Int) (a1 : List Int) (r : Bool) (h : narthexref01_Same N a0 a1 = some r) (H : List Ob) : DCall Try.prog 19 [.c (.slv (a0.map eI)), .c (.slv (a1.map eI))] H (.c (B r)) := DCall.lift (by first | rfl | simp [-List.map_set]) (by first | rfl | simp [-List.map_set]) (fun _ => by simp [-List.map_set]) (w_narthexref01_Same N a0 a1 r h) H
-- narthex/colour.Right$1
theorem w_colour_Right_1 (N : Nat) (a0 : Int) (r : Bool) (h : colour_Right_1 N a0 = some r) : Nx.Call Try.prog 32 [.c (I a0)] [] fun r' _ => r' = .c (B r) := by
  refine Nx.Call.of_body Try.func32 rfl en32 Try.ntmps32 rfl (fun Γ hok => ?_)
  unfold colour_Right_1 at h
  refine Wp.seq ?_
  refine Wp.text [0] rfl rfl ?_ -- region 0
  refine TextR.assign rfl ?_
  refine TextR.done (.cons rfl .nil) ?_
  refine Wp.seq ?_
  refine Wp.text [2] rfl rfl ?_ -- region 1
  refine TextR.move rfl ?_
  refine TextR.int rfl rfl rfl ?_
  refine TextR.assign rfl ?_
  refine TextR.done (.cons rfl .nil) ?_
  refine Wp.ret ?_
  obtain rfl := Option.some.inj h
  exact Ret.one rfl (resV_tmp rfl) rfl
theorem c_colour_Right_1 (N : Nat) (a0 : Int) (r : Bool) (h : colour_Right_1 N a0 = some r) (H : List Ob) : DCall Try.prog 32 [.c (I a0)] H (.c (B r)) := DCall.lift (by first | rfl | simp [-List.map_set]) (by first | rfl | simp [-List.map_set]) (fun _ => by simp [-List.map_set]) (w_colour_Right_1 N a0 r h) H
-- slices.IndexFunc[[]int,int]
theorem w_slices_IndexFunc_int_5 (N : Nat) (a0 : List Int) (r : Int) (h : slices_IndexFunc_int_5 N a0 = some r) : Nx.Call Try.prog 43 [.c (.slv (a0.map eI)), .c (.clo 32 [])] [] fun r' _ => r' = .c (I r) := by
  refine Nx.Call.of_body Try.func43 rfl en43 Try.ntmps43 rfl (fun Γ hok => ?_)
  unfold slices_IndexFunc_int_5 at h
  refine Wp.seq ?_
  refine Wp.text [0, 1] rfl rfl ?_ -- region 0
  refine TextR.assign rfl ?_
  refine TextR.done (.cons rfl (.cons rfl .nil)) ?_
  refine Wp.seq ?_
  refine Wp.seq ?_
  refine Wp.text [0, 1, 7, 8] rfl rfl ?_ -- region 1
  refine TextR.move rfl ?_
  refine TextR.lenM us25 rfl rfl ?_
  refine TextR.move rfl ?_
  refine TextR.done (.cons rfl (.cons rfl (.cons rfl (.cons rfl .nil)))) ?_
  obtain ⟨z1, hz1, h⟩ := bind_some h
  refine Wp.fragR (fun S => ∃ z3, z1 = .inr z3 ∧ ∃ S', St.Weak ⟨Try.prog, 19, Γ⟩ S S' ∧ S' = ⟨[], []⟩) (fun S => ∃ v, z1 = .inl v ∧ Ret Try.prog Try.f43 (fun r' _ => r' = .c (I v)) .ret S) ?_ ?_ ?_
  · replace h := hz1
    refine Wp.block ?_
    refine Wp.weak (keepW (live := [0, 1, 7, 8]) (.cons rfl (.cons rfl (.cons rfl (.cons rfl .nil))))) ?_
    refine Wp.loop (fun m S => ∃ s8_1, slices_IndexFunc_int_5_L1 N a0 m s8_1 = some z1 ∧ S = ⟨[(0, .c (.slv (a0.map eI))), (1, .c (.clo 32 [])), (7, .c (I (a0.length : Int))), (8, .c (I s8_1))], []⟩) N ⟨_, h, rfl⟩ ?_
    rintro m1 _ ⟨s8_1, h, rfl⟩
    cases m1 with
    | zero => rw [slices_IndexFunc_int_5_L1.eq_1] at h; cases h
    | succ m1 =>
    rw [slices_IndexFunc_int_5_L1.eq_2] at h
    refine Wp.seq ?_
    refine Wp.text [0, 1, 7, 8, 9] rfl rfl ?_ -- region 2
    refine TextR.int rfl rfl rfl ?_
    refine TextR.done (.cons rfl (.cons rfl (.cons rfl (.cons rfl (.cons rfl .nil))))) ?_
    refine Wp.seq ?_
    refine Wp.condM h rfl (fun hc2 h => ?_) (fun hc2 h => ?_)
    · refine Wp.skip ?_
      refine Wp.seq ?_
      refine Wp.block ?_
      refine Wp.seq ?_
      refine Wp.text [0, 1, 5, 7, 8] rfl rfl ?_ -- region 3
      refine TextR.move rfl ?_
      refine TextR.assign rfl ?_
      refine TextR.done (.cons rfl (.cons rfl (.cons rfl (.cons rfl (.cons rfl .nil))))) ?_
      refine Wp.seq ?_
      obtain ⟨x4, hx4, h⟩ := bind_some h
      obtain ⟨y5, hy5, h⟩ := bind_some h
      refine Wp.text [0, 1, 5, 7, 8, 16] rfl rfl ?_ -- region 4
      refine TextR.move rfl ?_
      refine TextR.move rfl ?_
      refine TextR.move rfl ?_
      refine TextR.indexA se25 rfl rfl rfl hx4 rfl ?_
      refine TextR.load1M tk3 rfl (at_get hx4) rfl ?_
      refine TextR.dcall rfl rfl (c_colour_Right_1 N x4 y5 hy5 _) ?_
      refine TextR.done (.cons rfl (.cons rfl (.cons rfl (.cons rfl (.cons rfl (.cons rfl .nil)))))) ?_
      refine Wp.condM h rfl (fun hc3 h => ?_) (fun hc3 h => ?_)
      · refine Wp.seq ?_
        refine Wp.text [4] rfl rfl ?_ -- region 5
        refine TextR.move rfl ?_
        refine TextR.assign rfl ?_
        refine TextR.done (.cons rfl .nil) ?_
        refine Wp.ret ?_
        exact ⟨_, (Option.some.inj h).symm, Ret.one rfl (resV_tmp rfl) rfl⟩
      · refine Wp.skip ?_
        refine Wp.text [0, 1, 7, 8] rfl rfl ?_ -- region 6
        refine TextR.int rfl rfl rfl ?_
        refine TextR.move rfl ?_
        refine TextR.done (.cons rfl (.cons rfl (.cons rfl (.cons rfl .nil)))) ?_
        exact ⟨m1, Nat.lt_succ_self _, _, (keepW (live := [0, 1, 7, 8]) (.cons rfl (.cons rfl (.cons rfl (.cons rfl .nil))))), _, h, rfl⟩
    · refine Wp.exit ?_
      exact ⟨_, (Option.some.inj h).symm, _, (keepW (live := []) .nil), rfl⟩
  · rintro _ ⟨z3, rfl, _, hw, rfl⟩
    dsimp only at h
    clear hz1
    refine Wp.weak hw ?_
    refine Wp.seq ?_
    refine Wp.text [4] rfl rfl ?_ -- region 7
    refine TextR.assign rfl ?_
    refine TextR.done (.cons rfl .nil) ?_
    refine Wp.ret ?_
    obtain rfl := Option.some.inj h
    exact Ret.one rfl (resV_tmp rfl) rfl
  · rintro S' ⟨r2, rfl, hR⟩
    dsimp only at h
    obtain rfl := Option.some.inj h
    exact hR
theorem c_slices_IndexFunc_int_5 (N : Nat) (a0 : List Int) (r : Int) (h : slices_IndexFunc_int_5 N a0 = some r) (H : List Ob) : DCall Try.prog 43 [.c (.slv (a0.map eI)), .c (.clo 32 [])] H (.c (I r)) := DCall.lift (by first | rfl | simp [-List.map_set]) (by first | rfl | simp [-List.map_set]) (fun _ => by simp [-List.map_set]) (w_slices_IndexFunc_int_5 N a0 r h) H
-- slices.ContainsFunc[[]int,int]
theorem w_slices_ContainsFunc_int_5 (N : Nat) (a0 : List Int) (r : Bool) (h : slices_ContainsFunc_int_5 N a0 = some r) : Nx.Call Try.prog 26 [.c (.slv (a0.map eI)), .c (.clo 32 [])] [] fun r' _ => r' = .c (B r) := by
  refine Nx.Call.of_body Try.func26 rfl en26 Try.ntmps26 rfl (fun Γ hok => ?_)
  unfold slices_ContainsFunc_int_5 at h
  refine Wp.seq ?_
  refine Wp.text [0, 1] rfl rfl ?_ -- region 0
  refine TextR.assign rfl ?_
  refine TextR.done (.cons rfl (.cons rfl .nil)) ?_
  refine Wp.seq ?_
  obtain ⟨y1, hy1, h⟩ := bind_some h
  refine Wp.text [4] rfl rfl ?_ -- region 1
  refine TextR.move rfl ?_
  refine TextR.move rfl ?_
  refine TextR.dcall rfl rfl (c_slices_IndexFunc_int_5 N a0 y1 hy1 _) ?_
  refine TextR.int rfl rfl rfl ?_
  refine TextR.assign rfl ?_
  refine TextR.done (.cons rfl .nil) ?_
  refine Wp.ret ?_
  obtain rfl := Option.some.inj h
  exact Ret.one rfl (resV_tmp rfl) rfl
theorem c_slices_ContainsFunc_int_5 (N : Nat) (a0 : List Int) (r : Bool) (h : slices_ContainsFunc_int_5 N a0 = some r) (H : List Ob) : DCall Try.prog 26 [.c (.slv (a0.map eI)), .c (.clo 32 [])] H (.c (B r)) := DCall.lift (by first | rfl | simp [-List.map_set]) (by first | rfl | simp [-List.map_set]) (fun _ => by simp [-List.map_set]) (w_slices_ContainsFunc_int_5 N a0 r h) H
-- narthex/colour.Right$2
theorem w_colour_Right_2 (N : Nat) (a0 : TEdge) (c0_0 : Int) (c0_1 : List TEdge) (c1_0 : List Int) (r : Bool) (h : colour_Right_2 N a0 c0_0 c0_1 c1_0 = some r) : Nx.Call Try.prog 34 [.agg (eEdge a0), .c (.ptr 1 0 0 0)] [.live 0 2 [[I c0_0, .slv (c0_1.map eEdge)]], .live 0 1 [[.slv (c1_0.map eI)]]] fun r' H' => r' = .c (B r) ∧ ∃ junk, H' = [.live 0 2 [[I c0_0, .slv (c0_1.map eEdge)]], .live 0 1 [[.slv (c1_0.map eI)]]] ++ junk := by
  refine Nx.Call.of_body Try.func34 rfl en34 Try.ntmps34 rfl (fun Γ hok => ?_)
  unfold colour_Right_2 at h
  refine Wp.seq ?_
  refine Wp.text [1, 2] rfl rfl ?_ -- region 0
  refine TextR.box (cs := [I a0.A, I a0.B]) 2 rfl rfl rfl rfl (.cons (.cons .nil)) ?_
  refine TextR.assign rfl ?_
  refine TextR.done (.cons rfl (.cons rfl .nil)) ?_
  refine Wp.seq ?_
  obtain ⟨x1, hx1, h⟩ := bind_some h
  obtain ⟨x2, hx2, h⟩ := bind_some h
  refine Wp.go true (some []) [] [] [3] mixed rfl rfl (by kernel_rfl) ?_ -- region 1
  refine RunR.load1 tk25 rfl rfl rfl rfl ?_
  refine RunR.fieldAddr fo44_0 rfl rfl rfl rfl rfl ?_
  refine RunR.load1 tk3 rfl rfl rfl rfl ?_
  refine RunR.indexA se25 rfl rfl rfl rfl rfl hx1 rfl ?_
  refine RunR.load1M tk3 rfl rfl rfl (at_get hx1) rfl ?_
  refine RunR.load1 tk25 rfl rfl rfl rfl ?_
  refine RunR.fieldAddr fo44_1 rfl rfl rfl rfl rfl ?_
  refine RunR.load1 tk3 rfl rfl rfl rfl ?_
  refine RunR.indexA se25 rfl rfl rfl rfl rfl hx2 rfl ?_
  refine RunR.load1M tk3 rfl rfl rfl (at_get hx2) rfl ?_
  refine RunR.int rfl rfl rfl rfl rfl ?_
  refine RunR.assign rfl rfl rfl ?_
  refine RunR.doneQ (.cons rfl .nil) ?_
  refine Wp.ret ?_
  obtain rfl := Option.some.inj h
  exact Ret.one rfl (resV_tmp rfl) ⟨rfl, _, rfl⟩
theorem c_colour_Right_2 (N : Nat) (a0 : TEdge) (c0_0 : Int) (c0_1 : List TEdge) (c1_0 : List Int) (r : Bool) (h : colour_Right_2 N a0 c0_0 c0_1 c1_0 = some r) : DCall Try.prog 34 [.agg (eEdge a0), .c (.ptr 1 0 0 0)] [.live 0 2 [[I c0_0, .slv (c0_1.map eEdge)]], .live 0 1 [[.slv (c1_0.map eI)]]] (.c (B r)) := Call.trim (by simp) (by first | rfl | simp [-List.map_set]) (by first | rfl | simp [-List.map_set]) (w_colour_Right_2 N a0 c0_0 c0_1 c1_0 r h)
-- slices.IndexFunc[[]narthex/api.Edge,narthex/api.Edge]
theorem w_slices_IndexFunc_Edge_2 (N : Nat) (a0 : List TEdge) (c0_0 : Int) (c0_1 : List TEdge) (c1_0 : List Int) (r : Int) (h : slices_IndexFunc_Edge_2 N a0 c0_0 c0_1 c1_0 = some r) : Nx.Call Try.prog 45 [.c (.slv (a0.map eEdge)), .c (.clo 34 [.ptr 1 0 0 0])] [.live 0 2 [[I c0_0, .slv (c0_1.map eEdge)]], .live 0 1 [[.slv (c1_0.map eI)]]] fun r' H' => r' = .c (I r) ∧ ∃ junk, H' = [.live 0 2 [[I c0_0, .slv (c0_1.map eEdge)]], .live 0 1 [[.slv (c1_0.map eI)]]] ++ junk := by
  refine Nx.Call.of_body Try.func45 rfl en45 Try.ntmps45 rfl (fun Γ hok => ?_)
  unfold slices_IndexFunc_Edge_2 at h
  refine Wp.seq ?_
  refine Wp.text [0, 1] rfl rfl ?_ -- region 0
  refine TextR.assign rfl ?_
  refine TextR.done (.cons rfl (.cons rfl .nil)) ?_
  refine Wp.seq ?_
  refine Wp.seq ?_
  refine Wp.text [0, 1, 7, 8] rfl rfl ?_ -- region 1
  refine TextR.move rfl ?_
  refine TextR.lenM us22 rfl rfl ?_
  refine TextR.move rfl ?_
  refine TextR.done (.cons rfl (.cons rfl (.cons rfl (.cons rfl .nil)))) ?_
  obtain ⟨z1, hz1, h⟩ := bind_some h
  refine Wp.fragR (fun S => ∃ z3, z1 = .inr z3 ∧ ∃ S', St.Weak ⟨Try.prog, 19, Γ⟩ S S' ∧ S' = ⟨[], [.live 0 2 [[I c0_0, .slv (c0_1.map eEdge)]], .live 0 1 [[.slv (c1_0.map eI)]]]⟩) (fun S => ∃ v, z1 = .inl v ∧ Ret Try.prog Try.f45 (fun r' H' => r' = .c (I v) ∧ ∃ junk, H' = [.live 0 2 [[I c0_0, .slv (c0_1.map eEdge)]], .live 0 1 [[.slv (c1_0.map eI)]]] ++ junk) .ret S) ?_ ?_ ?_
  · replace h := hz1
    refine Wp.block ?_
    refine Wp.weak (keepW (live := [0, 1, 7, 8]) (.cons rfl (.cons rfl (.cons rfl (.cons rfl .nil))))) ?_
    refine Wp.loop (fun m S => ∃ s8_1, slices_IndexFunc_Edge_2_L1 N a0 c0_0 c0_1 c1_0 m s8_1 = some z1 ∧ S = ⟨[(0, .c (.slv (a0.map eEdge))), (1, .c (.clo 34 [.ptr 1 0 0 0])), (7, .c (I (a0.length : Int))), (8, .c (I s8_1))], [.live 0 2 [[I c0_0, .slv (c0_1.map eEdge)]], .live 0 1 [[.slv (c1_0.map eI)]]]⟩) N ⟨_, h, rfl⟩ ?_
    rintro m1 _ ⟨s8_1, h, rfl⟩
    cases m1 with
    | zero => rw [slices_IndexFunc_Edge_2_L1.eq_1] at h; cases h
    | succ m1 =>
    rw [slices_IndexFunc_Edge_2_L1.eq_2] at h
    refine Wp.seq ?_
    refine Wp.text [0, 1, 7, 8, 9] rfl rfl ?_ -- region 2
    refine TextR.int rfl rfl rfl ?_
    refine TextR.done (.cons rfl (.cons rfl (.cons rfl (.cons rfl (.cons rfl .nil))))) ?_
    refine Wp.seq ?_
    refine Wp.condM h rfl (fun hc2 h => ?_) (fun hc2 h => ?_)
    · refine Wp.skip ?_
      refine Wp.seq ?_
      refine Wp.block ?_
      refine Wp.seq ?_
      refine Wp.text [0, 1, 5, 7, 8] rfl rfl ?_ -- region 3
      refine TextR.move rfl ?_
      refine TextR.assign rfl ?_
      refine TextR.done (.cons rfl (.cons rfl (.cons rfl (.cons rfl (.cons rfl .nil))))) ?_
      refine Wp.seq ?_
      obtain ⟨x4, hx4, h⟩ := bind_some h
      obtain ⟨y5, hy5, h⟩ := bind_some h
      refine Wp.text [0, 1, 5, 7, 8, 16] rfl rfl ?_ -- region 4
      refine TextR.move rfl ?_
      refine TextR.move rfl ?_
      refine TextR.move rfl ?_
      refine TextR.indexA se22 rfl rfl rfl hx4 rfl ?_
      refine TextR.loadNM tk44 rfl (at_get hx4) rfl ?_
      refine TextR.dcall rfl rfl (c_colour_Right_2 N x4 c0_0 c0_1 c1_0 y5 hy5) ?_
      refine TextR.done (.cons rfl (.cons rfl (.cons rfl (.cons rfl (.cons rfl (.cons rfl .nil)))))) ?_
      refine Wp.condM h rfl (fun hc3 h => ?_) (fun hc3 h => ?_)
      · refine Wp.seq ?_
        refine Wp.text [4] rfl rfl ?_ -- region 5
        refine TextR.move rfl ?_
        refine TextR.assign rfl ?_
        refine TextR.done (.cons rfl .nil) ?_
        refine Wp.ret ?_
        exact ⟨_, (Option.some.inj h).symm, Ret.one rfl (resV_tmp rfl) ⟨rfl, _, rfl⟩⟩
      · refine Wp.skip ?_
        refine Wp.text [0, 1, 7, 8] rfl rfl ?_ -- region 6
        refine TextR.int rfl rfl rfl ?_
        refine TextR.move rfl ?_
        refine TextR.done (.cons rfl (.cons rfl (.cons rfl (.cons rfl .nil)))) ?_
        exact ⟨m1, Nat.lt_succ_self _, _, (keepW (live := [0, 1, 7, 8]) (.cons rfl (.cons rfl (.cons rfl (.cons rfl .nil))))), _, h, rfl⟩
    · refine Wp.exit ?_
      exact ⟨_, (Option.some.inj h).symm, _, (keepW (live := []) .nil), rfl⟩
  · rintro _ ⟨z3, rfl, _, hw, rfl⟩
    dsimp only at h
    clear hz1
    refine Wp.weak hw ?_
    refine Wp.seq ?_
    refine Wp.text [4] rfl rfl ?_ -- region 7
    refine TextR.assign rfl ?_
    refine TextR.done (.cons rfl .nil) ?_
    refine Wp.ret ?_
    obtain rfl := Option.some.inj h
    exact Ret.one rfl (resV_tmp rfl) ⟨rfl, _, rfl⟩
  · rintro S' ⟨r2, rfl, hR⟩
    dsimp only at h
    obtain rfl := Option.some.inj h
    exact hR
theorem c_slices_IndexFunc_Edge_2 (N : Nat) (a0 : List TEdge) (c0_0 : Int) (c0_1 : List TEdge) (c1_0 : List Int) (r : Int) (h : slices_IndexFunc_Edge_2 N a0 c0_0 c0_1 c1_0 = some r) : DCall Try.prog 45 [.c (.slv (a0.map eEdge)), .c (.clo 34 [.ptr 1 0 0 0])] [.live 0 2 [[I c0_0, .slv (c0_1.map eEdge)]], .live 0 1 [[.slv (c1_0.map eI)]]] (.c (I r)) := Call.trim (by simp) (by first | rfl | simp [-List.map_set]) (by first | rfl | simp [-List.map_set]) (w_slices_IndexFunc_Edge_2 N a0 c0_0 c0_1 c1_0 r h)
-- slices.ContainsFunc[[]narthex/api.Edge,narthex/api.Edge]
theorem w_slices_ContainsFunc_Edge_2 (N : Nat) (a0 : List TEdge) (c0_0 : Int) (c0_1 : List TEdge) (c1_0 : List Int) (r : Bool) (h : slices_ContainsFunc_Edge_2 N a0 c0_0 c0_1 c1_0 = some r) : Nx.Call Try.prog 33 [.c (.slv (a0.map eEdge)), .c (.clo 34 [.ptr 1 0 0 0])] [.live 0 2 [[I c0_0, .slv (c0_1.map eEdge)]], .live 0 1 [[.slv (c1_0.map eI)]]] fun r' H' => r' = .c (B r) ∧ ∃ junk, H' = [.live 0 2 [[I c0_0, .slv (c0_1.map eEdge)]], .live 0 1 [[.slv (c1_0.map eI)]]] ++ junk := by
  refine Nx.Call.of_body Try.func33 rfl en33 Try.ntmps33 rfl (fun Γ hok => ?_)
  unfold slices_ContainsFunc_Edge_2 at h
  refine Wp.seq ?_
  refine Wp.text [0, 1] rfl rfl ?_ -- region 0
  refine TextR.assign rfl ?_
  refine TextR.done (.cons rfl (.cons rfl .nil)) ?_
  refine Wp.seq ?_
  obtain ⟨y1, hy1, h⟩ := bind_some h
  refine Wp.text [4] rfl rfl ?_ -- region 1
  refine TextR.move rfl ?_
  refine TextR.move rfl ?_
  refine TextR.dcall rfl rfl (c_slices_IndexFunc_Edge_2 N a0 c0_0 c0_1 c1_0 y1 hy1) ?_
  refine TextR.int rfl rfl rfl ?_
  refine TextR.assign rfl ?_
  refine TextR.done (.cons rfl .nil) ?_
  refine Wp.ret ?_
  obtain rfl := Option.some.inj h
  exact Ret.one rfl (resV_tmp rfl) ⟨rfl, _, rfl⟩
theorem c_slices_ContainsFunc_Edge_2 (N : Nat) (a0 : List TEdge) (c0_0 : Int) (c0_1 : List TEdge) (c1_0 : List Int) (r : Bool) (h : slices_ContainsFunc_Edge_2 N a0 c0_0 c0_1 c1_0 = some r) : DCall Try.prog 33 [.c (.slv (a0.map eEdge)), .c (.clo 34 [.ptr 1 0 0 0])] [.live 0 2 [[I c0_0, .slv (c0_1.map eEdge)]], .live 0 1 [[.slv (c1_0.map eI)]]] (.c (B r)) := Call.trim (by simp) (by first | rfl | simp [-List.map_set]) (by first | rfl | simp [-List.map_set]) (w_slices_ContainsFunc_Edge_2 N a0 c0_0 c0_1 c1_0 r h)
-- narthex/colour.Right
theorem w_colour_Right (N : Nat) (a0 : TGraph) (a1 : List Int) (r : Bool) (h : colour_Right N a0 a1 = some r) : Nx.Call Try.prog 14 [.agg (eGraph a0), .c (.slv (a1.map eI))] [] fun r' _ => r' = .c (B r) := by
  refine Nx.Call.of_body Try.func14 rfl en14 Try.ntmps14 rfl (fun Γ hok => ?_)
  unfold colour_Right at h
  refine Wp.seq ?_
  refine Wp.text [2, 3] rfl rfl ?_ -- region 0
  refine TextR.box (cs := [I a0.N, .slv (a0.Edges.map eEdge)]) 0 rfl rfl rfl rfl .nil ?_
  refine TextR.box (cs := [.slv (a1.map eI)]) 1 rfl rfl rfl rfl (.cons .nil) ?_
  refine TextR.assign rfl ?_
  refine TextR.done (.cons rfl (.cons rfl .nil)) ?_
  refine Wp.seq ?_
  refine Wp.seq ?_
  obtain ⟨y1, hy1, h⟩ := bind_some h
  obtain ⟨y2, hy2, h⟩ := bind_some h
  refine Wp.go false none [[], [], [], [], [(8, false)], [(8, false)], [(8, false)], [(8, false)], [(8, false)], [], [], [(15, false)], [(15, false)], []] [] [2, 3, 18] mixed rfl rfl (by kernel_rfl) ?_ -- region 1
  refine RunR.loadN (cs := [I a0.N, .slv (a0.Edges.map eEdge)]) tk24 rfl rfl rfl rfl ?_
  refine RunR.call rfl rfl rfl (fun H => c_graph_Check N a0 y1 hy1 H) ?_
  refine RunR.int rfl rfl rfl rfl rfl ?_
  refine RunR.move rfl rfl rfl ?_
  refine RunR.load1 tk25 rfl rfl rfl rfl ?_
  refine RunR.lenM us25 rfl rfl rfl rfl ?_
  refine RunR.fieldAddr fo24_0 rfl rfl rfl rfl rfl ?_
  refine RunR.load1 tk3 rfl rfl rfl rfl ?_
  refine RunR.int rfl rfl rfl rfl rfl ?_
  refine RunR.pickOr rfl rfl rfl rfl ?_
  refine RunR.move rfl rfl rfl ?_
  refine RunR.load1 tk25 rfl rfl rfl rfl ?_
  refine RunR.callG rfl rfl rfl (fun hb H => c_slices_ContainsFunc_int_5 N a1 y2 (ifT hy2 gF hb) H) ?_
  refine RunR.pickOr rfl rfl rfl rfl ?_
  refine RunR.doneQ (.cons rfl (.cons rfl (.cons rfl .nil))) ?_
  refine Wp.condM h rfl (fun hc1 h => ?_) (fun hc1 h => ?_)
  · refine Wp.seq ?_
    refine Wp.text [4] rfl rfl ?_ -- region 2
    refine TextR.assign rfl ?_
    refine TextR.done (.cons rfl .nil) ?_
    refine Wp.ret ?_
    obtain rfl := Option.some.inj h
    exact Ret.one rfl (resV_tmp rfl) rfl
  · refine Wp.skip ?_
    refine Wp.seq ?_
    obtain ⟨y3, hy3, h⟩ := bind_some h
    refine Wp.text [4] rfl rfl ?_ -- region 3
    refine TextR.fieldAddr fo24_1 rfl rfl rfl ?_
    refine TextR.load1 tk22 rfl rfl ?_
    refine TextR.makeFunc rfl ?_
    refine TextR.dcall rfl rfl (c_slices_ContainsFunc_Edge_2 N a0.Edges a0.N a0.Edges a1 y3 hy3) ?_
    refine TextR.not rfl ?_
    refine TextR.assign rfl ?_
    refine TextR.done (.cons rfl .nil) ?_
    refine Wp.ret ?_
    obtain rfl := Option.some.inj h
    exact Ret.one rfl (resV_tmp rfl) rfl
theorem c_colour_Right (N : Nat) (a0 : TGraph) (a1 : List Int) (r : Bool) (h : colour_Right N a0 a1 = some r) (H : List Ob) : DCall Try.prog 14 [.agg (eGraph a0), .c (.slv (a1.map eI))] H (.c (B r)) := DCall.lift (by first | rfl | simp [-List.map_set]) (by first | rfl | simp [-List.map_set]) (fun _ => by simp [-List.map_set]) (w_colour_Right N a0 a1 r h) H
-- slices.Max[[]int,int]
theorem w_slices_Max_int (N : Nat) (a0 : List Int) (r : Int) (h : slices_Max_int N a0 = some r) : Nx.Call Try.prog 35 [.c (.slv (a0.map eI))] [] fun r' _ => r' = .c (I r) := by
  refine Nx.Call.of_body Try.func35 rfl en35 Try.ntmps35 rfl (fun Γ hok => ?_)
  unfold slices_Max_int at h
  refine Wp.seq ?_
  refine Wp.text [0] rfl rfl ?_ -- region 0
  refine TextR.assign rfl ?_
  refine TextR.done (.cons rfl .nil) ?_
  refine Wp.seq ?_
  refine Wp.seq ?_
  refine Wp.text [0, 7] rfl rfl ?_ -- region 1
  refine TextR.move rfl ?_
  refine TextR.lenM us25 rfl rfl ?_
  refine TextR.int rfl rfl rfl ?_
  refine TextR.done (.cons rfl (.cons rfl .nil)) ?_
  refine Wp.condM h rfl (fun hc1 h => ?_) (fun hc1 h => ?_)
  · cases h
  · refine Wp.skip ?_
    refine Wp.seq ?_
    obtain ⟨x1, hx1, h⟩ := bind_some h
    refine Wp.text [0, 3] rfl rfl ?_ -- region 3
    refine TextR.move rfl ?_
    refine TextR.indexA se25 rfl rfl rfl hx1 rfl ?_
    refine TextR.load1M tk3 rfl (at_get hx1) rfl ?_
    refine TextR.assign rfl ?_
    refine TextR.done (.cons rfl (.cons rfl .nil)) ?_
    refine Wp.seq ?_
    refine Wp.seq ?_
    refine Wp.text [0, 3, 4] rfl rfl ?_ -- region 4
    refine TextR.assign rfl ?_
    refine TextR.done (.cons rfl (.cons rfl (.cons rfl .nil))) ?_
    obtain ⟨z2, hz2, h⟩ := bind_some h
    refine Wp.fragN (fun S => ∃ S', St.Weak ⟨Try.prog, 25, Γ⟩ S S' ∧ S' = ⟨[(3, .c (I z2))], []⟩) ?_ ?_
    · replace h := hz2
      refine Wp.block ?_
      refine Wp.weak (keepW (live := [0, 3, 4]) (.cons rfl (.cons rfl (.cons rfl .nil)))) ?_
      refine Wp.loop (fun m S => ∃ s3_1, ∃ s4_1, slices_Max_int_L1 N a0 m s3_1 s4_1 = some z2 ∧ S = ⟨[(0, .c (.slv (a0.map eI))), (3, .c (I s3_1)), (4, .c (I s4_1))], []⟩) N ⟨_, _, h, rfl⟩ ?_
      rintro m1 _ ⟨s3_1, s4_1, h, rfl⟩
      cases m1 with
      | zero => rw [slices_Max_int_L1.eq_1] at h; cases h
      | succ m1 =>
      rw [slices_Max_int_L1.eq_2] at h
      refine Wp.seq ?_
      refine Wp.seq ?_
      refine Wp.text [0, 3, 4, 15] rfl rfl ?_ -- region 5
      refine TextR.move rfl ?_
      refine TextR.move rfl ?_
      refine TextR.lenM us25 rfl rfl ?_
      refine TextR.int rfl rfl rfl ?_
      refine TextR.done (.cons rfl (.cons rfl (.cons rfl (.cons rfl .nil)))) ?_
      refine Wp.condM h rfl (fun hc3 h => ?_) (fun hc3 h => ?_)
      · refine Wp.skip ?_
        refine Wp.seq ?_
        refine Wp.block ?_
        obtain ⟨x3, hx3, h⟩ := bind_some h
        refine Wp.text [0, 3, 4] rfl rfl ?_ -- region 7
        refine TextR.move rfl ?_
        refine TextR.move rfl ?_
        refine TextR.move rfl ?_
        refine TextR.indexA se25 rfl rfl rfl hx3 rfl ?_
        refine TextR.load1M tk3 rfl (at_get hx3) rfl ?_
        refine TextR.minmax (.inr rfl) rfl ?_
        refine TextR.assign rfl ?_
        refine TextR.done (.cons rfl (.cons rfl (.cons rfl .nil))) ?_
        refine Wp.text [0, 3, 4] rfl rfl ?_ -- region 6
        refine TextR.move rfl ?_
        refine TextR.int rfl rfl rfl ?_
        refine TextR.assign rfl ?_
        refine TextR.done (.cons rfl (.cons rfl (.cons rfl .nil))) ?_
        exact ⟨m1, Nat.lt_succ_self _, _, (keepW (live := [0, 3, 4]) (.cons rfl (.cons rfl (.cons rfl .nil)))), _, _, h, rfl⟩
      · refine Wp.exit ?_
        obtain rfl := Option.some.inj h
        exact ⟨_, (keepW (live := [3]) (.cons rfl .nil)), rfl⟩
    rintro _ ⟨S', hw, rfl⟩
    clear hz2
    refine Wp.weak hw ?_
    refine Wp.seq ?_
    refine Wp.text [2] rfl rfl ?_ -- region 8
    refine TextR.move rfl ?_
    refine TextR.assign rfl ?_
    refine TextR.done (.cons rfl .nil) ?_
    refine Wp.ret ?_
    obtain rfl := Option.some.inj h
    exact Ret.one rfl (resV_tmp rfl) rfl
theorem c_slices_Max_int (N : Nat) (a0 : List Int) (r : Int) (h : slices_Max_int N a0 = some r) (H : List Ob) : DCall Try.prog 35 [.c (.slv (a0.map eI))] H (.c (I r)) := DCall.lift (by first | rfl | simp [-List.map_set]) (by first | rfl | simp [-List.map_set]) (fun _ => by simp [-List.map_set]) (w_slices_Max_int N a0 r h) H
-- narthex/colour.Most
theorem w_colour_Most (N : Nat) (a0 : List Int) (r : Int) (h : colour_Most N a0 = some r) : Nx.Call Try.prog 16 [.c (.slv (a0.map eI))] [] fun r' _ => r' = .c (I r) := by
  refine Nx.Call.of_body Try.func16 rfl en16 Try.ntmps16 rfl (fun Γ hok => ?_)
  unfold colour_Most at h
  refine Wp.seq ?_
  refine Wp.text [0] rfl rfl ?_ -- region 0
  refine TextR.assign rfl ?_
  refine TextR.done (.cons rfl .nil) ?_
  refine Wp.seq ?_
  obtain ⟨x1, hx1, h⟩ := bind_some h
  obtain ⟨y2, hy2, h⟩ := bind_some h
  refine Wp.text [2] rfl rfl ?_ -- region 1
  refine TextR.buildSlice (rows := [0].map eI) 0 se25 rfl rfl rfl .nil ?_
  refine TextR.move rfl ?_
  refine TextR.appendM eI [0] a0 x1 (app_eq hx1) se25 rfl rfl rfl rfl (fun _ => rfl) rfl (app_len hx1) .zero ?_
  refine TextR.dcall rfl rfl (DCall.borrow (fs := [.c (.slv (x1.map eI))]) (by simp [-List.map_set, obj, List.take_of_length_le]) (by first | rfl | simp [-List.map_set]) rfl (w_slices_Max_int N x1 y2 hy2)) ?_
  refine TextR.minmax (.inr rfl) rfl ?_
  refine TextR.assign rfl ?_
  refine TextR.done (.cons rfl .nil) ?_
  refine Wp.ret ?_
  obtain rfl := Option.some.inj h
  exact Ret.one rfl (resV_tmp rfl) rfl
theorem c_colour_Most (N : Nat) (a0 : List Int) (r : Int) (h : colour_Most N a0 = some r) (H : List Ob) : DCall Try.prog 16 [.c (.slv (a0.map eI))] H (.c (I r)) := DCall.lift (by first | rfl | simp [-List.map_set]) (by first | rfl | simp [-List.map_set]) (fun _ => by simp [-List.map_set]) (w_colour_Most N a0 r h) H
-- narthex/narthexlaw11.awake
theorem w_narthexlaw11_awake (N : Nat) (r : Bool) (h : narthexlaw11_awake N = some r) : Nx.Call Try.prog 9 [] [] fun r' _ => r' = .c (B r) := by
  refine Nx.Call.of_body Try.func9 rfl en9 Try.ntmps9 rfl (fun Γ hok => ?_)
  unfold narthexlaw11_awake at h
  refine Wp.seq ?_
  refine Wp.text [] rfl rfl ?_ -- region 0
  refine TextR.assign rfl ?_
  refine TextR.done .nil ?_
  refine Wp.seq ?_
  refine Wp.text [1] rfl rfl ?_ -- region 1
  refine TextR.build cm44 rfl ?_
  refine TextR.build cm44 rfl ?_
  refine TextR.buildSlice (rows := [(⟨0, 1⟩ : TEdge), (⟨1, 2⟩ : TEdge)].map eEdge) 0 se22 rfl rfl rfl .nil ?_
  refine TextR.build cm24 rfl ?_
  refine TextR.alloc 1 zc24 rfl rfl (.cons .nil) ?_
  refine TextR.store1 tk24 rfl rfl rfl rfl rfl rfl (.succ .zero) ?_
  refine TextR.done (.cons rfl .nil) ?_
  refine Wp.seq ?_
  refine Wp.weak (freezeW (h := 0) (ver := 0) (rows := [(⟨0, 1⟩ : TEdge), (⟨1, 2⟩ : TEdge)].map eEdge) (e' := [(1, .c (.ptr 1 0 0 0))]) (H' := [.dead, .live 0 2 [[I 3, .slv ([(⟨0, 1⟩ : TEdge), (⟨1, 2⟩ : TEdge)].map eEdge)]]]) rfl (by first | rfl | simp [-List.map_set]) (by first | rfl | simp [-List.map_set])) ?_
  obtain ⟨y1, hy1, h⟩ := bind_some h
  refine Wp.text [1, 2, 3, 4] rfl rfl ?_ -- region 2
  refine TextR.loadN (cs := [I 3, .slv ([(⟨0, 1⟩ : TEdge), (⟨1, 2⟩ : TEdge)].map eEdge)]) tk24 rfl rfl ?_
  refine TextR.dcall rfl rfl (c_colour_Run N (⟨3, [(⟨0, 1⟩ : TEdge), (⟨1, 2⟩ : TEdge)]⟩ : TGraph) y1 hy1 _) ?_
  refine TextR.move rfl ?_
  refine TextR.extract rfl rfl ?_
  refine TextR.extract rfl rfl ?_
  refine TextR.extract rfl rfl ?_
  refine TextR.assign rfl ?_
  refine TextR.assign rfl ?_
  refine TextR.assign rfl ?_
  refine TextR.done (.cons rfl (.cons rfl (.cons rfl (.cons rfl .nil)))) ?_
  refine Wp.seq ?_
  obtain ⟨y2, hy2, h⟩ := bind_some h
  refine Wp.text [1, 2, 3, 4, 5, 6] rfl rfl ?_ -- region 3
  refine TextR.loadN (cs := [I 3, .slv ([(⟨0, 1⟩ : TEdge), (⟨1, 2⟩ : TEdge)].map eEdge)]) tk24 rfl rfl ?_
  refine TextR.buildSlice (rows := [0, 0, 0].map eI) 2 se25 rfl rfl rfl (.cons (.cons .nil)) ?_
  refine TextR.weak (keepW (F := ⟨Try.prog, 63, Γ⟩) (live := [1, 2, 3, 4, 18, 19]) (.cons rfl (.cons rfl (.cons rfl (.cons rfl (.cons rfl (.cons rfl .nil))))))) ?_
  refine TextR.weak (freezeW (F := ⟨Try.prog, 63, Γ⟩) (h := 2) (ver := 0) (rows := [0, 0, 0].map eI) (e' := [(1, .c (.ptr 1 0 0 0)), (2, .c (.slv (y1.1.map eI))), (3, .c (I y1.2.1)), (4, .c (I y1.2.2)), (18, .agg [I 3, .slv ([(⟨0, 1⟩ : TEdge), (⟨1, 2⟩ : TEdge)].map eEdge)]), (19, .c (.slv ([0, 0, 0].map eI)))]) (H' := [.dead, .live 0 2 [[I 3, .slv ([(⟨0, 1⟩ : TEdge), (⟨1, 2⟩ : TEdge)].map eEdge)]], .dead]) rfl (by first | rfl | simp [-List.map_set]) (by first | rfl | simp [-List.map_set])) ?_
  refine TextR.dcall rfl rfl (c_colour_Round N (⟨3, [(⟨0, 1⟩ : TEdge), (⟨1, 2⟩ : TEdge)]⟩ : TGraph) [0, 0, 0] y2 hy2 _) ?_
  refine TextR.move rfl ?_
  refine TextR.extract rfl rfl ?_
  refine TextR.extract rfl rfl ?_
  refine TextR.assign rfl ?_
  refine TextR.assign rfl ?_
  refine TextR.done (.cons rfl (.cons rfl (.cons rfl (.cons rfl (.cons rfl (.cons rfl .nil)))))) ?_
  refine Wp.seq ?_
  refine Wp.text [0] rfl rfl ?_ -- region 4 SPLIT
  refine TextR.move rfl ?_
  refine TextR.int rfl rfl rfl ?_
  refine TextR.move rfl ?_
  refine TextR.byBool 25 rfl (fun hv => ?_) (fun hv => ?_)
  · rw [if_pos (by simpa using hv)] at h
    refine TextR.gmove rfl rfl ?_
    refine TextR.gint rfl rfl rfl rfl ?_
    refine TextR.pickAnd rfl rfl ?_
    refine TextR.move rfl ?_
    refine TextR.byBool 29 rfl (fun hv => ?_) (fun hv => ?_)
    · rw [if_pos (by simpa using hv)] at h
      refine TextR.gmove rfl rfl ?_
      refine TextR.gbuildSlice rfl (rows := [1, 2, 1].map eI) 3 se25 rfl rfl rfl (.cons (.cons (.cons .nil))) ?_
      obtain ⟨y3, hy3, h⟩ := bind_some h
      refine TextR.dcallG rfl rfl rfl (DCall.borrow (fs := [.c (.slv (y1.1.map eI)), .c (.slv ([1, 2, 1].map eI))]) (by simp [-List.map_set, obj, List.take_of_length_le]) (by first | rfl | simp [-List.map_set]) rfl (w_narthexref01_Same N y1.1 [1, 2, 1] y3 hy3)) ?_
      refine TextR.pickAnd rfl rfl ?_
      refine TextR.move rfl ?_
      refine TextR.byBool 34 rfl (fun hv => ?_) (fun hv => ?_)
      · rw [if_pos (by simpa using hv)] at h
        refine TextR.gmove rfl rfl ?_
        refine TextR.gint rfl rfl rfl rfl ?_
        refine TextR.pickAnd rfl rfl ?_
        refine TextR.move rfl ?_
        refine TextR.byBool 38 rfl (fun hv => ?_) (fun hv => ?_)
        · rw [if_pos (by simpa using hv)] at h
          refine TextR.gmove rfl rfl ?_
          refine TextR.gbuildSlice rfl (rows := [0, 0, 1].map eI) 4 se25 rfl rfl rfl (.cons (.cons (.cons (.cons .nil)))) ?_
          obtain ⟨y4, hy4, h⟩ := bind_some h
          refine TextR.dcallG rfl rfl rfl (DCall.borrow (fs := [.c (.slv (y2.1.map eI)), .c (.slv ([0, 0, 1].map eI))]) (by simp [-List.map_set, obj, List.take_of_length_le]) (by first | rfl | simp [-List.map_set]) rfl (w_narthexref01_Same N y2.1 [0, 0, 1] y4 hy4)) ?_
          refine TextR.pickAnd rfl rfl ?_
          refine TextR.move rfl ?_
          refine TextR.byBool 43 rfl (fun hv => ?_) (fun hv => ?_)
          · rw [if_pos (by simpa using hv)] at h
            refine TextR.gloadN rfl (cs := [I 3, .slv ([(⟨0, 1⟩ : TEdge), (⟨1, 2⟩ : TEdge)].map eEdge)]) tk24 rfl rfl ?_
            refine TextR.gmove rfl rfl ?_
            obtain ⟨y5, hy5, h⟩ := bind_some h
            refine TextR.dcallG rfl rfl rfl (c_colour_Right N (⟨3, [(⟨0, 1⟩ : TEdge), (⟨1, 2⟩ : TEdge)]⟩ : TGraph) y1.1 y5 hy5 _) ?_
            refine TextR.pickAnd rfl rfl ?_
            refine TextR.move rfl ?_
            refine TextR.byBool 48 rfl (fun hv => ?_) (fun hv => ?_)
            · rw [if_pos (by simpa using hv)] at h
              refine TextR.gloadN rfl (cs := [I 3, .slv ([(⟨0, 1⟩ : TEdge), (⟨1, 2⟩ : TEdge)].map eEdge)]) tk24 rfl rfl ?_
              refine TextR.gmove rfl rfl ?_
              obtain ⟨y6, hy6, h⟩ := bind_some h
              refine TextR.dcallG rfl rfl rfl (c_colour_Right N (⟨3, [(⟨0, 1⟩ : TEdge), (⟨1, 2⟩ : TEdge)]⟩ : TGraph) y2.1 y6 hy6 _) ?_
              refine TextR.gnot rfl rfl ?_
              refine TextR.pickAnd rfl rfl ?_
              refine TextR.move rfl ?_
              refine TextR.byBool 54 rfl (fun hv => ?_) (fun hv => ?_)
              · rw [if_pos (by simpa using hv)] at h
                refine TextR.gmove rfl rfl ?_
                obtain ⟨y7, hy7, h⟩ := bind_some h
                refine TextR.dcallG rfl rfl rfl (c_colour_Most N y1.1 y7 hy7 _) ?_
                refine TextR.gint rfl rfl rfl rfl ?_
                refine TextR.pickAnd rfl rfl ?_
                refine TextR.move rfl ?_
                refine TextR.byBool 59 rfl (fun hv => ?_) (fun hv => ?_)
                · rw [if_pos (by simpa using hv)] at h
                  obtain ⟨y8, hy8, h⟩ := bind_some h
                  refine TextR.dcallG rfl rfl rfl (DCall.nz rfl (c_colour_Most N [] y8 hy8 _)) ?_
                  refine TextR.gint rfl rfl rfl rfl ?_
                  refine TextR.pickAnd rfl rfl ?_
                  refine TextR.assign rfl ?_
                  refine TextR.done (.cons rfl .nil) ?_
                  refine Wp.ret ?_
                  obtain rfl := Option.some.inj h
                  exact Ret.one rfl (resV_tmp rfl) rfl
                · rw [if_neg (by simpa using hv)] at h
                  refine TextR.off rfl ?_
                  refine TextR.off rfl ?_
                  refine TextR.pickAnd0 rfl rfl ?_
                  refine TextR.assign rfl ?_
                  refine TextR.done (.cons rfl .nil) ?_
                  refine Wp.ret ?_
                  obtain rfl := Option.some.inj h
                  exact Ret.one rfl (resV_tmp rfl) rfl
              · rw [if_neg (by simpa using hv)] at h
                refine TextR.off rfl ?_
                refine TextR.off rfl ?_
                refine TextR.off rfl ?_
                refine TextR.pickAnd0 rfl rfl ?_
                refine TextR.move rfl ?_
                refine TextR.off rfl ?_
                refine TextR.off rfl ?_
                refine TextR.pickAnd0 rfl rfl ?_
                refine TextR.assign rfl ?_
                refine TextR.done (.cons rfl .nil) ?_
                refine Wp.ret ?_
                obtain rfl := Option.some.inj h
                exact Ret.one rfl (resV_tmp rfl) rfl
            · rw [if_neg (by simpa using hv)] at h
              refine TextR.off rfl ?_
              refine TextR.off rfl ?_
              refine TextR.off rfl ?_
              refine TextR.off rfl ?_
              refine TextR.pickAnd0 rfl rfl ?_
              refine TextR.move rfl ?_
              refine TextR.off rfl ?_
              refine TextR.off rfl ?_
              refine TextR.off rfl ?_
              refine TextR.pickAnd0 rfl rfl ?_
              refine TextR.move rfl ?_
              refine TextR.off rfl ?_
              refine TextR.off rfl ?_
              refine TextR.pickAnd0 rfl rfl ?_
              refine TextR.assign rfl ?_
              refine TextR.done (.cons rfl .nil) ?_
              refine Wp.ret ?_
              obtain rfl := Option.some.inj h
              exact Ret.one rfl (resV_tmp rfl) rfl
          · rw [if_neg (by simpa using hv)] at h
            refine TextR.off rfl ?_
            refine TextR.off rfl ?_
            refine TextR.off rfl ?_
            refine TextR.pickAnd0 rfl rfl ?_
            refine TextR.move rfl ?_
            refine TextR.off rfl ?_
            refine TextR.off rfl ?_
            refine TextR.off rfl ?_
            refine TextR.off rfl ?_
            refine TextR.pickAnd0 rfl rfl ?_
            refine TextR.move rfl ?_
            refine TextR.off rfl ?_
            refine TextR.off rfl ?_
            refine TextR.off rfl ?_
            refine TextR.pickAnd0 rfl rfl ?_
            refine TextR.move rfl ?_
            refine TextR.off rfl ?_
            refine TextR.off rfl ?_
            refine TextR.pickAnd0 rfl rfl ?_
            refine TextR.assign rfl ?_
            refine TextR.done (.cons rfl .nil) ?_
            refine Wp.ret ?_
            obtain rfl := Option.some.inj h
            exact Ret.one rfl (resV_tmp rfl) rfl
        · rw [if_neg (by simpa using hv)] at h
          refine TextR.off rfl ?_
          refine TextR.off rfl ?_
          refine TextR.off rfl ?_
          refine TextR.pickAnd0 rfl rfl ?_
          refine TextR.move rfl ?_
          refine TextR.off rfl ?_
          refine TextR.off rfl ?_
          refine TextR.off rfl ?_
          refine TextR.pickAnd0 rfl rfl ?_
          refine TextR.move rfl ?_
          refine TextR.off rfl ?_
          refine TextR.off rfl ?_
          refine TextR.off rfl ?_
          refine TextR.off rfl ?_
          refine TextR.pickAnd0 rfl rfl ?_
          refine TextR.move rfl ?_
          refine TextR.off rfl ?_
          refine TextR.off rfl ?_
          refine TextR.off rfl ?_
          refine TextR.pickAnd0 rfl rfl ?_
          refine TextR.move rfl ?_
          refine TextR.off rfl ?_
          refine TextR.off rfl ?_
          refine TextR.pickAnd0 rfl rfl ?_
          refine TextR.assign rfl ?_
          refine TextR.done (.cons rfl .nil) ?_
          refine Wp.ret ?_
          obtain rfl := Option.some.inj h
          exact Ret.one rfl (resV_tmp rfl) rfl
      · rw [if_neg (by simpa using hv)] at h
        refine TextR.off rfl ?_
        refine TextR.off rfl ?_
        refine TextR.pickAnd0 rfl rfl ?_
        refine TextR.move rfl ?_
        refine TextR.off rfl ?_
        refine TextR.off rfl ?_
        refine TextR.off rfl ?_
        refine TextR.pickAnd0 rfl rfl ?_
        refine TextR.move rfl ?_
        refine TextR.off rfl ?_
        refine TextR.off rfl ?_
        refine TextR.off rfl ?_
        refine TextR.pickAnd0 rfl rfl ?_
        refine TextR.move rfl ?_
        refine TextR.off rfl ?_
        refine TextR.off rfl ?_
        refine TextR.off rfl ?_
        refine TextR.off rfl ?_
        refine TextR.pickAnd0 rfl rfl ?_
        refine TextR.move rfl ?_
        refine TextR.off rfl ?_
        refine TextR.off rfl ?_
        refine TextR.off rfl ?_
        refine TextR.pickAnd0 rfl rfl ?_
        refine TextR.move rfl ?_
        refine TextR.off rfl ?_
        refine TextR.off rfl ?_
        refine TextR.pickAnd0 rfl rfl ?_
        refine TextR.assign rfl ?_
        refine TextR.done (.cons rfl .nil) ?_
        refine Wp.ret ?_
        obtain rfl := Option.some.inj h
        exact Ret.one rfl (resV_tmp rfl) rfl
    · rw [if_neg (by simpa using hv)] at h
      refine TextR.off rfl ?_
      refine TextR.off rfl ?_
      refine TextR.off rfl ?_
      refine TextR.pickAnd0 rfl rfl ?_
      refine TextR.move rfl ?_
      refine TextR.off rfl ?_
      refine TextR.off rfl ?_
      refine TextR.pickAnd0 rfl rfl ?_
      refine TextR.move rfl ?_
      refine TextR.off rfl ?_
      refine TextR.off rfl ?_
      refine TextR.off rfl ?_
      refine TextR.pickAnd0 rfl rfl ?_
      refine TextR.move rfl ?_
      refine TextR.off rfl ?_
      refine TextR.off rfl ?_
      refine TextR.off rfl ?_
      refine TextR.pickAnd0 rfl rfl ?_
      refine TextR.move rfl ?_
      refine TextR.off rfl ?_
      refine TextR.off rfl ?_
      refine TextR.off rfl ?_
      refine TextR.off rfl ?_
      refine TextR.pickAnd0 rfl rfl ?_
      refine TextR.move rfl ?_
      refine TextR.off rfl ?_
      refine TextR.off rfl ?_
      refine TextR.off rfl ?_
      refine TextR.pickAnd0 rfl rfl ?_
      refine TextR.move rfl ?_
      refine TextR.off rfl ?_
      refine TextR.off rfl ?_
      refine TextR.pickAnd0 rfl rfl ?_
      refine TextR.assign rfl ?_
      refine TextR.done (.cons rfl .nil) ?_
      refine Wp.ret ?_
      obtain rfl := Option.some.inj h
      exact Ret.one rfl (resV_tmp rfl) rfl
  · rw [if_neg (by simpa using hv)] at h
    refine TextR.off rfl ?_
    refine TextR.off rfl ?_
    refine TextR.pickAnd0 rfl rfl ?_
    refine TextR.move rfl ?_
    refine TextR.off rfl ?_
    refine TextR.off rfl ?_
    refine TextR.off rfl ?_
    refine TextR.pickAnd0 rfl rfl ?_
    refine TextR.move rfl ?_
    refine TextR.off rfl ?_
    refine TextR.off rfl ?_
    refine TextR.pickAnd0 rfl rfl ?_
    refine TextR.move rfl ?_
    refine TextR.off rfl ?_
    refine TextR.off rfl ?_
    refine TextR.off rfl ?_
    refine TextR.pickAnd0 rfl rfl ?_
    refine TextR.move rfl ?_
    refine TextR.off rfl ?_
    refine TextR.off rfl ?_
    refine TextR.off rfl ?_
    refine TextR.pickAnd0 rfl rfl ?_
    refine TextR.move rfl ?_
    refine TextR.off rfl ?_
    refine TextR.off rfl ?_
    refine TextR.off rfl ?_
    refine TextR.off rfl ?_
    refine TextR.pickAnd0 rfl rfl ?_
    refine TextR.move rfl ?_
    refine TextR.off rfl ?_
    refine TextR.off rfl ?_
    refine TextR.off rfl ?_
    refine TextR.pickAnd0 rfl rfl ?_
    refine TextR.move rfl ?_
    refine TextR.off rfl ?_
    refine TextR.off rfl ?_
    refine TextR.pickAnd0 rfl rfl ?_
    refine TextR.assign rfl ?_
    refine TextR.done (.cons rfl .nil) ?_
    refine Wp.ret ?_
    obtain rfl := Option.some.inj h
    exact Ret.one rfl (resV_tmp rfl) rfl
theorem c_narthexlaw11_awake (N : Nat) (r : Bool) (h : narthexlaw11_awake N = some r) (H : List Ob) : DCall Try.prog 9 [] H (.c (B r)) := DCall.lift (by first | rfl | simp [-List.map_set]) (by first | rfl | simp [-List.map_set]) (fun _ => by simp [-List.map_set]) (w_narthexlaw11_awake N r h) H
-- narthex/narthexlaw11.few
theorem w_narthexlaw11_few (N : Nat) (a0 : TGraph) (a1 : List Int) (r : Bool) (h : narthexlaw11_few N a0 a1 = some r) : Nx.Call Try.prog 10 [.agg (eGraph a0), .c (.slv (a1.map eI))] [] fun r' _ => r' = .c (B r) := by
  refine Nx.Call.of_body Try.func10 rfl en10 Try.ntmps10 rfl (fun Γ hok => ?_)
  unfold narthexlaw11_few at h
  refine Wp.seq ?_
  refine Wp.text [1, 2] rfl rfl ?_ -- region 0
  refine TextR.box (cs := [I a0.N, .slv (a0.Edges.map eEdge)]) 0 rfl rfl rfl rfl .nil ?_
  refine TextR.assign rfl ?_
  refine TextR.done (.cons rfl (.cons rfl .nil)) ?_
  refine Wp.seq ?_
  refine Wp.go false none [[], [], [], [], [], [(9, true)], [(9, true)], [(9, true)], [], []] [] [4] mixed rfl rfl (by kernel_rfl) ?_ -- region 1
  refine RunR.fieldAddr fo24_1 rfl rfl rfl rfl rfl ?_
  refine RunR.load1 tk22 rfl rfl rfl rfl ?_
  refine RunR.lenM us22 rfl rfl rfl rfl ?_
  refine RunR.int rfl rfl rfl rfl rfl ?_
  refine RunR.move rfl rfl rfl ?_
  refine RunR.move rfl rfl rfl ?_
  refine RunR.lenM us25 rfl rfl rfl rfl ?_
  refine RunR.int rfl rfl rfl rfl rfl ?_
  refine RunR.pickAnd rfl rfl rfl rfl ?_
  refine RunR.assign rfl rfl rfl ?_
  refine RunR.doneQ (.cons rfl .nil) ?_
  refine Wp.ret ?_
  obtain rfl := Option.some.inj h
  exact Ret.one rfl (resV_tmp rfl) rfl
theorem c_narthexlaw11_few (N : Nat) (a0 : TGraph) (a1 : List Int) (r : Bool) (h : narthexlaw11_few N a0 a1 = some r) (H : List Ob) : DCall Try.prog 10 [.agg (eGraph a0), .c (.slv (a1.map eI))] H (.c (B r)) := DCall.lift (by first | rfl | simp [-List.map_set]) (by first | rfl | simp [-List.map_set]) (fun _ => by simp [-List.map_set]) (w_narthexlaw11_few N a0 a1 r h) H
-- narthex/narthexlaw03.Own
theorem w_narthexlaw03_Own (N : Nat) (a0 : TGraph) (r : TGraph) (h : narthexlaw03_Own N a0 = some r) : Nx.Call Try.prog 12 [.agg (eGraph a0)] [] fun r' _ => r' = .agg (eGraph r) := by
  refine Nx.Call.of_body Try.func12 rfl en12 Try.ntmps12 rfl (fun Γ hok => ?_)
  unfold narthexlaw03_Own at h
  refine Wp.seq ?_
  refine Wp.text [1, 2] rfl rfl ?_ -- region 0
  refine TextR.box (cs := [I a0.N, .slv (a0.Edges.map eEdge)]) 0 rfl rfl rfl rfl .nil ?_
  refine TextR.alloc 1 zc24 rfl rfl (.cons .nil) ?_
  refine TextR.done (.cons rfl (.cons rfl .nil)) ?_
  refine Wp.seq ?_
  obtain ⟨x1, hx1, h⟩ := bind_some h
  refine Wp.go true (some [2]) [] [true, true, false, true, true, false, false, true] [2] mixed rfl rfl (by kernel_rfl) ?_ -- region 1
  refine RunR.fieldAddr fo24_0 rfl rfl rfl rfl rfl ?_
  refine RunR.load1 tk3 rfl rfl rfl rfl ?_
  refine RunR.buildSlice  2 se22 rfl rfl rfl rfl rfl (.cons (.cons .nil)) ?_
  refine RunR.fieldAddr fo24_1 rfl rfl rfl rfl rfl ?_
  refine RunR.load1 tk22 rfl rfl rfl rfl ?_
  refine RunR.appendM eEdge ([] : List TEdge) a0.Edges x1 (app_eq hx1) se22 rfl rfl rfl rfl rfl rfl (fun _ => rfl) rfl (app_len hx1) (.succ (.succ .zero)) ?_
  refine RunR.build cm24 rfl rfl rfl ?_
  refine RunR.store1 tk24 rfl rfl rfl rfl rfl rfl rfl rfl (.succ .zero) ?_
  refine RunR.doneQ (.cons rfl .nil) ?_
  refine Wp.weak (keepW (live := [2] ) (.cons rfl .nil)) ?_
  refine Wp.weak (freezeW (h := 2) (ver := 1) (rows := x1.map eEdge) (e' := [(2, .c (.ptr 1 0 0 0))]) (H' := [.live 0 2 [[I a0.N, .slv (a0.Edges.map eEdge)]], .live 0 2 [[I a0.N, .slv (x1.map eEdge)]], .dead]) rfl (by first | rfl | simp [-List.map_set]) (by first | rfl | simp [-List.map_set])) ?_
  refine Wp.ret ?_
  obtain rfl := Option.some.inj h
  exact Ret.one rfl (resV_cellN tk24 rfl rfl) rfl
theorem c_narthexlaw03_Own (N : Nat) (a0 : TGraph) (r : TGraph) (h : narthexlaw03_Own N a0 = some r) (H : List Ob) : DCall Try.prog 12 [.agg (eGraph a0)] H (.agg (eGraph r)) := DCall.lift (by first | rfl | simp [-List.map_set]) (by first | rfl | simp [-List.map_set]) (fun _ => by simp [-List.map_set]) (w_narthexlaw03_Own N a0 r h) H
-- narthex/narthexlaw11.own
theorem w_narthexlaw11_own (N : Nat) (a0 : List Int) (r : (List Int)) (h : narthexlaw11_own N a0 = some r) : Nx.Call Try.prog 13 [.c (.slv (a0.map eI))] [] fun r' _ => r' = .c (.slv (r.map eI)) := by
  refine Nx.Call.of_body Try.func13 rfl en13 Try.ntmps13 rfl (fun Γ hok => ?_)
  unfold narthexlaw11_own at h
  refine Wp.seq ?_
  refine Wp.text [0] rfl rfl ?_ -- region 0
  refine TextR.assign rfl ?_
  refine TextR.done (.cons rfl .nil) ?_
  refine Wp.seq ?_
  obtain ⟨x1, hx1, h⟩ := bind_some h
  refine Wp.text [2] rfl rfl ?_ -- region 1
  refine TextR.buildSlice  0 se25 rfl rfl rfl .nil ?_
  refine TextR.move rfl ?_
  refine TextR.appendM eI ([] : List Int) a0 x1 (app_eq hx1) se25 rfl rfl rfl rfl (fun _ => rfl) rfl (app_len hx1) .zero ?_
  refine TextR.assign rfl ?_
  refine TextR.done (.cons rfl .nil) ?_
  refine Wp.weak (keepW (live := [2] ) (.cons rfl .nil)) ?_
  refine Wp.weak (freezeW (h := 0) (ver := 1) (rows := x1.map eI) (e' := [(2, .c (.slv (x1.map eI)))]) (H' := [.dead]) rfl (by first | rfl | simp [-List.map_set]) (by first | rfl | simp [-List.map_set])) ?_
  refine Wp.ret ?_
  obtain rfl := Option.some.inj h
  exact Ret.one rfl (resV_tmp rfl) rfl
theorem c_narthexlaw11_own (N : Nat) (a0 : List Int) (r : (List Int)) (h : narthexlaw11_own N a0 = some r) (H : List Ob) : DCall Try.prog 13 [.c (.slv (a0.map eI))] H (.c (.slv (r.map eI))) := DCall.lift (by first | rfl | simp [-List.map_set]) (by first | rfl | simp [-List.map_set]) (fun _ => by simp [-List.map_set]) (w_narthexlaw11_own N a0 r h) H
-- narthex/narthexref03.ahead
theorem w_narthexref03_ahead (N : Nat) (a0 : TEdge) (a1 : TEdge) (r : Bool) (h : narthexref03_ahead N a0 a1 = some r) : Nx.Call Try.prog 36 [.agg (eEdge a0), .agg (eEdge a1)] [] fun r' _ => r' = .c (B r) := by
  refine Nx.Call.of_body Try.func36 rfl en36 Try.ntmps36 rfl (fun Γ hok => ?_)
  unfold narthexref03_ahead at h
  refine Wp.seq ?_
  refine Wp.text [2, 3] rfl rfl ?_ -- region 0
  refine TextR.box (cs := [I a0.A, I a0.B]) 0 rfl rfl rfl rfl .nil ?_
  refine TextR.box (cs := [I a1.A, I a1.B]) 1 rfl rfl rfl rfl (.cons .nil) ?_
  refine TextR.assign rfl ?_
  refine TextR.done (.cons rfl (.cons rfl .nil)) ?_
  refine Wp.seq ?_
  refine Wp.go false none [[], [], [], [], [], [], [(10, false)], [(10, false)], [(10, false)], [(10, false)], [(10, false)], [(10, false)], [(16, true), (10, false)], [(16, true), (10, false)], [(16, true), (10, false)], [(16, true), (10, false)], [(16, true), (10, false)], [(10, false)], [], []] [] [4] mixed rfl rfl (by kernel_rfl) ?_ -- region 1
  refine RunR.fieldAddr fo44_0 rfl rfl rfl rfl rfl ?_
  refine RunR.load1 tk3 rfl rfl rfl rfl ?_
  refine RunR.fieldAddr fo44_0 rfl rfl rfl rfl rfl ?_
  refine RunR.load1 tk3 rfl rfl rfl rfl ?_
  refine RunR.int rfl rfl rfl rfl rfl ?_
  refine RunR.move rfl rfl rfl ?_
  refine RunR.fieldAddr fo44_0 rfl rfl rfl rfl rfl ?_
  refine RunR.load1 tk3 rfl rfl rfl rfl ?_
  refine RunR.fieldAddr fo44_0 rfl rfl rfl rfl rfl ?_
  refine RunR.load1 tk3 rfl rfl rfl rfl ?_
  refine RunR.int rfl rfl rfl rfl rfl ?_
  refine RunR.move rfl rfl rfl ?_
  refine RunR.fieldAddr fo44_1 rfl rfl rfl rfl rfl ?_
  refine RunR.load1 tk3 rfl rfl rfl rfl ?_
  refine RunR.fieldAddr fo44_1 rfl rfl rfl rfl rfl ?_
  refine RunR.load1 tk3 rfl rfl rfl rfl ?_
  refine RunR.int rfl rfl rfl rfl rfl ?_
  refine RunR.pickAnd rfl rfl rfl rfl ?_
  refine RunR.pickOr rfl rfl rfl rfl ?_
  refine RunR.assign rfl rfl rfl ?_
  refine RunR.doneQ (.cons rfl .nil) ?_
  refine Wp.ret ?_
  obtain rfl := Option.some.inj h
  exact Ret.one rfl (resV_tmp rfl) rfl
theorem c_narthexref03_ahead (N : Nat) (a0 : TEdge) (a1 : TEdge) (r : Bool) (h : narthexref03_ahead N a0 a1 = some r) (H : List Ob) : DCall Try.prog 36 [.agg (eEdge a0), .agg (eEdge a1)] H (.c (B r)) := DCall.lift (by first | rfl | simp [-List.map_set]) (by first | rfl | simp [-List.map_set]) (fun _ => by simp [-List.map_set]) (w_narthexref03_ahead N a0 a1 r h) H
-- narthex/narthexref03.Check
theorem w_narthexref03_Check (N : Nat) (a0 : TGraph) (r : Bool) (h : narthexref03_Check N a0 = some r) : Nx.Call Try.prog 17 [.agg (eGraph a0)] [] fun r' _ => r' = .c (B r) := by
  refine Nx.Call.of_body Try.func17 rfl en17 Try.ntmps17 rfl (fun Γ hok => ?_)
  unfold narthexref03_Check at h
  refine Wp.seq ?_
  refine Wp.text [1] rfl rfl ?_ -- region 0
  refine TextR.box (cs := [I a0.N, .slv (a0.Edges.map eEdge)]) 0 rfl rfl rfl rfl .nil ?_
  refine TextR.assign rfl ?_
  refine TextR.done (.cons rfl .nil) ?_
  refine Wp.seq ?_
  refine Wp.seq ?_
  refine Wp.go false none [[], [], [], [], [(8, false)], [(8, false)], [(8, false)], [], [], [(13, false)], [(13, false)], [(13, false)], [(13, false)], []] [] [1, 18] mixed rfl rfl (by kernel_rfl) ?_ -- region 1
  refine RunR.fieldAddr fo24_0 rfl rfl rfl rfl rfl ?_
  refine RunR.load1 tk3 rfl rfl rfl rfl ?_
  refine RunR.int rfl rfl rfl rfl rfl ?_
  refine RunR.move rfl rfl rfl ?_
  refine RunR.fieldAddr fo24_0 rfl rfl rfl rfl rfl ?_
  refine RunR.load1 tk3 rfl rfl rfl rfl ?_
  refine RunR.int rfl rfl rfl rfl rfl ?_
  refine RunR.pickOr rfl rfl rfl rfl ?_
  refine RunR.move rfl rfl rfl ?_
  refine RunR.fieldAddr fo24_1 rfl rfl rfl rfl rfl ?_
  refine RunR.load1 tk22 rfl rfl rfl rfl ?_
  refine RunR.lenM us22 rfl rfl rfl rfl ?_
  refine RunR.int rfl rfl rfl rfl rfl ?_
  refine RunR.pickOr rfl rfl rfl rfl ?_
  refine RunR.doneQ (.cons rfl (.cons rfl .nil)) ?_
  refine Wp.condM h rfl (fun hc1 h => ?_) (fun hc1 h => ?_)
  · refine Wp.seq ?_
    refine Wp.text [2] rfl rfl ?_ -- region 2
    refine TextR.assign rfl ?_
    refine TextR.done (.cons rfl .nil) ?_
    refine Wp.ret ?_
    obtain rfl := Option.some.inj h
    exact Ret.one rfl (resV_tmp rfl) rfl
  · refine Wp.skip ?_
    refine Wp.seq ?_
    refine Wp.seq ?_
    refine Wp.text [1, 3] rfl rfl ?_ -- region 3
    refine TextR.assign rfl ?_
    refine TextR.done (.cons rfl (.cons rfl .nil)) ?_
    obtain ⟨z1, hz1, h⟩ := bind_some h
    refine Wp.fragR (fun S => ∃ z3, z1 = .inr z3 ∧ ∃ S', St.Weak ⟨Try.prog, 63, Γ⟩ S S' ∧ S' = ⟨[], []⟩) (fun S => ∃ v, z1 = .inl v ∧ Ret Try.prog Try.f17 (fun r' _ => r' = .c (B v)) .ret S) ?_ ?_ ?_
    · replace h := hz1
      refine Wp.block ?_
      refine Wp.weak (keepW (live := [1, 3]) (.cons rfl (.cons rfl .nil))) ?_
      refine Wp.loop (fun m S => ∃ s3_1, narthexref03_Check_L1 N a0 m s3_1 = some z1 ∧ S = ⟨[(1, .c (.ptr 0 0 0 0)), (3, .c (I s3_1))], [.live 0 2 [[I a0.N, .slv (a0.Edges.map eEdge)]]]⟩) N ⟨_, h, rfl⟩ ?_
      rintro m1 _ ⟨s3_1, h, rfl⟩
      cases m1 with
      | zero => rw [narthexref03_Check_L1.eq_1] at h; cases h
      | succ m1 =>
      rw [narthexref03_Check_L1.eq_2] at h
      refine Wp.seq ?_
      refine Wp.seq ?_
      refine Wp.text [1, 3, 23] rfl rfl ?_ -- region 4
      refine TextR.move rfl ?_
      refine TextR.fieldAddr fo24_1 rfl rfl rfl ?_
      refine TextR.load1 tk22 rfl rfl ?_
      refine TextR.lenM us22 rfl rfl ?_
      refine TextR.int rfl rfl rfl ?_
      refine TextR.done (.cons rfl (.cons rfl (.cons rfl .nil))) ?_
      refine Wp.condM h rfl (fun hc3 h => ?_) (fun hc3 h => ?_)
      · refine Wp.skip ?_
        refine Wp.seq ?_
        refine Wp.block ?_
        refine Wp.seq ?_
        obtain ⟨x4, hx4, h⟩ := bind_some h
        refine Wp.text [1, 3, 4] rfl rfl ?_ -- region 6
        refine TextR.fieldAddr fo24_1 rfl rfl rfl ?_
        refine TextR.load1 tk22 rfl rfl ?_
        refine TextR.move rfl ?_
        refine TextR.indexA se22 rfl rfl rfl hx4 rfl ?_
        refine TextR.loadNM tk44 rfl (at_get hx4) rfl ?_
        refine TextR.alloc 1 zc44 rfl rfl (.cons .nil) ?_
        refine TextR.store1 tk44 rfl rfl rfl rfl rfl rfl (.succ .zero) ?_
        refine TextR.done (.cons rfl (.cons rfl (.cons rfl .nil))) ?_
        refine Wp.seq ?_
        obtain ⟨x5, hx5, h⟩ := bind_some h
        obtain ⟨y6, hy6, h⟩ := bind_some h
        refine Wp.go true (some []) [[], [], [], [], [(34, false)], [(34, false)], [(34, false)], [(34, false)], [(34, false)], [], [], [(41, false)], [(41, false)], [(41, false)], [(41, false)], [(41, false)], [], [], [(48, false)], [(48, false)], [(48, false)], [(51, true), (48, false)], [(51, true), (48, false)], [(51, true), (48, false)], [(51, true), (48, false)], [(51, true), (48, false)], [(51, true), (48, false)], [(51, true), (48, false)], [(51, true), (48, false)], [(51, true), (48, false)], [(48, false)], []] [] [1, 3, 62] mixed rfl rfl (by kernel_rfl) ?_ -- region 7
        refine RunR.fieldAddr fo44_0 rfl rfl rfl rfl rfl ?_
        refine RunR.load1 tk3 rfl rfl rfl rfl ?_
        refine RunR.int rfl rfl rfl rfl rfl ?_
        refine RunR.move rfl rfl rfl ?_
        refine RunR.fieldAddr fo44_0 rfl rfl rfl rfl rfl ?_
        refine RunR.load1 tk3 rfl rfl rfl rfl ?_
        refine RunR.fieldAddr fo44_1 rfl rfl rfl rfl rfl ?_
        refine RunR.load1 tk3 rfl rfl rfl rfl ?_
        refine RunR.int rfl rfl rfl rfl rfl ?_
        refine RunR.pickOr rfl rfl rfl rfl ?_
        refine RunR.move rfl rfl rfl ?_
        refine RunR.fieldAddr fo44_1 rfl rfl rfl rfl rfl ?_
        refine RunR.load1 tk3 rfl rfl rfl rfl ?_
        refine RunR.fieldAddr fo24_0 rfl rfl rfl rfl rfl ?_
        refine RunR.load1 tk3 rfl rfl rfl rfl ?_
        refine RunR.int rfl rfl rfl rfl rfl ?_
        refine RunR.pickOr rfl rfl rfl rfl ?_
        refine RunR.move rfl rfl rfl ?_
        refine RunR.move rfl rfl rfl ?_
        refine RunR.int rfl rfl rfl rfl rfl ?_
        refine RunR.move rfl rfl rfl ?_
        refine RunR.fieldAddr fo24_1 rfl rfl rfl rfl rfl ?_
        refine RunR.load1 tk22 rfl rfl rfl rfl ?_
        refine RunR.move rfl rfl rfl ?_
        refine RunR.int rfl rfl rfl rfl rfl ?_
        refine RunR.indexAG se22 rfl rfl rfl rfl rfl (ifPos hx5 (fun hb => (gAnd (gF (gN hb)) (gT hb)))) (ifAt hx5 (fun hb => (gAnd (gF (gN hb)) (gT hb)))) rfl ?_
        refine RunR.loadNG tk44 rfl rfl rfl (ifAt hx5 (fun hb => (gAnd (gF (gN hb)) (gT hb)))) rfl ?_
        refine RunR.loadN (cs := [I x4.A, I x4.B]) tk44 rfl rfl rfl rfl ?_
        refine RunR.callG rfl rfl rfl (fun hb H => c_narthexref03_ahead N x5 x4 y6 (ifT hy6 (fun hb => (gAnd (gF (gN hb)) (gT hb))) hb) H) ?_
        refine RunR.not rfl rfl rfl ?_
        refine RunR.pickAnd rfl rfl rfl rfl ?_
        refine RunR.pickOr rfl rfl rfl rfl ?_
        refine RunR.doneQ (.cons rfl (.cons rfl (.cons rfl .nil))) ?_
        refine Wp.condM h rfl (fun hc4 h => ?_) (fun hc4 h => ?_)
        · refine Wp.seq ?_
          refine Wp.text [2] rfl rfl ?_ -- region 8
          refine TextR.assign rfl ?_
          refine TextR.done (.cons rfl .nil) ?_
          refine Wp.ret ?_
          exact ⟨_, (Option.some.inj h).symm, Ret.one rfl (resV_tmp rfl) rfl⟩
        · refine Wp.skip ?_
          refine Wp.text [1, 3] rfl rfl ?_ -- region 5
          refine TextR.move rfl ?_
          refine TextR.int rfl rfl rfl ?_
          refine TextR.assign rfl ?_
          refine TextR.done (.cons rfl (.cons rfl .nil)) ?_
          exact ⟨m1, Nat.lt_succ_self _, _, (St.Weak.trans (keepW (live := [1, 3]) (.cons rfl (.cons rfl .nil))) (pickT (e' := [(1, .c (.ptr 0 0 0 0)), (3, .c (I (w64 (s3_1 + 1))))]) (H' := [.live 0 2 [[I a0.N, .slv (a0.Edges.map eEdge)]]]) [0] [0, 0] 0 hok.len.symm rfl rfl (by decide) (by first | rfl | simp [-List.map_set]) (by first | rfl | simp [-List.map_set]) (by first | rfl | simp [-List.map_set]) (by first | rfl | simp [-List.map_set]))), _, h, rfl⟩
      · refine Wp.exit ?_
        exact ⟨_, (Option.some.inj h).symm, _, (St.Weak.trans (keepW (live := []) .nil) (pickT (e' := []) (H' := []) [] [0] 0 hok.len.symm rfl rfl (by decide) (by first | rfl | simp [-List.map_set]) (by first | rfl | simp [-List.map_set]) (by first | rfl | simp [-List.map_set]) (by first | rfl | simp [-List.map_set]))), rfl⟩
    · rintro _ ⟨z3, rfl, _, hw, rfl⟩
      dsimp only at h
      clear hz1
      refine Wp.weak hw ?_
      refine Wp.seq ?_
      refine Wp.text [2] rfl rfl ?_ -- region 9
      refine TextR.assign rfl ?_
      refine TextR.done (.cons rfl .nil) ?_
      refine Wp.ret ?_
      obtain rfl := Option.some.inj h
      exact Ret.one rfl (resV_tmp rfl) rfl
    · rintro S' ⟨r2, rfl, hR⟩
      dsimp only at h
      obtain rfl := Option.some.inj h
      exact hR
theorem c_narthexref03_Check (N : Nat) (a0 : TGraph) (r : Bool) (h : narthexref03_Check N a0 = some r) (H : List Ob) : DCall Try.prog 17 [.agg (eGraph a0)] H (.c (B r)) := DCall.lift (by first | rfl | simp [-List.map_set]) (by first | rfl | simp [-List.map_set]) (fun _ => by simp [-List.map_set]) (w_narthexref03_Check N a0 r h) H
-- narthex/narthexref11.Check
theorem w_narthexref11_Check (N : Nat) (a0 : TGraph) (a1 : List Int) (r : Bool) (h : narthexref11_Check N a0 a1 = some r) : Nx.Call Try.prog 18 [.agg (eGraph a0), .c (.slv (a1.map eI))] [] fun r' _ => r' = .c (B r) := by
  refine Nx.Call.of_body Try.func18 rfl en18 Try.ntmps18 rfl (fun Γ hok => ?_)
  unfold narthexref11_Check at h
  refine Wp.seq ?_
  refine Wp.text [1, 2] rfl rfl ?_ -- region 0
  refine TextR.box (cs := [I a0.N, .slv (a0.Edges.map eEdge)]) 0 rfl rfl rfl rfl .nil ?_
  refine TextR.assign rfl ?_
  refine TextR.done (.cons rfl (.cons rfl .nil)) ?_
  refine Wp.seq ?_
  refine Wp.seq ?_
  refine Wp.text [1, 2, 5] rfl rfl ?_ -- region 1
  refine TextR.assign rfl ?_
  refine TextR.done (.cons rfl (.cons rfl (.cons rfl .nil))) ?_
  obtain ⟨z1, hz1, h⟩ := bind_some h
  refine Wp.fragR (fun S => ∃ z3, z1 = .inr z3 ∧ ∃ S', St.Weak ⟨Try.prog, 22, Γ⟩ S S' ∧ S' = ⟨[(1, .c (.slv (a1.map eI))), (2, .c (.ptr 0 0 0 0))], [.live 0 2 [[I a0.N, .slv (a0.Edges.map eEdge)]]]⟩) (fun S => ∃ v, z1 = .inl v ∧ Ret Try.prog Try.f18 (fun r' _ => r' = .c (B v)) .ret S) ?_ ?_ ?_
  · replace h := hz1
    refine Wp.block ?_
    refine Wp.weak (keepW (live := [1, 2, 5]) (.cons rfl (.cons rfl (.cons rfl .nil)))) ?_
    refine Wp.loop (fun m S => ∃ s5_1, narthexref11_Check_L1 N a1 m s5_1 = some z1 ∧ S = ⟨[(1, .c (.slv (a1.map eI))), (2, .c (.ptr 0 0 0 0)), (5, .c (I s5_1))], [.live 0 2 [[I a0.N, .slv (a0.Edges.map eEdge)]]]⟩) N ⟨_, h, rfl⟩ ?_
    rintro m1 _ ⟨s5_1, h, rfl⟩
    cases m1 with
    | zero => rw [narthexref11_Check_L1.eq_1] at h; cases h
    | succ m1 =>
    rw [narthexref11_Check_L1.eq_2] at h
    refine Wp.seq ?_
    refine Wp.seq ?_
    refine Wp.text [1, 2, 5, 9] rfl rfl ?_ -- region 2
    refine TextR.move rfl ?_
    refine TextR.move rfl ?_
    refine TextR.lenM us25 rfl rfl ?_
    refine TextR.int rfl rfl rfl ?_
    refine TextR.done (.cons rfl (.cons rfl (.cons rfl (.cons rfl .nil)))) ?_
    refine Wp.condM h rfl (fun hc2 h => ?_) (fun hc2 h => ?_)
    · refine Wp.skip ?_
      refine Wp.seq ?_
      refine Wp.block ?_
      refine Wp.seq ?_
      obtain ⟨x4, hx4, h⟩ := bind_some h
      refine Wp.text [1, 2, 5, 16] rfl rfl ?_ -- region 4
      refine TextR.move rfl ?_
      refine TextR.move rfl ?_
      refine TextR.indexA se25 rfl rfl rfl hx4 rfl ?_
      refine TextR.load1M tk3 rfl (at_get hx4) rfl ?_
      refine TextR.int rfl rfl rfl ?_
      refine TextR.done (.cons rfl (.cons rfl (.cons rfl (.cons rfl .nil)))) ?_
      refine Wp.condM h rfl (fun hc3 h => ?_) (fun hc3 h => ?_)
      · refine Wp.seq ?_
        refine Wp.text [4] rfl rfl ?_ -- region 5
        refine TextR.assign rfl ?_
        refine TextR.done (.cons rfl .nil) ?_
        refine Wp.ret ?_
        exact ⟨_, (Option.some.inj h).symm, Ret.one rfl (resV_tmp rfl) rfl⟩
      · refine Wp.skip ?_
        refine Wp.text [1, 2, 5] rfl rfl ?_ -- region 3
        refine TextR.move rfl ?_
        refine TextR.int rfl rfl rfl ?_
        refine TextR.assign rfl ?_
        refine TextR.done (.cons rfl (.cons rfl (.cons rfl .nil))) ?_
        exact ⟨m1, Nat.lt_succ_self _, _, (keepW (live := [1, 2, 5]) (.cons rfl (.cons rfl (.cons rfl .nil)))), _, h, rfl⟩
    · refine Wp.exit ?_
      exact ⟨_, (Option.some.inj h).symm, _, (keepW (live := [1, 2]) (.cons rfl (.cons rfl .nil))), rfl⟩
  · rintro _ ⟨z3, rfl, _, hw, rfl⟩
    dsimp only at h
    clear hz1
    refine Wp.weak hw ?_
    refine Wp.seq ?_
    refine Wp.text [4] rfl rfl ?_ -- region 6
    refine TextR.move rfl ?_
    refine TextR.lenM us25 rfl rfl ?_
    refine TextR.fieldAddr fo24_0 rfl rfl rfl ?_
    refine TextR.load1 tk3 rfl rfl ?_
    refine TextR.int rfl rfl rfl ?_
    refine TextR.assign rfl ?_
    refine TextR.done (.cons rfl .nil) ?_
    refine Wp.ret ?_
    obtain rfl := Option.some.inj h
    exact Ret.one rfl (resV_tmp rfl) rfl
  · rintro S' ⟨r2, rfl, hR⟩
    dsimp only at h
    obtain rfl := Option.some.inj h
    exact hR
theorem c_narthexref11_Check (N : Nat) (a0 : TGraph) (a1 : List Int) (r : Bool) (h : narthexref11_Check N a0 a1 = some r) (H : List Ob) : DCall Try.prog 18 [.agg (eGraph a0), .c (.slv (a1.map eI))] H (.c (B r)) := DCall.lift (by first | rfl | simp [-List.map_set]) (by first | rfl | simp [-List.map_set]) (fun _ => by simp [-List.map_set]) (w_narthexref11_Check N a0 a1 r h) H
-- narthex/narthexref01.Has
theorem w_narthexref01_Has (N : Nat) (a0 : List Int) (a1 : Int) (r : Bool) (h : narthexref01_Has N a0 a1 = some r) : Nx.Call Try.prog 24 [.c (.slv (a0.map eI)), .c (I a1)] [] fun r' _ => r' = .c (B r) := by
  refine Nx.Call.of_body Try.func24 rfl en24 Try.ntmps24 rfl (fun Γ hok => ?_)
  unfold narthexref01_Has at h
  refine Wp.seq ?_
  refine Wp.text [0, 1] rfl rfl ?_ -- region 0
  refine TextR.assign rfl ?_
  refine TextR.done (.cons rfl (.cons rfl .nil)) ?_
  refine Wp.seq ?_
  refine Wp.seq ?_
  refine Wp.text [0, 1, 5] rfl rfl ?_ -- region 1
  refine TextR.assign rfl ?_
  refine TextR.done (.cons rfl (.cons rfl (.cons rfl .nil))) ?_
  obtain ⟨z1, hz1, h⟩ := bind_some h
  refine Wp.fragR (fun S => ∃ z3, z1 = .inr z3 ∧ ∃ S', St.Weak ⟨Try.prog, 18, Γ⟩ S S' ∧ S' = ⟨[], []⟩) (fun S => ∃ v, z1 = .inl v ∧ Ret Try.prog Try.f24 (fun r' _ => r' = .c (B v)) .ret S) ?_ ?_ ?_
  · replace h := hz1
    refine Wp.block ?_
    refine Wp.weak (keepW (live := [0, 1, 5]) (.cons rfl (.cons rfl (.cons rfl .nil)))) ?_
    refine Wp.loop (fun m S => ∃ s5_1, narthexref01_Has_L1 N a0 a1 m s5_1 = some z1 ∧ S = ⟨[(0, .c (.slv (a0.map eI))), (1, .c (I a1)), (5, .c (I s5_1))], []⟩) N ⟨_, h, rfl⟩ ?_
    rintro m1 _ ⟨s5_1, h, rfl⟩
    cases m1 with
    | zero => rw [narthexref01_Has_L1.eq_1] at h; cases h
    | succ m1 =>
    rw [narthexref01_Has_L1.eq_2] at h
    refine Wp.seq ?_
    refine Wp.seq ?_
    refine Wp.text [0, 1, 5, 9] rfl rfl ?_ -- region 2
    refine TextR.move rfl ?_
    refine TextR.move rfl ?_
    refine TextR.lenM us25 rfl rfl ?_
    refine TextR.int rfl rfl rfl ?_
    refine TextR.done (.cons rfl (.cons rfl (.cons rfl (.cons rfl .nil)))) ?_
    refine Wp.condM h rfl (fun hc2 h => ?_) (fun hc2 h => ?_)
    · refine Wp.skip ?_
      refine Wp.seq ?_
      refine Wp.block ?_
      refine Wp.seq ?_
      obtain ⟨x4, hx4, h⟩ := bind_some h
      refine Wp.text [0, 1, 5, 17] rfl rfl ?_ -- region 4
      refine TextR.move rfl ?_
      refine TextR.move rfl ?_
      refine TextR.indexA se25 rfl rfl rfl hx4 rfl ?_
      refine TextR.load1M tk3 rfl (at_get hx4) rfl ?_
      refine TextR.move rfl ?_
      refine TextR.int rfl rfl rfl ?_
      refine TextR.done (.cons rfl (.cons rfl (.cons rfl (.cons rfl .nil)))) ?_
      refine Wp.condM h rfl (fun hc3 h => ?_) (fun hc3 h => ?_)
      · refine Wp.seq ?_
        refine Wp.text [4] rfl rfl ?_ -- region 5
        refine TextR.assign rfl ?_
        refine TextR.done (.cons rfl .nil) ?_
        refine Wp.ret ?_
        exact ⟨_, (Option.some.inj h).symm, Ret.one rfl (resV_tmp rfl) rfl⟩
      · refine Wp.skip ?_
        refine Wp.text [0, 1, 5] rfl rfl ?_ -- region 3
        refine TextR.move rfl ?_
        refine TextR.int rfl rfl rfl ?_
        refine TextR.assign rfl ?_
        refine TextR.done (.cons rfl (.cons rfl (.cons rfl .nil))) ?_
        exact ⟨m1, Nat.lt_succ_self _, _, (keepW (live := [0, 1, 5]) (.cons rfl (.cons rfl (.cons rfl .nil)))), _, h, rfl⟩
    · refine Wp.exit ?_
      exact ⟨_, (Option.some.inj h).symm, _, (keepW (live := []) .nil), rfl⟩
  · rintro _ ⟨z3, rfl, _, hw, rfl⟩
    dsimp only at h
    clear hz1
    refine Wp.weak hw ?_
    refine Wp.seq ?_
    refine Wp.text [4] rfl rfl ?_ -- region 6
    refine TextR.assign rfl ?_
    refine TextR.done (.cons rfl .nil) ?_
    refine Wp.ret ?_
    obtain rfl := Option.some.inj h
    exact Ret.one rfl (resV_tmp rfl) rfl
  · rintro S' ⟨r2, rfl, hR⟩
    dsimp only at h
    obtain rfl := Option.some.inj h
    exact hR
theorem c_narthexref01_Has (N : Nat) (a0 : List Int) (a1 : Int) (r : Bool) (h : narthexref01_Has N a0 a1 = some r) (H : List Ob) : DCall Try.prog 24 [.c (.slv (a0.map eI)), .c (I a1)] H (.c (B r)) := DCall.lift (by first | rfl | simp [-List.map_set]) (by first | rfl | simp [-List.map_set]) (fun _ => by simp [-List.map_set]) (w_narthexref01_Has N a0 a1 r h) H
-- narthex/narthexref11.Right
theorem w_narthexref11_Right (N : Nat) (a0 : TGraph) (a1 : List Int) (r : Bool) (h : narthexref11_Right N a0 a1 = some r) : Nx.Call Try.prog 15 [.agg (eGraph a0), .c (.slv (a1.map eI))] [] fun r' _ => r' = .c (B r) := by
  refine Nx.Call.of_body Try.func15 rfl en15 Try.ntmps15 rfl (fun Γ hok => ?_)
  unfold narthexref11_Right at h
  refine Wp.seq ?_
  refine Wp.text [1, 2] rfl rfl ?_ -- region 0
  refine TextR.box (cs := [I a0.N, .slv (a0.Edges.map eEdge)]) 0 rfl rfl rfl rfl .nil ?_
  refine TextR.assign rfl ?_
  refine TextR.done (.cons rfl (.cons rfl .nil)) ?_
  refine Wp.seq ?_
  refine Wp.seq ?_
  obtain ⟨y1, hy1, h⟩ := bind_some h
  obtain ⟨y2, hy2, h⟩ := bind_some h
  obtain ⟨y3, hy3, h⟩ := bind_some h
  refine Wp.go false none [[], [], [], [], [(9, false)], [(9, false)], [(9, false)], [(9, false)], [], [], [(15, false)], [(15, false)], []] [] [1, 2, 18] mixed rfl rfl (by kernel_rfl) ?_ -- region 1
  refine RunR.loadN (cs := [I a0.N, .slv (a0.Edges.map eEdge)]) tk24 rfl rfl rfl rfl ?_
  refine RunR.call rfl rfl rfl (fun H => c_narthexref03_Check N a0 y1 hy1 H) ?_
  refine RunR.not rfl rfl rfl ?_
  refine RunR.move rfl rfl rfl ?_
  refine RunR.loadN (cs := [I a0.N, .slv (a0.Edges.map eEdge)]) tk24 rfl rfl rfl rfl ?_
  refine RunR.move rfl rfl rfl ?_
  refine RunR.callG rfl rfl rfl (fun hb H => c_narthexref11_Check N a0 a1 y2 (ifT hy2 gF hb) H) ?_
  refine RunR.not rfl rfl rfl ?_
  refine RunR.pickOr rfl rfl rfl rfl ?_
  refine RunR.move rfl rfl rfl ?_
  refine RunR.move rfl rfl rfl ?_
  refine RunR.callG rfl rfl rfl (fun hb H => c_narthexref01_Has N a1 0 y3 (ifT hy3 gF hb) H) ?_
  refine RunR.pickOr rfl rfl rfl rfl ?_
  refine RunR.doneQ (.cons rfl (.cons rfl (.cons rfl .nil))) ?_
  refine Wp.condM h rfl (fun hc1 h => ?_) (fun hc1 h => ?_)
  · refine Wp.seq ?_
    refine Wp.text [4] rfl rfl ?_ -- region 2
    refine TextR.assign rfl ?_
    refine TextR.done (.cons rfl .nil) ?_
    refine Wp.ret ?_
    obtain rfl := Option.some.inj h
    exact Ret.one rfl (resV_tmp rfl) rfl
  · refine Wp.skip ?_
    refine Wp.seq ?_
    refine Wp.seq ?_
    refine Wp.text [1, 2, 5] rfl rfl ?_ -- region 3
    refine TextR.assign rfl ?_
    refine TextR.done (.cons rfl (.cons rfl (.cons rfl .nil))) ?_
    obtain ⟨z4, hz4, h⟩ := bind_some h
    refine Wp.fragR (fun S => ∃ z6, z4 = .inr z6 ∧ ∃ S', St.Weak ⟨Try.prog, 45, Γ⟩ S S' ∧ S' = ⟨[], []⟩) (fun S => ∃ v, z4 = .inl v ∧ Ret Try.prog Try.f15 (fun r' _ => r' = .c (B v)) .ret S) ?_ ?_ ?_
    · replace h := hz4
      refine Wp.block ?_
      refine Wp.weak (keepW (live := [1, 2, 5]) (.cons rfl (.cons rfl (.cons rfl .nil)))) ?_
      refine Wp.loop (fun m S => ∃ s5_1, narthexref11_Right_L1 N a0 a1 m s5_1 = some z4 ∧ S = ⟨[(1, .c (.slv (a1.map eI))), (2, .c (.ptr 0 0 0 0)), (5, .c (I s5_1))], [.live 0 2 [[I a0.N, .slv (a0.Edges.map eEdge)]]]⟩) N ⟨_, h, rfl⟩ ?_
      rintro m1 _ ⟨s5_1, h, rfl⟩
      cases m1 with
      | zero => rw [narthexref11_Right_L1.eq_1] at h; cases h
      | succ m1 =>
      rw [narthexref11_Right_L1.eq_2] at h
      refine Wp.seq ?_
      refine Wp.seq ?_
      refine Wp.text [1, 2, 5, 23] rfl rfl ?_ -- region 4
      refine TextR.move rfl ?_
      refine TextR.fieldAddr fo24_1 rfl rfl rfl ?_
      refine TextR.load1 tk22 rfl rfl ?_
      refine TextR.lenM us22 rfl rfl ?_
      refine TextR.int rfl rfl rfl ?_
      refine TextR.done (.cons rfl (.cons rfl (.cons rfl (.cons rfl .nil)))) ?_
      refine Wp.condM h rfl (fun hc3 h => ?_) (fun hc3 h => ?_)
      · refine Wp.skip ?_
        refine Wp.seq ?_
        refine Wp.block ?_
        refine Wp.seq ?_
        obtain ⟨x7, hx7, h⟩ := bind_some h
        obtain ⟨x8, hx8, h⟩ := bind_some h
        obtain ⟨x9, hx9, h⟩ := bind_some h
        obtain ⟨x10, hx10, h⟩ := bind_some h
        refine Wp.go true (some []) [] [] [1, 2, 5, 44] mixed rfl rfl (by kernel_rfl) ?_ -- region 6
        refine RunR.move rfl rfl rfl ?_
        refine RunR.fieldAddr fo24_1 rfl rfl rfl rfl rfl ?_
        refine RunR.load1 tk22 rfl rfl rfl rfl ?_
        refine RunR.move rfl rfl rfl ?_
        refine RunR.indexA se22 rfl rfl rfl rfl rfl hx7 rfl ?_
        refine RunR.fieldAddr fo44_0 rfl rfl rfl rfl rfl ?_
        refine RunR.load1M tk3 rfl rfl rfl (at_get hx7) rfl ?_
        refine RunR.indexA se25 rfl rfl rfl rfl rfl hx8 rfl ?_
        refine RunR.load1M tk3 rfl rfl rfl (at_get hx8) rfl ?_
        refine RunR.move rfl rfl rfl ?_
        refine RunR.fieldAddr fo24_1 rfl rfl rfl rfl rfl ?_
        refine RunR.load1 tk22 rfl rfl rfl rfl ?_
        refine RunR.move rfl rfl rfl ?_
        refine RunR.indexA se22 rfl rfl rfl rfl rfl hx9 rfl ?_
        refine RunR.fieldAddr fo44_1 rfl rfl rfl rfl rfl ?_
        refine RunR.load1M tk3 rfl rfl rfl (at_get hx9) rfl ?_
        refine RunR.indexA se25 rfl rfl rfl rfl rfl hx10 rfl ?_
        refine RunR.load1M tk3 rfl rfl rfl (at_get hx10) rfl ?_
        refine RunR.int rfl rfl rfl rfl rfl ?_
        refine RunR.doneQ (.cons rfl (.cons rfl (.cons rfl (.cons rfl .nil)))) ?_
        refine Wp.condM h rfl (fun hc4 h => ?_) (fun hc4 h => ?_)
        · refine Wp.seq ?_
          refine Wp.text [4] rfl rfl ?_ -- region 7
          refine TextR.assign rfl ?_
          refine TextR.done (.cons rfl .nil) ?_
          refine Wp.ret ?_
          exact ⟨_, (Option.some.inj h).symm, Ret.one rfl (resV_tmp rfl) rfl⟩
        · refine Wp.skip ?_
          refine Wp.text [1, 2, 5] rfl rfl ?_ -- region 5
          refine TextR.move rfl ?_
          refine TextR.int rfl rfl rfl ?_
          refine TextR.assign rfl ?_
          refine TextR.done (.cons rfl (.cons rfl (.cons rfl .nil))) ?_
          exact ⟨m1, Nat.lt_succ_self _, _, (keepW (live := [1, 2, 5]) (.cons rfl (.cons rfl (.cons rfl .nil)))), _, h, rfl⟩
      · refine Wp.exit ?_
        exact ⟨_, (Option.some.inj h).symm, _, (St.Weak.trans (keepW (live := []) .nil) (pickT (e' := []) (H' := []) [] [0] 0 hok.len.symm rfl rfl (by decide) (by first | rfl | simp [-List.map_set]) (by first | rfl | simp [-List.map_set]) (by first | rfl | simp [-List.map_set]) (by first | rfl | simp [-List.map_set]))), rfl⟩
    · rintro _ ⟨z6, rfl, _, hw, rfl⟩
      dsimp only at h
      clear hz4
      refine Wp.weak hw ?_
      refine Wp.seq ?_
      refine Wp.text [4] rfl rfl ?_ -- region 8
      refine TextR.assign rfl ?_
      refine TextR.done (.cons rfl .nil) ?_
      refine Wp.ret ?_
      obtain rfl := Option.some.inj h
      exact Ret.one rfl (resV_tmp rfl) rfl
    · rintro S' ⟨r5, rfl, hR⟩
      dsimp only at h
      obtain rfl := Option.some.inj h
      exact hR
theorem c_narthexref11_Right (N : Nat) (a0 : TGraph) (a1 : List Int) (r : Bool) (h : narthexref11_Right N a0 a1 = some r) (H : List Ob) : DCall Try.prog 15 [.agg (eGraph a0), .c (.slv (a1.map eI))] H (.c (B r)) := DCall.lift (by first | rfl | simp [-List.map_set]) (by first | rfl | simp [-List.map_set]) (fun _ => by simp [-List.map_set]) (w_narthexref11_Right N a0 a1 r h) H
-- narthex/narthexref03.Has
theorem w_narthexref03_Has (N : Nat) (a0 : TGraph) (a1 : Int) (a2 : Int) (r : Bool) (h : narthexref03_Has N a0 a1 a2 = some r) : Nx.Call Try.prog 40 [.agg (eGraph a0), .c (I a1), .c (I a2)] [] fun r' _ => r' = .c (B r) := by
  refine Nx.Call.of_body Try.func40 rfl en40 Try.ntmps40 rfl (fun Γ hok => ?_)
  unfold narthexref03_Has at h
  refine Wp.seq ?_
  refine Wp.text [1, 2, 3] rfl rfl ?_ -- region 0
  refine TextR.box (cs := [I a0.N, .slv (a0.Edges.map eEdge)]) 0 rfl rfl rfl rfl .nil ?_
  refine TextR.assign rfl ?_
  refine TextR.done (.cons rfl (.cons rfl (.cons rfl .nil))) ?_
  refine Wp.seq ?_
  refine Wp.seq ?_
  refine Wp.text [1, 2, 3, 7] rfl rfl ?_ -- region 1
  refine TextR.assign rfl ?_
  refine TextR.done (.cons rfl (.cons rfl (.cons rfl (.cons rfl .nil)))) ?_
  obtain ⟨z1, hz1, h⟩ := bind_some h
  refine Wp.fragR (fun S => ∃ z3, z1 = .inr z3 ∧ ∃ S', St.Weak ⟨Try.prog, 53, Γ⟩ S S' ∧ S' = ⟨[], []⟩) (fun S => ∃ v, z1 = .inl v ∧ Ret Try.prog Try.f40 (fun r' _ => r' = .c (B v)) .ret S) ?_ ?_ ?_
  · replace h := hz1
    refine Wp.block ?_
    refine Wp.weak (keepW (live := [1, 2, 3, 7]) (.cons rfl (.cons rfl (.cons rfl (.cons rfl .nil))))) ?_
    refine Wp.loop (fun m S => ∃ s7_1, narthexref03_Has_L1 N a0 a1 a2 m s7_1 = some z1 ∧ S = ⟨[(1, .c (I a1)), (2, .c (I a2)), (3, .c (.ptr 0 0 0 0)), (7, .c (I s7_1))], [.live 0 2 [[I a0.N, .slv (a0.Edges.map eEdge)]]]⟩) N ⟨_, h, rfl⟩ ?_
    rintro m1 _ ⟨s7_1, h, rfl⟩
    cases m1 with
    | zero => rw [narthexref03_Has_L1.eq_1] at h; cases h
    | succ m1 =>
    rw [narthexref03_Has_L1.eq_2] at h
    refine Wp.seq ?_
    refine Wp.seq ?_
    refine Wp.text [1, 2, 3, 7, 13] rfl rfl ?_ -- region 2
    refine TextR.move rfl ?_
    refine TextR.fieldAddr fo24_1 rfl rfl rfl ?_
    refine TextR.load1 tk22 rfl rfl ?_
    refine TextR.lenM us22 rfl rfl ?_
    refine TextR.int rfl rfl rfl ?_
    refine TextR.done (.cons rfl (.cons rfl (.cons rfl (.cons rfl (.cons rfl .nil))))) ?_
    refine Wp.condM h rfl (fun hc2 h => ?_) (fun hc2 h => ?_)
    · refine Wp.skip ?_
      refine Wp.seq ?_
      refine Wp.block ?_
      refine Wp.seq ?_
      obtain ⟨x4, hx4, h⟩ := bind_some h
      refine Wp.text [1, 2, 3, 7, 8] rfl rfl ?_ -- region 4
      refine TextR.fieldAddr fo24_1 rfl rfl rfl ?_
      refine TextR.load1 tk22 rfl rfl ?_
      refine TextR.move rfl ?_
      refine TextR.indexA se22 rfl rfl rfl hx4 rfl ?_
      refine TextR.loadNM tk44 rfl (at_get hx4) rfl ?_
      refine TextR.alloc 1 zc44 rfl rfl (.cons .nil) ?_
      refine TextR.store1 tk44 rfl rfl rfl rfl rfl rfl (.succ .zero) ?_
      refine TextR.done (.cons rfl (.cons rfl (.cons rfl (.cons rfl (.cons rfl .nil))))) ?_
      refine Wp.seq ?_
      refine Wp.go false none [[], [], [], [], [], [(25, true)], [(25, true)], [(25, true)], [(25, true)], [], [], [(31, true)], [(31, true)], [(31, true)], [], [], [(36, false)], [(36, false)], [(36, false)], [(36, false)], [(36, false)], [(41, true), (36, false)], [(41, true), (36, false)], [(41, true), (36, false)], [(41, true), (36, false)], [(36, false)], [(36, false)], [(47, true), (36, false)], [(47, true), (36, false)], [(47, true), (36, false)], [(36, false)], []] [] [1, 2, 3, 7, 52] mixed rfl rfl (by kernel_rfl) ?_ -- region 5
      refine RunR.fieldAddr fo44_0 rfl rfl rfl rfl rfl ?_
      refine RunR.load1 tk3 rfl rfl rfl rfl ?_
      refine RunR.move rfl rfl rfl ?_
      refine RunR.int rfl rfl rfl rfl rfl ?_
      refine RunR.move rfl rfl rfl ?_
      refine RunR.fieldAddr fo44_1 rfl rfl rfl rfl rfl ?_
      refine RunR.load1 tk3 rfl rfl rfl rfl ?_
      refine RunR.move rfl rfl rfl ?_
      refine RunR.int rfl rfl rfl rfl rfl ?_
      refine RunR.pickAnd rfl rfl rfl rfl ?_
      refine RunR.move rfl rfl rfl ?_
      refine RunR.move rfl rfl rfl ?_
      refine RunR.move rfl rfl rfl ?_
      refine RunR.int rfl rfl rfl rfl rfl ?_
      refine RunR.pickAnd rfl rfl rfl rfl ?_
      refine RunR.move rfl rfl rfl ?_
      refine RunR.fieldAddr fo44_0 rfl rfl rfl rfl rfl ?_
      refine RunR.load1 tk3 rfl rfl rfl rfl ?_
      refine RunR.move rfl rfl rfl ?_
      refine RunR.int rfl rfl rfl rfl rfl ?_
      refine RunR.move rfl rfl rfl ?_
      refine RunR.fieldAddr fo44_1 rfl rfl rfl rfl rfl ?_
      refine RunR.load1 tk3 rfl rfl rfl rfl ?_
      refine RunR.move rfl rfl rfl ?_
      refine RunR.int rfl rfl rfl rfl rfl ?_
      refine RunR.pickAnd rfl rfl rfl rfl ?_
      refine RunR.move rfl rfl rfl ?_
      refine RunR.move rfl rfl rfl ?_
      refine RunR.move rfl rfl rfl ?_
      refine RunR.int rfl rfl rfl rfl rfl ?_
      refine RunR.pickAnd rfl rfl rfl rfl ?_
      refine RunR.pickOr rfl rfl rfl rfl ?_
      refine RunR.doneQ (.cons rfl (.cons rfl (.cons rfl (.cons rfl (.cons rfl .nil))))) ?_
      refine Wp.condM h rfl (fun hc3 h => ?_) (fun hc3 h => ?_)
      · refine Wp.seq ?_
        refine Wp.text [6] rfl rfl ?_ -- region 6
        refine TextR.assign rfl ?_
        refine TextR.done (.cons rfl .nil) ?_
        refine Wp.ret ?_
        exact ⟨_, (Option.some.inj h).symm, Ret.one rfl (resV_tmp rfl) rfl⟩
      · refine Wp.skip ?_
        refine Wp.text [1, 2, 3, 7] rfl rfl ?_ -- region 3
        refine TextR.move rfl ?_
        refine TextR.int rfl rfl rfl ?_
        refine TextR.assign rfl ?_
        refine TextR.done (.cons rfl (.cons rfl (.cons rfl (.cons rfl .nil)))) ?_
        exact ⟨m1, Nat.lt_succ_self _, _, (St.Weak.trans (keepW (live := [1, 2, 3, 7]) (.cons rfl (.cons rfl (.cons rfl (.cons rfl .nil))))) (pickT (e' := [(1, .c (I a1)), (2, .c (I a2)), (3, .c (.ptr 0 0 0 0)), (7, .c (I (w64 (s7_1 + 1))))]) (H' := [.live 0 2 [[I a0.N, .slv (a0.Edges.map eEdge)]]]) [0] [0, 0] 0 hok.len.symm rfl rfl (by decide) (by first | rfl | simp [-List.map_set]) (by first | rfl | simp [-List.map_set]) (by first | rfl | simp [-List.map_set]) (by first | rfl | simp [-List.map_set]))), _, h, rfl⟩
    · refine Wp.exit ?_
      exact ⟨_, (Option.some.inj h).symm, _, (St.Weak.trans (keepW (live := []) .nil) (pickT (e' := []) (H' := []) [] [0] 0 hok.len.symm rfl rfl (by decide) (by first | rfl | simp [-List.map_set]) (by first | rfl | simp [-List.map_set]) (by first | rfl | simp [-List.map_set]) (by first | rfl | simp [-List.map_set]))), rfl⟩
  · rintro _ ⟨z3, rfl, _, hw, rfl⟩
    dsimp only at h
    clear hz1
    refine Wp.weak hw ?_
    refine Wp.seq ?_
    refine Wp.text [6] rfl rfl ?_ -- region 7
    refine TextR.assign rfl ?_
    refine TextR.done (.cons rfl .nil) ?_
    refine Wp.ret ?_
    obtain rfl := Option.some.inj h
    exact Ret.one rfl (resV_tmp rfl) rfl
  · rintro S' ⟨r2, rfl, hR⟩
    dsimp only at h
    obtain rfl := Option.some.inj h
    exact hR
theorem c_narthexref03_Has (N : Nat) (a0 : TGraph) (a1 : Int) (a2 : Int) (r : Bool) (h : narthexref03_Has N a0 a1 a2 = some r) (H : List Ob) : DCall Try.prog 40 [.agg (eGraph a0), .c (I a1), .c (I a2)] H (.c (B r)) := DCall.lift (by first | rfl | simp [-List.map_set]) (by first | rfl | simp [-List.map_set]) (fun _ => by simp [-List.map_set]) (w_narthexref03_Has N a0 a1 a2 r h) H
-- narthex/narthexref03.Near
theorem w_narthexref03_Near (N : Nat) (a0 : TGraph) (a1 : Int) (r : (List Int)) (h : narthexref03_Near N a0 a1 = some r) : Nx.Call Try.prog 23 [.agg (eGraph a0), .c (I a1)] [] fun r' _ => r' = .c (.slv (r.map eI)) := by
  refine Nx.Call.of_body Try.func23 rfl en23 Try.ntmps23 rfl (fun Γ hok => ?_)
  unfold narthexref03_Near at h
  refine Wp.seq ?_
  refine Wp.text [1, 2] rfl rfl ?_ -- region 0
  refine TextR.box (cs := [I a0.N, .slv (a0.Edges.map eEdge)]) 0 rfl rfl rfl rfl .nil ?_
  refine TextR.assign rfl ?_
  refine TextR.done (.cons rfl (.cons rfl .nil)) ?_
  refine Wp.seq ?_
  refine Wp.text [1, 2, 5] rfl rfl ?_ -- region 1
  refine TextR.buildSlice  1 se25 rfl rfl rfl (.cons .nil) ?_
  refine TextR.assign rfl ?_
  refine TextR.done (.cons rfl (.cons rfl (.cons rfl .nil))) ?_
  refine Wp.seq ?_
  refine Wp.seq ?_
  refine Wp.text [1, 2, 5, 6] rfl rfl ?_ -- region 2
  refine TextR.assign rfl ?_
  refine TextR.done (.cons rfl (.cons rfl (.cons rfl (.cons rfl .nil)))) ?_
  obtain ⟨z1, hz1, h⟩ := bind_some h
  refine Wp.fragN (fun S => ∃ wz1_0, ∃ S', St.Weak ⟨Try.prog, 27, Γ⟩ S S' ∧ S' = ⟨[(5, .c (.sl 0 wz1_0 0 z1.length))], [.live wz1_0 1 (z1.map eI)]⟩) ?_ ?_
  · replace h := hz1
    refine Wp.block ?_
    refine Wp.weak (keepW (live := [1, 2, 5, 6]) (.cons rfl (.cons rfl (.cons rfl (.cons rfl .nil))))) ?_
    refine Wp.loop (fun m S => ∃ l1_1, ∃ s6_1, ∃ wh1_1, narthexref03_Near_L1 N a0 a1 m l1_1 s6_1 = some z1 ∧ S = ⟨[(1, .c (I a1)), (2, .c (.ptr 0 0 0 0)), (5, .c (.sl 1 wh1_1 0 l1_1.length)), (6, .c (I s6_1))], [.live 0 2 [[I a0.N, .slv (a0.Edges.map eEdge)]], .live wh1_1 1 (l1_1.map eI)]⟩) N ⟨_, _, _, h, rfl⟩ ?_
    rintro m1 _ ⟨l1_1, s6_1, wh1_1, h, rfl⟩
    cases m1 with
    | zero => rw [narthexref03_Near_L1.eq_1] at h; cases h
    | succ m1 =>
    rw [narthexref03_Near_L1.eq_2] at h
    refine Wp.seq ?_
    refine Wp.seq ?_
    obtain ⟨y2, hy2, h⟩ := bind_some h
    refine Wp.go false none [[], [], [], [], [], [(12, true)], [(12, true)], []] [] [1, 2, 5, 6, 15] mixed rfl rfl (by kernel_rfl) ?_ -- region 3
    refine RunR.move rfl rfl rfl ?_
    refine RunR.fieldAddr fo24_0 rfl rfl rfl rfl rfl ?_
    refine RunR.load1 tk3 rfl rfl rfl rfl ?_
    refine RunR.int rfl rfl rfl rfl rfl ?_
    refine RunR.move rfl rfl rfl ?_
    refine RunR.loadN (cs := [I a0.N, .slv (a0.Edges.map eEdge)]) tk24 rfl rfl rfl rfl ?_
    refine RunR.callG rfl rfl rfl (fun hb H => c_narthexref03_Check N a0 y2 (ifT hy2 gT hb) H) ?_
    refine RunR.pickAnd rfl rfl rfl rfl ?_
    refine RunR.doneQ (.cons rfl (.cons rfl (.cons rfl (.cons rfl (.cons rfl .nil))))) ?_
    refine Wp.condM h rfl (fun hc2 h => ?_) (fun hc2 h => ?_)
    · refine Wp.skip ?_
      refine Wp.seq ?_
      refine Wp.block ?_
      refine Wp.seq ?_
      obtain ⟨y3, hy3, h⟩ := bind_some h
      refine Wp.text [1, 2, 5, 6, 21] rfl rfl ?_ -- region 5
      refine TextR.loadN (cs := [I a0.N, .slv (a0.Edges.map eEdge)]) tk24 rfl rfl ?_
      refine TextR.move rfl ?_
      refine TextR.move rfl ?_
      refine TextR.dcall rfl rfl (c_narthexref03_Has N a0 a1 s6_1 y3 hy3 _) ?_
      refine TextR.done (.cons rfl (.cons rfl (.cons rfl (.cons rfl (.cons rfl .nil))))) ?_
      refine Wp.condM h rfl (fun hc3 h => ?_) (fun hc3 h => ?_)
      · obtain ⟨x4, hx4, h⟩ := bind_some h
        refine Wp.text [1, 2, 5, 6] rfl rfl ?_ -- region 6
        refine TextR.move rfl ?_
        refine TextR.move rfl ?_
        refine TextR.buildSlice (rows := [s6_1].map eI) 2 se25 rfl rfl rfl (.cons (.cons .nil)) ?_
        refine TextR.appendM eI l1_1 [s6_1] x4 (app_eq hx4) se25 rfl (obj_of rfl) rfl (view_whole (f := eI) (xs := [s6_1]) rfl) (fun _ => rfl) rfl (app_len hx4) (.succ .zero) ?_
        refine TextR.assign rfl ?_
        refine TextR.done (.cons rfl (.cons rfl (.cons rfl (.cons rfl .nil)))) ?_
        refine Wp.text [1, 2, 5, 6] rfl rfl ?_ -- region 4
        refine TextR.move rfl ?_
        refine TextR.int rfl rfl rfl ?_
        refine TextR.assign rfl ?_
        refine TextR.done (.cons rfl (.cons rfl (.cons rfl (.cons rfl .nil)))) ?_
        exact ⟨m1, Nat.lt_succ_self _, _, (St.Weak.trans (keepW (live := [1, 2, 5, 6]) (.cons rfl (.cons rfl (.cons rfl (.cons rfl .nil))))) (pickT (e' := [(1, .c (I a1)), (2, .c (.ptr 0 0 0 0)), (5, .c (.sl 1 (wh1_1 + 1) 0 x4.length)), (6, .c (I (w64 (s6_1 + 1))))]) (H' := [.live 0 2 [[I a0.N, .slv (a0.Edges.map eEdge)]], .live (wh1_1 + 1) 1 (x4.map eI)]) [0, 1] [0, 1, 0] 0 hok.len.symm rfl rfl (by decide) (by first | rfl | simp [-List.map_set]) (by first | rfl | simp [-List.map_set]) (by first | rfl | simp [-List.map_set]) (by first | rfl | simp [-List.map_set]))), _, _, _, h, rfl⟩
      · refine Wp.skip ?_
        refine Wp.text [1, 2, 5, 6] rfl rfl ?_ -- region 4
        refine TextR.move rfl ?_
        refine TextR.int rfl rfl rfl ?_
        refine TextR.assign rfl ?_
        refine TextR.done (.cons rfl (.cons rfl (.cons rfl (.cons rfl .nil)))) ?_
        exact ⟨m1, Nat.lt_succ_self _, _, (keepW (live := [1, 2, 5, 6]) (.cons rfl (.cons rfl (.cons rfl (.cons rfl .nil))))), _, _, _, h, rfl⟩
    · refine Wp.exit ?_
      obtain rfl := Option.some.inj h
      exact ⟨_, _, (St.Weak.trans (keepW (live := [5]) (.cons rfl .nil)) (pickT (e' := [(5, .c (.sl 0 wh1_1 0 l1_1.length))]) (H' := [.live wh1_1 1 (l1_1.map eI)]) [1] [0, 0] 0 hok.len.symm rfl rfl (by decide) (by first | rfl | simp [-List.map_set]) (by first | rfl | simp [-List.map_set]) (by first | rfl | simp [-List.map_set]) (by first | rfl | simp [-List.map_set]))), rfl⟩
  rintro _ ⟨wz1_0, S', hw, rfl⟩
  clear hz1
  refine Wp.weak hw ?_
  refine Wp.seq ?_
  refine Wp.text [4] rfl rfl ?_ -- region 7
  refine TextR.move rfl ?_
  refine TextR.assign rfl ?_
  refine TextR.done (.cons rfl .nil) ?_
  refine Wp.weak (keepW (live := [4] ) (.cons rfl .nil)) ?_
  refine Wp.weak (freezeW (h := 0) (ver := wz1_0) (rows := z1.map eI) (e' := [(4, .c (.slv (z1.map eI)))]) (H' := [.dead]) (obj_of rfl) (by first | rfl | simp [-List.map_set]) (by first | rfl | simp [-List.map_set])) ?_
  refine Wp.ret ?_
  obtain rfl := Option.some.inj h
  exact Ret.one rfl (resV_tmp rfl) rfl
theorem c_narthexref03_Near (N : Nat) (a0 : TGraph) (a1 : Int) (r : (List Int)) (h : narthexref03_Near N a0 a1 = some r) (H : List Ob) : DCall Try.prog 23 [.agg (eGraph a0), .c (I a1)] H (.c (.slv (r.map eI))) := DCall.lift (by first | rfl | simp [-List.map_set]) (by first | rfl | simp [-List.map_set]) (fun _ => by simp [-List.map_set]) (w_narthexref03_Near N a0 a1 r h) H
-- narthex/narthexref11.turn
theorem w_narthexref11_turn (N : Nat) (a0 : List Int) (a1 : List Int) (a2 : Int) (r : Bool) (h : narthexref11_turn N a0 a1 a2 = some r) : Nx.Call Try.prog 37 [.c (.slv (a0.map eI)), .c (.slv (a1.map eI)), .c (I a2)] [] fun r' _ => r' = .c (B r) := by
  refine Nx.Call.of_body Try.func37 rfl en37 Try.ntmps37 rfl (fun Γ hok => ?_)
  unfold narthexref11_turn at h
  refine Wp.seq ?_
  refine Wp.text [0, 1, 2] rfl rfl ?_ -- region 0
  refine TextR.assign rfl ?_
  refine TextR.done (.cons rfl (.cons rfl (.cons rfl .nil))) ?_
  refine Wp.seq ?_
  refine Wp.seq ?_
  refine Wp.text [0, 1, 2, 7] rfl rfl ?_ -- region 1
  refine TextR.assign rfl ?_
  refine TextR.done (.cons rfl (.cons rfl (.cons rfl (.cons rfl .nil)))) ?_
  obtain ⟨z1, hz1, h⟩ := bind_some h
  refine Wp.fragR (fun S => ∃ z3, z1 = .inr z3 ∧ ∃ S', St.Weak ⟨Try.prog, 35, Γ⟩ S S' ∧ S' = ⟨[(0, .c (.slv (a0.map eI))), (2, .c (I a2))], []⟩) (fun S => ∃ v, z1 = .inl v ∧ Ret Try.prog Try.f37 (fun r' _ => r' = .c (B v)) .ret S) ?_ ?_ ?_
  · replace h := hz1
    refine Wp.block ?_
    refine Wp.weak (keepW (live := [0, 1, 2, 7]) (.cons rfl (.cons rfl (.cons rfl (.cons rfl .nil))))) ?_
    refine Wp.loop (fun m S => ∃ s7_1, narthexref11_turn_L1 N a0 a1 a2 m s7_1 = some z1 ∧ S = ⟨[(0, .c (.slv (a0.map eI))), (1, .c (.slv (a1.map eI))), (2, .c (I a2)), (7, .c (I s7_1))], []⟩) N ⟨_, h, rfl⟩ ?_
    rintro m1 _ ⟨s7_1, h, rfl⟩
    cases m1 with
    | zero => rw [narthexref11_turn_L1.eq_1] at h; cases h
    | succ m1 =>
    rw [narthexref11_turn_L1.eq_2] at h
    refine Wp.seq ?_
    refine Wp.seq ?_
    refine Wp.text [0, 1, 2, 7, 11] rfl rfl ?_ -- region 2
    refine TextR.move rfl ?_
    refine TextR.move rfl ?_
    refine TextR.lenM us25 rfl rfl ?_
    refine TextR.int rfl rfl rfl ?_
    refine TextR.done (.cons rfl (.cons rfl (.cons rfl (.cons rfl (.cons rfl .nil))))) ?_
    refine Wp.condM h rfl (fun hc2 h => ?_) (fun hc2 h => ?_)
    · refine Wp.skip ?_
      refine Wp.seq ?_
      refine Wp.block ?_
      refine Wp.seq ?_
      obtain ⟨x4, hx4, h⟩ := bind_some h
      obtain ⟨x5, hx5, h⟩ := bind_some h
      obtain ⟨x6, hx6, h⟩ := bind_some h
      refine Wp.go false none [[], [], [], [], [], [], [], [(20, true)], [(20, true)], [(20, true)], [(20, true)], [(20, true)], [(20, true)], [(20, true)], [(20, true)], []] [] [0, 1, 2, 7, 29] mixed rfl rfl (by kernel_rfl) ?_ -- region 4
      refine RunR.move rfl rfl rfl ?_
      refine RunR.move rfl rfl rfl ?_
      refine RunR.indexA se25 rfl rfl rfl rfl rfl hx4 rfl ?_
      refine RunR.load1M tk3 rfl rfl rfl (at_get hx4) rfl ?_
      refine RunR.move rfl rfl rfl ?_
      refine RunR.int rfl rfl rfl rfl rfl ?_
      refine RunR.move rfl rfl rfl ?_
      refine RunR.move rfl rfl rfl ?_
      refine RunR.move rfl rfl rfl ?_
      refine RunR.move rfl rfl rfl ?_
      refine RunR.indexAG se25 rfl rfl rfl rfl rfl (ifPos hx5 gT) (ifAt hx5 gT) rfl ?_
      refine RunR.load1G tk3 rfl rfl rfl (ifAt hx5 gT) rfl ?_
      refine RunR.indexAG se25 rfl rfl rfl rfl rfl (ifPos hx6 gT) (ifAt hx6 gT) rfl ?_
      refine RunR.load1G tk3 rfl rfl rfl (ifAt hx6 gT) rfl ?_
      refine RunR.int rfl rfl rfl rfl rfl ?_
      refine RunR.pickAnd rfl rfl rfl rfl ?_
      refine RunR.doneQ (.cons rfl (.cons rfl (.cons rfl (.cons rfl (.cons rfl .nil))))) ?_
      refine Wp.condM h rfl (fun hc3 h => ?_) (fun hc3 h => ?_)
      · refine Wp.seq ?_
        refine Wp.text [6] rfl rfl ?_ -- region 5
        refine TextR.assign rfl ?_
        refine TextR.done (.cons rfl .nil) ?_
        refine Wp.ret ?_
        exact ⟨_, (Option.some.inj h).symm, Ret.one rfl (resV_tmp rfl) rfl⟩
      · refine Wp.skip ?_
        refine Wp.text [0, 1, 2, 7] rfl rfl ?_ -- region 3
        refine TextR.move rfl ?_
        refine TextR.int rfl rfl rfl ?_
        refine TextR.assign rfl ?_
        refine TextR.done (.cons rfl (.cons rfl (.cons rfl (.cons rfl .nil)))) ?_
        exact ⟨m1, Nat.lt_succ_self _, _, (keepW (live := [0, 1, 2, 7]) (.cons rfl (.cons rfl (.cons rfl (.cons rfl .nil))))), _, h, rfl⟩
    · refine Wp.exit ?_
      exact ⟨_, (Option.some.inj h).symm, _, (keepW (live := [0, 2]) (.cons rfl (.cons rfl .nil))), rfl⟩
  · rintro _ ⟨z3, rfl, _, hw, rfl⟩
    dsimp only at h
    clear hz1
    refine Wp.weak hw ?_
    refine Wp.seq ?_
    obtain ⟨x7, hx7, h⟩ := bind_some h
    refine Wp.text [6] rfl rfl ?_ -- region 6
    refine TextR.move rfl ?_
    refine TextR.move rfl ?_
    refine TextR.indexA se25 rfl rfl rfl hx7 rfl ?_
    refine TextR.load1M tk3 rfl (at_get hx7) rfl ?_
    refine TextR.int rfl rfl rfl ?_
    refine TextR.assign rfl ?_
    refine TextR.done (.cons rfl .nil) ?_
    refine Wp.ret ?_
    obtain rfl := Option.some.inj h
    exact Ret.one rfl (resV_tmp rfl) rfl
  · rintro S' ⟨r2, rfl, hR⟩
    dsimp only at h
    obtain rfl := Option.some.inj h
    exact hR
theorem c_narthexref11_turn (N : Nat) (a0 : List Int) (a1 : List Int) (a2 : Int) (r : Bool) (h : narthexref11_turn N a0 a1 a2 = some r) (H : List Ob) : DCall Try.prog 37 [.c (.slv (a0.map eI)), .c (.slv (a1.map eI)), .c (I a2)] H (.c (B r)) := DCall.lift (by first | rfl | simp [-List.map_set]) (by first | rfl | simp [-List.map_set]) (fun _ => by simp [-List.map_set]) (w_narthexref11_turn N a0 a1 a2 r h) H
-- narthex/narthexref11.used
theorem w_narthexref11_used (N : Nat) (a0 : List Int) (a1 : List Int) (a2 : Int) (r : Bool) (h : narthexref11_used N a0 a1 a2 = some r) : Nx.Call Try.prog 38 [.c (.slv (a0.map eI)), .c (.slv (a1.map eI)), .c (I a2)] [] fun r' _ => r' = .c (B r) := by
  refine Nx.Call.of_body Try.func38 rfl en38 Try.ntmps38 rfl (fun Γ hok => ?_)
  unfold narthexref11_used at h
  refine Wp.seq ?_
  refine Wp.text [0, 1, 2] rfl rfl ?_ -- region 0
  refine TextR.assign rfl ?_
  refine TextR.done (.cons rfl (.cons rfl (.cons rfl .nil))) ?_
  refine Wp.seq ?_
  refine Wp.seq ?_
  refine Wp.text [0, 1, 2, 7] rfl rfl ?_ -- region 1
  refine TextR.assign rfl ?_
  refine TextR.done (.cons rfl (.cons rfl (.cons rfl (.cons rfl .nil)))) ?_
  obtain ⟨z1, hz1, h⟩ := bind_some h
  refine Wp.fragR (fun S => ∃ z3, z1 = .inr z3 ∧ ∃ S', St.Weak ⟨Try.prog, 23, Γ⟩ S S' ∧ S' = ⟨[], []⟩) (fun S => ∃ v, z1 = .inl v ∧ Ret Try.prog Try.f38 (fun r' _ => r' = .c (B v)) .ret S) ?_ ?_ ?_
  · replace h := hz1
    refine Wp.block ?_
    refine Wp.weak (keepW (live := [0, 1, 2, 7]) (.cons rfl (.cons rfl (.cons rfl (.cons rfl .nil))))) ?_
    refine Wp.loop (fun m S => ∃ s7_1, narthexref11_used_L1 N a0 a1 a2 m s7_1 = some z1 ∧ S = ⟨[(0, .c (.slv (a0.map eI))), (1, .c (.slv (a1.map eI))), (2, .c (I a2)), (7, .c (I s7_1))], []⟩) N ⟨_, h, rfl⟩ ?_
    rintro m1 _ ⟨s7_1, h, rfl⟩
    cases m1 with
    | zero => rw [narthexref11_used_L1.eq_1] at h; cases h
    | succ m1 =>
    rw [narthexref11_used_L1.eq_2] at h
    refine Wp.seq ?_
    refine Wp.seq ?_
    refine Wp.text [0, 1, 2, 7, 11] rfl rfl ?_ -- region 2
    refine TextR.move rfl ?_
    refine TextR.move rfl ?_
    refine TextR.lenM us25 rfl rfl ?_
    refine TextR.int rfl rfl rfl ?_
    refine TextR.done (.cons rfl (.cons rfl (.cons rfl (.cons rfl (.cons rfl .nil))))) ?_
    refine Wp.condM h rfl (fun hc2 h => ?_) (fun hc2 h => ?_)
    · refine Wp.skip ?_
      refine Wp.seq ?_
      refine Wp.block ?_
      refine Wp.seq ?_
      obtain ⟨x4, hx4, h⟩ := bind_some h
      obtain ⟨x5, hx5, h⟩ := bind_some h
      refine Wp.text [0, 1, 2, 7, 22] rfl rfl ?_ -- region 4
      refine TextR.move rfl ?_
      refine TextR.move rfl ?_
      refine TextR.move rfl ?_
      refine TextR.indexA se25 rfl rfl rfl hx4 rfl ?_
      refine TextR.load1M tk3 rfl (at_get hx4) rfl ?_
      refine TextR.indexA se25 rfl rfl rfl hx5 rfl ?_
      refine TextR.load1M tk3 rfl (at_get hx5) rfl ?_
      refine TextR.move rfl ?_
      refine TextR.int rfl rfl rfl ?_
      refine TextR.done (.cons rfl (.cons rfl (.cons rfl (.cons rfl (.cons rfl .nil))))) ?_
      refine Wp.condM h rfl (fun hc3 h => ?_) (fun hc3 h => ?_)
      · refine Wp.seq ?_
        refine Wp.text [6] rfl rfl ?_ -- region 5
        refine TextR.assign rfl ?_
        refine TextR.done (.cons rfl .nil) ?_
        refine Wp.ret ?_
        exact ⟨_, (Option.some.inj h).symm, Ret.one rfl (resV_tmp rfl) rfl⟩
      · refine Wp.skip ?_
        refine Wp.text [0, 1, 2, 7] rfl rfl ?_ -- region 3
        refine TextR.move rfl ?_
        refine TextR.int rfl rfl rfl ?_
        refine TextR.assign rfl ?_
        refine TextR.done (.cons rfl (.cons rfl (.cons rfl (.cons rfl .nil)))) ?_
        exact ⟨m1, Nat.lt_succ_self _, _, (keepW (live := [0, 1, 2, 7]) (.cons rfl (.cons rfl (.cons rfl (.cons rfl .nil))))), _, h, rfl⟩
    · refine Wp.exit ?_
      exact ⟨_, (Option.some.inj h).symm, _, (keepW (live := []) .nil), rfl⟩
  · rintro _ ⟨z3, rfl, _, hw, rfl⟩
    dsimp only at h
    clear hz1
    refine Wp.weak hw ?_
    refine Wp.seq ?_
    refine Wp.text [6] rfl rfl ?_ -- region 6
    refine TextR.assign rfl ?_
    refine TextR.done (.cons rfl .nil) ?_
    refine Wp.ret ?_
    obtain rfl := Option.some.inj h
    exact Ret.one rfl (resV_tmp rfl) rfl
  · rintro S' ⟨r2, rfl, hR⟩
    dsimp only at h
    obtain rfl := Option.some.inj h
    exact hR
theorem c_narthexref11_used (N : Nat) (a0 : List Int) (a1 : List Int) (a2 : Int) (r : Bool) (h : narthexref11_used N a0 a1 a2 = some r) (H : List Ob) : DCall Try.prog 38 [.c (.slv (a0.map eI)), .c (.slv (a1.map eI)), .c (I a2)] H (.c (B r)) := DCall.lift (by first | rfl | simp [-List.map_set]) (by first | rfl | simp [-List.map_set]) (fun _ => by simp [-List.map_set]) (w_narthexref11_used N a0 a1 a2 r h) H
-- narthex/narthexref11.Round
theorem w_narthexref11_Round (N : Nat) (a0 : TGraph) (a1 : List Int) (r : (List Int)) (h : narthexref11_Round N a0 a1 = some r) : Nx.Call Try.prog 20 [.agg (eGraph a0), .c (.slv (a1.map eI))] [] fun r' _ => r' = .c (.slv (r.map eI)) := by
  refine Nx.Call.of_body Try.func20 rfl en20 Try.ntmps20 rfl (fun Γ hok => ?_)
  unfold narthexref11_Round at h
  refine Wp.seq ?_
  refine Wp.text [1, 2] rfl rfl ?_ -- region 0
  refine TextR.box (cs := [I a0.N, .slv (a0.Edges.map eEdge)]) 0 rfl rfl rfl rfl .nil ?_
  refine TextR.assign rfl ?_
  refine TextR.done (.cons rfl (.cons rfl .nil)) ?_
  refine Wp.seq ?_
  refine Wp.text [1, 2, 5] rfl rfl ?_ -- region 1
  refine TextR.buildSlice  1 se25 rfl rfl rfl (.cons .nil) ?_
  refine TextR.assign rfl ?_
  refine TextR.done (.cons rfl (.cons rfl (.cons rfl .nil))) ?_
  refine Wp.seq ?_
  refine Wp.seq ?_
  refine Wp.text [1, 2, 5, 6] rfl rfl ?_ -- region 2
  refine TextR.assign rfl ?_
  refine TextR.done (.cons rfl (.cons rfl (.cons rfl (.cons rfl .nil)))) ?_
  obtain ⟨z1, hz1, h⟩ := bind_some h
  refine Wp.fragN (fun S => ∃ wz1_0, ∃ S', St.Weak ⟨Try.prog, 38, Γ⟩ S S' ∧ S' = ⟨[(5, .c (.sl 0 wz1_0 0 z1.length))], [.live wz1_0 1 (z1.map eI)]⟩) ?_ ?_
  · replace h := hz1
    refine Wp.block ?_
    refine Wp.weak (keepW (live := [1, 2, 5, 6]) (.cons rfl (.cons rfl (.cons rfl (.cons rfl .nil))))) ?_
    refine Wp.loop (fun m S => ∃ l1_1, ∃ s6_1, ∃ wh1_1, narthexref11_Round_L1 N a0 a1 m l1_1 s6_1 = some z1 ∧ S = ⟨[(1, .c (.slv (a1.map eI))), (2, .c (.ptr 0 0 0 0)), (5, .c (.sl 1 wh1_1 0 l1_1.length)), (6, .c (I s6_1))], [.live 0 2 [[I a0.N, .slv (a0.Edges.map eEdge)]], .live wh1_1 1 (l1_1.map eI)]⟩) N ⟨_, _, _, h, rfl⟩ ?_
    rintro m1 _ ⟨l1_1, s6_1, wh1_1, h, rfl⟩
    cases m1 with
    | zero => rw [narthexref11_Round_L1.eq_1] at h; cases h
    | succ m1 =>
    rw [narthexref11_Round_L1.eq_2] at h
    refine Wp.seq ?_
    refine Wp.seq ?_
    refine Wp.text [1, 2, 5, 6, 13] rfl rfl ?_ -- region 3
    refine TextR.move rfl ?_
    refine TextR.fieldAddr fo24_0 rfl rfl rfl ?_
    refine TextR.load1 tk3 rfl rfl ?_
    refine TextR.int rfl rfl rfl ?_
    refine TextR.done (.cons rfl (.cons rfl (.cons rfl (.cons rfl (.cons rfl .nil))))) ?_
    refine Wp.condM h rfl (fun hc2 h => ?_) (fun hc2 h => ?_)
    · refine Wp.skip ?_
      refine Wp.seq ?_
      refine Wp.block ?_
      refine Wp.seq ?_
      obtain ⟨y2, hy2, h⟩ := bind_some h
      obtain ⟨x3, hx3, h⟩ := bind_some h
      refine Wp.go true (some []) [] [] [1, 2, 5, 6, 7, 8] mixed rfl rfl (by kernel_rfl) ?_ -- region 5
      refine RunR.loadN (cs := [I a0.N, .slv (a0.Edges.map eEdge)]) tk24 rfl rfl rfl rfl ?_
      refine RunR.move rfl rfl rfl ?_
      refine RunR.call rfl rfl rfl (fun H => c_narthexref03_Near N a0 s6_1 y2 hy2 H) ?_
      refine RunR.move rfl rfl rfl ?_
      refine RunR.move rfl rfl rfl ?_
      refine RunR.indexA se25 rfl rfl rfl rfl rfl hx3 rfl ?_
      refine RunR.load1M tk3 rfl rfl rfl (at_get hx3) rfl ?_
      refine RunR.assign rfl rfl rfl ?_
      refine RunR.assign rfl rfl rfl ?_
      refine RunR.doneQ (.cons rfl (.cons rfl (.cons rfl (.cons rfl (.cons rfl (.cons rfl .nil)))))) ?_
      refine Wp.seq ?_
      refine Wp.seq ?_
      obtain ⟨y4, hy4, h⟩ := bind_some h
      refine Wp.text [1, 2, 5, 6, 7, 8, 26] rfl rfl ?_ -- region 6
      refine TextR.move rfl ?_
      refine TextR.move rfl ?_
      refine TextR.move rfl ?_
      refine TextR.dcall rfl rfl (c_narthexref11_turn N a1 y2 s6_1 y4 hy4 _) ?_
      refine TextR.done (.cons rfl (.cons rfl (.cons rfl (.cons rfl (.cons rfl (.cons rfl (.cons rfl .nil))))))) ?_
      refine Wp.condM h rfl (fun hc3 h => ?_) (fun hc3 h => ?_)
      · refine Wp.seq ?_
        refine Wp.text [1, 2, 5, 6, 7, 8] rfl rfl ?_ -- region 7
        refine TextR.assign rfl ?_
        refine TextR.done (.cons rfl (.cons rfl (.cons rfl (.cons rfl (.cons rfl (.cons rfl .nil)))))) ?_
        obtain ⟨z5, hz5, h⟩ := bind_some h
        refine Wp.fragN (fun S => ∃ S', St.Weak ⟨Try.prog, 38, Γ⟩ S S' ∧ S' = ⟨[(1, .c (.slv (a1.map eI))), (2, .c (.ptr 0 0 0 0)), (5, .c (.sl 1 wh1_1 0 l1_1.length)), (6, .c (I s6_1)), (8, .c (I z5))], [.live 0 2 [[I a0.N, .slv (a0.Edges.map eEdge)]], .live wh1_1 1 (l1_1.map eI)]⟩) ?_ ?_
        · replace h := hz5
          refine Wp.block ?_
          refine Wp.weak (keepW (live := [1, 2, 5, 6, 7, 8]) (.cons rfl (.cons rfl (.cons rfl (.cons rfl (.cons rfl (.cons rfl .nil))))))) ?_
          refine Wp.loop (fun m S => ∃ s8_2, narthexref11_Round_L2 N a1 y2 m s8_2 = some z5 ∧ S = ⟨[(1, .c (.slv (a1.map eI))), (2, .c (.ptr 0 0 0 0)), (5, .c (.sl 1 wh1_1 0 l1_1.length)), (6, .c (I s6_1)), (7, .c (.slv (y2.map eI))), (8, .c (I s8_2))], [.live 0 2 [[I a0.N, .slv (a0.Edges.map eEdge)]], .live wh1_1 1 (l1_1.map eI)]⟩) N ⟨_, h, rfl⟩ ?_
          rintro m2 _ ⟨s8_2, h, rfl⟩
          cases m2 with
          | zero => rw [narthexref11_Round_L2.eq_1] at h; cases h
          | succ m2 =>
          rw [narthexref11_Round_L2.eq_2] at h
          refine Wp.seq ?_
          refine Wp.seq ?_
          obtain ⟨y6, hy6, h⟩ := bind_some h
          refine Wp.text [1, 2, 5, 6, 7, 8, 30] rfl rfl ?_ -- region 8
          refine TextR.move rfl ?_
          refine TextR.move rfl ?_
          refine TextR.move rfl ?_
          refine TextR.dcall rfl rfl (c_narthexref11_used N a1 y2 s8_2 y6 hy6 _) ?_
          refine TextR.done (.cons rfl (.cons rfl (.cons rfl (.cons rfl (.cons rfl (.cons rfl (.cons rfl .nil))))))) ?_
          refine Wp.condM h rfl (fun hc5 h => ?_) (fun hc5 h => ?_)
          · refine Wp.skip ?_
            refine Wp.block ?_
            refine Wp.text [1, 2, 5, 6, 7, 8] rfl rfl ?_ -- region 9
            refine TextR.move rfl ?_
            refine TextR.int rfl rfl rfl ?_
            refine TextR.assign rfl ?_
            refine TextR.done (.cons rfl (.cons rfl (.cons rfl (.cons rfl (.cons rfl (.cons rfl .nil)))))) ?_
            exact ⟨m2, Nat.lt_succ_self _, _, (keepW (live := [1, 2, 5, 6, 7, 8]) (.cons rfl (.cons rfl (.cons rfl (.cons rfl (.cons rfl (.cons rfl .nil))))))), _, h, rfl⟩
          · refine Wp.exit ?_
            obtain rfl := Option.some.inj h
            exact ⟨_, (keepW (live := [1, 2, 5, 6, 8]) (.cons rfl (.cons rfl (.cons rfl (.cons rfl (.cons rfl .nil)))))), rfl⟩
        rintro _ ⟨S', hw, rfl⟩
        clear hz5
        refine Wp.weak hw ?_
        obtain ⟨x7, hx7, h⟩ := bind_some h
        refine Wp.text [1, 2, 5, 6] rfl rfl ?_ -- region 10
        refine TextR.move rfl ?_
        refine TextR.move rfl ?_
        refine TextR.buildSlice (rows := [z5].map eI) 2 se25 rfl rfl rfl (.cons (.cons .nil)) ?_
        refine TextR.appendM eI l1_1 [z5] x7 (app_eq hx7) se25 rfl (obj_of rfl) rfl (view_whole (f := eI) (xs := [z5]) rfl) (fun _ => rfl) rfl (app_len hx7) (.succ .zero) ?_
        refine TextR.assign rfl ?_
        refine TextR.done (.cons rfl (.cons rfl (.cons rfl (.cons rfl .nil)))) ?_
        refine Wp.text [1, 2, 5, 6] rfl rfl ?_ -- region 4
        refine TextR.move rfl ?_
        refine TextR.int rfl rfl rfl ?_
        refine TextR.assign rfl ?_
        refine TextR.done (.cons rfl (.cons rfl (.cons rfl (.cons rfl .nil)))) ?_
        exact ⟨m1, Nat.lt_succ_self _, _, (St.Weak.trans (keepW (live := [1, 2, 5, 6]) (.cons rfl (.cons rfl (.cons rfl (.cons rfl .nil))))) (pickT (e' := [(1, .c (.slv (a1.map eI))), (2, .c (.ptr 0 0 0 0)), (5, .c (.sl 1 (wh1_1 + 1) 0 x7.length)), (6, .c (I (w64 (s6_1 + 1))))]) (H' := [.live 0 2 [[I a0.N, .slv (a0.Edges.map eEdge)]], .live (wh1_1 + 1) 1 (x7.map eI)]) [0, 1] [0, 1, 0] 0 hok.len.symm rfl rfl (by decide) (by first | rfl | simp [-List.map_set]) (by first | rfl | simp [-List.map_set]) (by first | rfl | simp [-List.map_set]) (by first | rfl | simp [-List.map_set]))), _, _, _, h, rfl⟩
      · refine Wp.skip ?_
        obtain ⟨x8, hx8, h⟩ := bind_some h
        refine Wp.text [1, 2, 5, 6] rfl rfl ?_ -- region 10
        refine TextR.move rfl ?_
        refine TextR.move rfl ?_
        refine TextR.buildSlice (rows := [x3].map eI) 2 se25 rfl rfl rfl (.cons (.cons .nil)) ?_
        refine TextR.appendM eI l1_1 [x3] x8 (app_eq hx8) se25 rfl (obj_of rfl) rfl (view_whole (f := eI) (xs := [x3]) rfl) (fun _ => rfl) rfl (app_len hx8) (.succ .zero) ?_
        refine TextR.assign rfl ?_
        refine TextR.done (.cons rfl (.cons rfl (.cons rfl (.cons rfl .nil)))) ?_
        refine Wp.text [1, 2, 5, 6] rfl rfl ?_ -- region 4
        refine TextR.move rfl ?_
        refine TextR.int rfl rfl rfl ?_
        refine TextR.assign rfl ?_
        refine TextR.done (.cons rfl (.cons rfl (.cons rfl (.cons rfl .nil)))) ?_
        exact ⟨m1, Nat.lt_succ_self _, _, (St.Weak.trans (keepW (live := [1, 2, 5, 6]) (.cons rfl (.cons rfl (.cons rfl (.cons rfl .nil))))) (pickT (e' := [(1, .c (.slv (a1.map eI))), (2, .c (.ptr 0 0 0 0)), (5, .c (.sl 1 (wh1_1 + 1) 0 x8.length)), (6, .c (I (w64 (s6_1 + 1))))]) (H' := [.live 0 2 [[I a0.N, .slv (a0.Edges.map eEdge)]], .live (wh1_1 + 1) 1 (x8.map eI)]) [0, 1] [0, 1, 0] 0 hok.len.symm rfl rfl (by decide) (by first | rfl | simp [-List.map_set]) (by first | rfl | simp [-List.map_set]) (by first | rfl | simp [-List.map_set]) (by first | rfl | simp [-List.map_set]))), _, _, _, h, rfl⟩
    · refine Wp.exit ?_
      obtain rfl := Option.some.inj h
      exact ⟨_, _, (St.Weak.trans (keepW (live := [5]) (.cons rfl .nil)) (pickT (e' := [(5, .c (.sl 0 wh1_1 0 l1_1.length))]) (H' := [.live wh1_1 1 (l1_1.map eI)]) [1] [0, 0] 0 hok.len.symm rfl rfl (by decide) (by first | rfl | simp [-List.map_set]) (by first | rfl | simp [-List.map_set]) (by first | rfl | simp [-List.map_set]) (by first | rfl | simp [-List.map_set]))), rfl⟩
  rintro _ ⟨wz1_0, S', hw, rfl⟩
  clear hz1
  refine Wp.weak hw ?_
  refine Wp.seq ?_
  refine Wp.text [4] rfl rfl ?_ -- region 11
  refine TextR.move rfl ?_
  refine TextR.assign rfl ?_
  refine TextR.done (.cons rfl .nil) ?_
  refine Wp.weak (keepW (live := [4] ) (.cons rfl .nil)) ?_
  refine Wp.weak (freezeW (h := 0) (ver := wz1_0) (rows := z1.map eI) (e' := [(4, .c (.slv (z1.map eI)))]) (H' := [.dead]) (obj_of rfl) (by first | rfl | simp [-List.map_set]) (by first | rfl | simp [-List.map_set])) ?_
  refine Wp.ret ?_
  obtain rfl := Option.some.inj h
  exact Ret.one rfl (resV_tmp rfl) rfl
theorem c_narthexref11_Round (N : Nat) (a0 : TGraph) (a1 : List Int) (r : (List Int)) (h : narthexref11_Round N a0 a1 = some r) (H : List Ob) : DCall Try.prog 20 [.agg (eGraph a0), .c (.slv (a1.map eI))] H (.c (.slv (r.map eI))) := DCall.lift (by first | rfl | simp [-List.map_set]) (by first | rfl | simp [-List.map_set]) (fun _ => by simp [-List.map_set]) (w_narthexref11_Round N a0 a1 r h) H
-- narthex/narthexlaw11.ColourRounds
theorem w_narthexlaw11_ColourRounds (N : Nat) (a0 : TGraph) (a1 : List Int) (r : Bool) (h : narthexlaw11_ColourRounds N a0 a1 = some r) : Nx.Call Try.prog 3 [.agg (eGraph a0), .c (.slv (a1.map eI))] [] fun r' _ => r' = .c (B r) := by
  refine Nx.Call.of_body Try.func3 rfl en3 Try.ntmps3 rfl (fun Γ hok => ?_)
  unfold narthexlaw11_ColourRounds at h
  refine Wp.seq ?_
  refine Wp.text [1, 2] rfl rfl ?_ -- region 0
  refine TextR.box (cs := [I a0.N, .slv (a0.Edges.map eEdge)]) 0 rfl rfl rfl rfl .nil ?_
  refine TextR.assign rfl ?_
  refine TextR.done (.cons rfl (.cons rfl .nil)) ?_
  refine Wp.seq ?_
  refine Wp.seq ?_
  obtain ⟨y1, hy1, h⟩ := bind_some h
  obtain ⟨y2, hy2, h⟩ := bind_some h
  refine Wp.go false none [[], [], [], [(11, false)], [(11, false)], [(11, false)], [(11, false)], []] [] [1, 2, 16] mixed rfl rfl (by kernel_rfl) ?_ -- region 1
  refine RunR.call rfl rfl rfl (fun H => c_narthexlaw11_awake N y1 hy1 H) ?_
  refine RunR.not rfl rfl rfl ?_
  refine RunR.move rfl rfl rfl ?_
  refine RunR.loadN (cs := [I a0.N, .slv (a0.Edges.map eEdge)]) tk24 rfl rfl rfl rfl ?_
  refine RunR.move rfl rfl rfl ?_
  refine RunR.callG rfl rfl rfl (fun hb H => c_narthexlaw11_few N a0 a1 y2 (ifT hy2 gF hb) H) ?_
  refine RunR.not rfl rfl rfl ?_
  refine RunR.pickOr rfl rfl rfl rfl ?_
  refine RunR.doneQ (.cons rfl (.cons rfl (.cons rfl .nil))) ?_
  refine Wp.condM h rfl (fun hc1 h => ?_) (fun hc1 h => ?_)
  · refine Wp.seq ?_
    obtain ⟨y3, hy3, h⟩ := bind_some h
    refine Wp.text [4] rfl rfl ?_ -- region 2
    refine TextR.dcall rfl rfl (c_narthexlaw11_awake N y3 hy3 _) ?_
    refine TextR.assign rfl ?_
    refine TextR.done (.cons rfl .nil) ?_
    refine Wp.ret ?_
    obtain rfl := Option.some.inj h
    exact Ret.one rfl (resV_tmp rfl) rfl
  · refine Wp.skip ?_
    refine Wp.seq ?_
    obtain ⟨y4, hy4, h⟩ := bind_some h
    obtain ⟨y5, hy5, h⟩ := bind_some h
    obtain ⟨y6, hy6, h⟩ := bind_some h
    refine Wp.text [1, 2, 5, 6] rfl rfl ?_ -- region 3
    refine TextR.loadN (cs := [I a0.N, .slv (a0.Edges.map eEdge)]) tk24 rfl rfl ?_
    refine TextR.dcall rfl rfl (c_narthexlaw03_Own N a0 y4 hy4 _) ?_
    refine TextR.move rfl ?_
    refine TextR.dcall rfl rfl (c_narthexlaw11_own N a1 y5 hy5 _) ?_
    refine TextR.dcall rfl rfl (c_colour_Round N y4 y5 y6 hy6 _) ?_
    refine TextR.move rfl ?_
    refine TextR.extract rfl rfl ?_
    refine TextR.extract rfl rfl ?_
    refine TextR.assign rfl ?_
    refine TextR.assign rfl ?_
    refine TextR.done (.cons rfl (.cons rfl (.cons rfl (.cons rfl .nil)))) ?_
    refine Wp.seq ?_
    refine Wp.text [1, 2, 5, 6, 7] rfl rfl ?_ -- region 4
    refine TextR.assign rfl ?_
    refine TextR.done (.cons rfl (.cons rfl (.cons rfl (.cons rfl (.cons rfl .nil))))) ?_
    refine Wp.seq ?_
    refine Wp.seq ?_
    refine Wp.text [1, 2, 5, 6, 7, 8] rfl rfl ?_ -- region 5
    refine TextR.assign rfl ?_
    refine TextR.done (.cons rfl (.cons rfl (.cons rfl (.cons rfl (.cons rfl (.cons rfl .nil)))))) ?_
    obtain ⟨z7, hz7, h⟩ := bind_some h
    refine Wp.fragN (fun S => ∃ S', St.Weak ⟨Try.prog, 84, Γ⟩ S S' ∧ S' = ⟨[(1, .c (.slv (a1.map eI))), (2, .c (.ptr 0 0 0 0)), (5, .c (.slv (y6.1.map eI))), (6, .c (I y6.2)), (7, .c (I z7))], [.live 0 2 [[I a0.N, .slv (a0.Edges.map eEdge)]]]⟩) ?_ ?_
    · replace h := hz7
      refine Wp.block ?_
      refine Wp.weak (keepW (live := [1, 2, 5, 6, 7, 8]) (.cons rfl (.cons rfl (.cons rfl (.cons rfl (.cons rfl (.cons rfl .nil))))))) ?_
      refine Wp.loop (fun m S => ∃ s7_1, ∃ s8_1, narthexlaw11_ColourRounds_L1 N a1 m s7_1 s8_1 = some z7 ∧ S = ⟨[(1, .c (.slv (a1.map eI))), (2, .c (.ptr 0 0 0 0)), (5, .c (.slv (y6.1.map eI))), (6, .c (I y6.2)), (7, .c (I s7_1)), (8, .c (I s8_1))], [.live 0 2 [[I a0.N, .slv (a0.Edges.map eEdge)]]]⟩) N ⟨_, _, h, rfl⟩ ?_
      rintro m1 _ ⟨s7_1, s8_1, h, rfl⟩
      cases m1 with
      | zero => rw [narthexlaw11_ColourRounds_L1.eq_1] at h; cases h
      | succ m1 =>
      rw [narthexlaw11_ColourRounds_L1.eq_2] at h
      refine Wp.seq ?_
      refine Wp.seq ?_
      refine Wp.text [1, 2, 5, 6, 7, 8, 29] rfl rfl ?_ -- region 6
      refine TextR.move rfl ?_
      refine TextR.move rfl ?_
      refine TextR.lenM us25 rfl rfl ?_
      refine TextR.int rfl rfl rfl ?_
      refine TextR.done (.cons rfl (.cons rfl (.cons rfl (.cons rfl (.cons rfl (.cons rfl (.cons rfl .nil))))))) ?_
      refine Wp.condM h rfl (fun hc3 h => ?_) (fun hc3 h => ?_)
      · refine Wp.skip ?_
        refine Wp.seq ?_
        refine Wp.block ?_
        obtain ⟨x8, hx8, h⟩ := bind_some h
        refine Wp.text [1, 2, 5, 6, 7, 8] rfl rfl ?_ -- region 8
        refine TextR.move rfl ?_
        refine TextR.move rfl ?_
        refine TextR.move rfl ?_
        refine TextR.indexA se25 rfl rfl rfl hx8 rfl ?_
        refine TextR.load1M tk3 rfl (at_get hx8) rfl ?_
        refine TextR.minmax (.inr rfl) rfl ?_
        refine TextR.assign rfl ?_
        refine TextR.done (.cons rfl (.cons rfl (.cons rfl (.cons rfl (.cons rfl (.cons rfl .nil)))))) ?_
        refine Wp.text [1, 2, 5, 6, 7, 8] rfl rfl ?_ -- region 7
        refine TextR.move rfl ?_
        refine TextR.int rfl rfl rfl ?_
        refine TextR.assign rfl ?_
        refine TextR.done (.cons rfl (.cons rfl (.cons rfl (.cons rfl (.cons rfl (.cons rfl .nil)))))) ?_
        exact ⟨m1, Nat.lt_succ_self _, _, (keepW (live := [1, 2, 5, 6, 7, 8]) (.cons rfl (.cons rfl (.cons rfl (.cons rfl (.cons rfl (.cons rfl .nil))))))), _, _, h, rfl⟩
      · refine Wp.exit ?_
        obtain rfl := Option.some.inj h
        exact ⟨_, (keepW (live := [1, 2, 5, 6, 7]) (.cons rfl (.cons rfl (.cons rfl (.cons rfl (.cons rfl .nil)))))), rfl⟩
    rintro _ ⟨S', hw, rfl⟩
    clear hz7
    refine Wp.weak hw ?_
    refine Wp.seq ?_
    refine Wp.seq ?_
    obtain ⟨y9, hy9, h⟩ := bind_some h
    obtain ⟨y10, hy10, h⟩ := bind_some h
    obtain ⟨y11, hy11, h⟩ := bind_some h
    obtain ⟨y12, hy12, h⟩ := bind_some h
    obtain ⟨y13, hy13, h⟩ := bind_some h
    obtain ⟨y14, hy14, h⟩ := bind_some h
    refine Wp.go true (some []) [[], [], [], [], [], [], [], [], [], [], [(47, false)], [(47, false)], [(47, false)], [(47, false)], [(47, false)], []] [] [1, 2, 5, 6, 53] mixed rfl rfl (by kernel_rfl) ?_ -- region 9
    refine RunR.loadN (cs := [I a0.N, .slv (a0.Edges.map eEdge)]) tk24 rfl rfl rfl rfl ?_
    refine RunR.call rfl rfl rfl (fun H => c_narthexlaw03_Own N a0 y9 hy9 H) ?_
    refine RunR.move rfl rfl rfl ?_
    refine RunR.call rfl rfl rfl (fun H => c_narthexlaw11_own N a1 y10 hy10 H) ?_
    refine RunR.call rfl rfl rfl (fun H => c_colour_Right N y9 y10 y11 hy11 H) ?_
    refine RunR.loadN (cs := [I a0.N, .slv (a0.Edges.map eEdge)]) tk24 rfl rfl rfl rfl ?_
    refine RunR.move rfl rfl rfl ?_
    refine RunR.call rfl rfl rfl (fun H => c_narthexref11_Right N a0 a1 y12 hy12 H) ?_
    refine RunR.neBool (by kernel_rfl) rfl rfl rfl rfl ?_
    refine RunR.move rfl rfl rfl ?_
    refine RunR.move rfl rfl rfl ?_
    refine RunR.callG rfl rfl rfl (fun hb H => c_narthexlaw11_own N a1 y13 (ifT hy13 gF hb) H) ?_
    refine RunR.callG rfl rfl rfl (fun hb H => c_colour_Most N y13 y14 (ifT hy14 gF hb) H) ?_
    refine RunR.move rfl rfl rfl ?_
    refine RunR.int rfl rfl rfl rfl rfl ?_
    refine RunR.pickOr rfl rfl rfl rfl ?_
    refine RunR.doneQ (.cons rfl (.cons rfl (.cons rfl (.cons rfl (.cons rfl .nil))))) ?_
    refine Wp.condM h rfl (fun hc2 h => ?_) (fun hc2 h => ?_)
    · refine Wp.seq ?_
      refine Wp.text [4] rfl rfl ?_ -- region 10
      refine TextR.assign rfl ?_
      refine TextR.done (.cons rfl .nil) ?_
      refine Wp.ret ?_
      obtain rfl := Option.some.inj h
      exact Ret.one rfl (resV_tmp rfl) rfl
    · refine Wp.skip ?_
      refine Wp.seq ?_
      refine Wp.seq ?_
      obtain ⟨y15, hy15, h⟩ := bind_some h
      refine Wp.text [1, 2, 5, 6, 56] rfl rfl ?_ -- region 11
      refine TextR.loadN (cs := [I a0.N, .slv (a0.Edges.map eEdge)]) tk24 rfl rfl ?_
      refine TextR.dcall rfl rfl (c_narthexref03_Check N a0 y15 hy15 _) ?_
      refine TextR.not rfl ?_
      refine TextR.done (.cons rfl (.cons rfl (.cons rfl (.cons rfl (.cons rfl .nil))))) ?_
      refine Wp.condM h rfl (fun hc3 h => ?_) (fun hc3 h => ?_)
      · refine Wp.seq ?_
        refine Wp.go false none [[], [], [], [], [(60, true)], [(60, true)], [], []] [] [4] mixed rfl rfl (by kernel_rfl) ?_ -- region 12
        refine RunR.move rfl rfl rfl ?_
        refine RunR.lenM us25 rfl rfl rfl rfl ?_
        refine RunR.int rfl rfl rfl rfl rfl ?_
        refine RunR.move rfl rfl rfl ?_
        refine RunR.move rfl rfl rfl ?_
        refine RunR.int rfl rfl rfl rfl rfl ?_
        refine RunR.pickAnd rfl rfl rfl rfl ?_
        refine RunR.assign rfl rfl rfl ?_
        refine RunR.doneQ (.cons rfl .nil) ?_
        refine Wp.ret ?_
        obtain rfl := Option.some.inj h
        exact Ret.one rfl (resV_tmp rfl) rfl
      · refine Wp.skip ?_
        refine Wp.seq ?_
        refine Wp.seq ?_
        obtain ⟨y16, hy16, h⟩ := bind_some h
        refine Wp.text [1, 2, 5, 6, 67] rfl rfl ?_ -- region 13
        refine TextR.loadN (cs := [I a0.N, .slv (a0.Edges.map eEdge)]) tk24 rfl rfl ?_
        refine TextR.move rfl ?_
        refine TextR.dcall rfl rfl (c_narthexref11_Check N a0 a1 y16 hy16 _) ?_
        refine TextR.not rfl ?_
        refine TextR.done (.cons rfl (.cons rfl (.cons rfl (.cons rfl (.cons rfl .nil))))) ?_
        refine Wp.condM h rfl (fun hc4 h => ?_) (fun hc4 h => ?_)
        · refine Wp.seq ?_
          refine Wp.go false none [[], [], [], [], [(71, true)], [(71, true)], [], []] [] [4] mixed rfl rfl (by kernel_rfl) ?_ -- region 14
          refine RunR.move rfl rfl rfl ?_
          refine RunR.lenM us25 rfl rfl rfl rfl ?_
          refine RunR.int rfl rfl rfl rfl rfl ?_
          refine RunR.move rfl rfl rfl ?_
          refine RunR.move rfl rfl rfl ?_
          refine RunR.int rfl rfl rfl rfl rfl ?_
          refine RunR.pickAnd rfl rfl rfl rfl ?_
          refine RunR.assign rfl rfl rfl ?_
          refine RunR.doneQ (.cons rfl .nil) ?_
          refine Wp.ret ?_
          obtain rfl := Option.some.inj h
          exact Ret.one rfl (resV_tmp rfl) rfl
        · refine Wp.skip ?_
          refine Wp.seq ?_
          obtain ⟨y17, hy17, h⟩ := bind_some h
          obtain ⟨y18, hy18, h⟩ := bind_some h
          refine Wp.go false none [[], [], [], [], [], [], [(80, true)], [(80, true)], [], []] [] [4] mixed rfl rfl (by kernel_rfl) ?_ -- region 15
          refine RunR.move rfl rfl rfl ?_
          refine RunR.loadN (cs := [I a0.N, .slv (a0.Edges.map eEdge)]) tk24 rfl rfl rfl rfl ?_
          refine RunR.move rfl rfl rfl ?_
          refine RunR.call rfl rfl rfl (fun H => c_narthexref11_Round N a0 a1 y17 hy17 H) ?_
          refine RunR.call rfl rfl rfl (fun H => c_narthexref01_Same N y6.1 y17 y18 hy18 H) ?_
          refine RunR.move rfl rfl rfl ?_
          refine RunR.move rfl rfl rfl ?_
          refine RunR.int rfl rfl rfl rfl rfl ?_
          refine RunR.pickAnd rfl rfl rfl rfl ?_
          refine RunR.assign rfl rfl rfl ?_
          refine RunR.doneQ (.cons rfl .nil) ?_
          refine Wp.ret ?_
          obtain rfl := Option.some.inj h
          exact Ret.one rfl (resV_tmp rfl) rfl
theorem c_narthexlaw11_ColourRounds (N : Nat) (a0 : TGraph) (a1 : List Int) (r : Bool) (h : narthexlaw11_ColourRounds N a0 a1 = some r) (H : List Ob) : DCall Try.prog 3 [.agg (eGraph a0), .c (.slv (a1.map eI))] H (.c (B r)) := DCall.lift (by first | rfl | simp [-List.map_set]) (by first | rfl | simp [-List.map_set]) (fun _ => by simp [-List.map_set]) (w_narthexlaw11_ColourRounds N a0 a1 r h) H
-- narthex/narthexref11.Run
theorem w_narthexref11_Run (N : Nat) (a0 : TGraph) (r : (List Int) × Int) (h : narthexref11_Run N a0 = some r) : Nx.Call Try.prog 22 [.agg (eGraph a0)] [] fun r' _ => r' = .tup [.c (.slv (r.1.map eI)), .c (I r.2)] := by
  refine Nx.Call.of_body Try.func22 rfl en22 Try.ntmps22 rfl (fun Γ hok => ?_)
  unfold narthexref11_Run at h
  refine Wp.seq ?_
  refine Wp.text [1] rfl rfl ?_ -- region 0
  refine TextR.box (cs := [I a0.N, .slv (a0.Edges.map eEdge)]) 0 rfl rfl rfl rfl .nil ?_
  refine TextR.assign rfl ?_
  refine TextR.assign rfl ?_
  refine TextR.done (.cons rfl .nil) ?_
  refine Wp.seq ?_
  refine Wp.text [1, 4, 5] rfl rfl ?_ -- region 1
  refine TextR.buildSlice  1 se25 rfl rfl rfl (.cons .nil) ?_
  refine TextR.assign rfl ?_
  refine TextR.assign rfl ?_
  refine TextR.done (.cons rfl (.cons rfl (.cons rfl .nil))) ?_
  refine Wp.seq ?_
  refine Wp.seq ?_
  refine Wp.text [1, 4, 5, 6] rfl rfl ?_ -- region 2
  refine TextR.assign rfl ?_
  refine TextR.done (.cons rfl (.cons rfl (.cons rfl (.cons rfl .nil)))) ?_
  obtain ⟨z1, hz1, h⟩ := bind_some h
  refine Wp.fragN (fun S => ∃ wz1_1, ∃ S', St.Weak ⟨Try.prog, 26, Γ⟩ S S' ∧ S' = ⟨[(1, .c (.ptr 0 0 0 0)), (4, .c (.sl 1 wz1_1 0 z1.length)), (5, .c (I 0))], [.live 0 2 [[I a0.N, .slv (a0.Edges.map eEdge)]], .live wz1_1 1 (z1.map eI)]⟩) ?_ ?_
  · replace h := hz1
    refine Wp.block ?_
    refine Wp.weak (keepW (live := [1, 4, 5, 6]) (.cons rfl (.cons rfl (.cons rfl (.cons rfl .nil))))) ?_
    refine Wp.loop (fun m S => ∃ l1_1, ∃ s6_1, ∃ wh1_1, narthexref11_Run_L1 N a0 m l1_1 s6_1 = some z1 ∧ S = ⟨[(1, .c (.ptr 0 0 0 0)), (4, .c (.sl 1 wh1_1 0 l1_1.length)), (5, .c (I 0)), (6, .c (I s6_1))], [.live 0 2 [[I a0.N, .slv (a0.Edges.map eEdge)]], .live wh1_1 1 (l1_1.map eI)]⟩) N ⟨_, _, _, h, rfl⟩ ?_
    rintro m1 _ ⟨l1_1, s6_1, wh1_1, h, rfl⟩
    cases m1 with
    | zero => rw [narthexref11_Run_L1.eq_1] at h; cases h
    | succ m1 =>
    rw [narthexref11_Run_L1.eq_2] at h
    refine Wp.seq ?_
    refine Wp.seq ?_
    refine Wp.text [1, 4, 5, 6, 11] rfl rfl ?_ -- region 3
    refine TextR.move rfl ?_
    refine TextR.fieldAddr fo24_0 rfl rfl rfl ?_
    refine TextR.load1 tk3 rfl rfl ?_
    refine TextR.int rfl rfl rfl ?_
    refine TextR.done (.cons rfl (.cons rfl (.cons rfl (.cons rfl (.cons rfl .nil))))) ?_
    refine Wp.condM h rfl (fun hc2 h => ?_) (fun hc2 h => ?_)
    · refine Wp.skip ?_
      refine Wp.seq ?_
      refine Wp.block ?_
      obtain ⟨x2, hx2, h⟩ := bind_some h
      refine Wp.text [1, 4, 5, 6] rfl rfl ?_ -- region 5
      refine TextR.move rfl ?_
      refine TextR.buildSlice (rows := [0].map eI) 2 se25 rfl rfl rfl (.cons (.cons .nil)) ?_
      refine TextR.appendM eI l1_1 [0] x2 (app_eq hx2) se25 rfl (obj_of rfl) rfl (view_whole (f := eI) (xs := [0]) rfl) (fun _ => rfl) rfl (app_len hx2) (.succ .zero) ?_
      refine TextR.assign rfl ?_
      refine TextR.done (.cons rfl (.cons rfl (.cons rfl (.cons rfl .nil)))) ?_
      refine Wp.text [1, 4, 5, 6] rfl rfl ?_ -- region 4
      refine TextR.move rfl ?_
      refine TextR.int rfl rfl rfl ?_
      refine TextR.assign rfl ?_
      refine TextR.done (.cons rfl (.cons rfl (.cons rfl (.cons rfl .nil)))) ?_
      exact ⟨m1, Nat.lt_succ_self _, _, (St.Weak.trans (keepW (live := [1, 4, 5, 6]) (.cons rfl (.cons rfl (.cons rfl (.cons rfl .nil))))) (pickT (e' := [(1, .c (.ptr 0 0 0 0)), (4, .c (.sl 1 (wh1_1 + 1) 0 x2.length)), (5, .c (I 0)), (6, .c (I (w64 (s6_1 + 1))))]) (H' := [.live 0 2 [[I a0.N, .slv (a0.Edges.map eEdge)]], .live (wh1_1 + 1) 1 (x2.map eI)]) [0, 1] [0, 1, 0] 0 hok.len.symm rfl rfl (by decide) (by first | rfl | simp [-List.map_set]) (by first | rfl | simp [-List.map_set]) (by first | rfl | simp [-List.map_set]) (by first | rfl | simp [-List.map_set]))), _, _, _, h, rfl⟩
    · refine Wp.exit ?_
      obtain rfl := Option.some.inj h
      exact ⟨_, _, (keepW (live := [1, 4, 5]) (.cons rfl (.cons rfl (.cons rfl .nil)))), rfl⟩
  rintro _ ⟨wz1_1, S', hw, rfl⟩
  clear hz1
  refine Wp.weak hw ?_
  refine Wp.seq ?_
  obtain ⟨z3, hz3, h⟩ := bind_some h
  refine Wp.fragN (fun S => ∃ S', St.Weak ⟨Try.prog, 26, Γ⟩ S S' ∧ S' = ⟨[(4, .c (.slv (z3.1.map eI))), (5, .c (I z3.2))], []⟩) ?_ ?_
  · replace h := hz3
    refine Wp.block ?_
    refine Wp.weak (St.Weak.trans (keepW (live := [1, 4, 5]) (.cons rfl (.cons rfl (.cons rfl .nil)))) (St.Weak.trans (freezeW (h := 1) (ver := wz1_1) (rows := z1.map eI) (e' := [(1, .c (.ptr 0 0 0 0)), (4, .c (.slv (z1.map eI))), (5, .c (I 0))]) (H' := [.live 0 2 [[I a0.N, .slv (a0.Edges.map eEdge)]], .dead]) (obj_of rfl) (by first | rfl | simp [-List.map_set]) (by first | rfl | simp [-List.map_set])) (St.Weak.trans (keepW (live := [1, 4, 5]) (.cons rfl (.cons rfl (.cons rfl .nil)))) (pickT (e' := [(1, .c (.ptr 0 0 0 0)), (4, .c (.slv (z1.map eI))), (5, .c (I 0))]) (H' := [.live 0 2 [[I a0.N, .slv (a0.Edges.map eEdge)]]]) [0] [0, 0] 0 hok.len.symm rfl rfl (by decide) (by first | rfl | simp [-List.map_set]) (by first | rfl | simp [-List.map_set]) (by first | rfl | simp [-List.map_set]) (by first | rfl | simp [-List.map_set]))))) ?_
    refine Wp.loop (fun m S => ∃ s4_2, ∃ s5_2, narthexref11_Run_L2 N a0 m s4_2 s5_2 = some z3 ∧ S = ⟨[(1, .c (.ptr 0 0 0 0)), (4, .c (.slv (s4_2.map eI))), (5, .c (I s5_2))], [.live 0 2 [[I a0.N, .slv (a0.Edges.map eEdge)]]]⟩) N ⟨_, _, h, rfl⟩ ?_
    rintro m2 _ ⟨s4_2, s5_2, h, rfl⟩
    cases m2 with
    | zero => rw [narthexref11_Run_L2.eq_1] at h; cases h
    | succ m2 =>
    rw [narthexref11_Run_L2.eq_2] at h
    refine Wp.seq ?_
    refine Wp.seq ?_
    obtain ⟨y4, hy4, h⟩ := bind_some h
    refine Wp.text [1, 4, 5, 18] rfl rfl ?_ -- region 6
    refine TextR.move rfl ?_
    refine TextR.dcall rfl rfl (c_narthexref01_Has N s4_2 0 y4 hy4 _) ?_
    refine TextR.done (.cons rfl (.cons rfl (.cons rfl (.cons rfl .nil)))) ?_
    refine Wp.condM h rfl (fun hc2 h => ?_) (fun hc2 h => ?_)
    · refine Wp.skip ?_
      refine Wp.block ?_
      refine Wp.seq ?_
      obtain ⟨y5, hy5, h⟩ := bind_some h
      refine Wp.text [1, 4, 5] rfl rfl ?_ -- region 7
      refine TextR.loadN (cs := [I a0.N, .slv (a0.Edges.map eEdge)]) tk24 rfl rfl ?_
      refine TextR.move rfl ?_
      refine TextR.dcall rfl rfl (c_narthexref11_Round N a0 s4_2 y5 hy5 _) ?_
      refine TextR.assign rfl ?_
      refine TextR.done (.cons rfl (.cons rfl (.cons rfl .nil))) ?_
      refine Wp.text [1, 4, 5] rfl rfl ?_ -- region 8
      refine TextR.move rfl ?_
      refine TextR.int rfl rfl rfl ?_
      refine TextR.assign rfl ?_
      refine TextR.done (.cons rfl (.cons rfl (.cons rfl .nil))) ?_
      exact ⟨m2, Nat.lt_succ_self _, _, (keepW (live := [1, 4, 5]) (.cons rfl (.cons rfl (.cons rfl .nil)))), _, _, h, rfl⟩
    · refine Wp.exit ?_
      obtain rfl := Option.some.inj h
      exact ⟨_, (St.Weak.trans (keepW (live := [4, 5]) (.cons rfl (.cons rfl .nil))) (pickT (e' := [(4, .c (.slv (s4_2.map eI))), (5, .c (I s5_2))]) (H' := []) [] [0] 0 hok.len.symm rfl rfl (by decide) (by first | rfl | simp [-List.map_set]) (by first | rfl | simp [-List.map_set]) (by first | rfl | simp [-List.map_set]) (by first | rfl | simp [-List.map_set]))), rfl⟩
  rintro _ ⟨S', hw, rfl⟩
  clear hz3
  refine Wp.weak hw ?_
  refine Wp.seq ?_
  refine Wp.text [2, 3] rfl rfl ?_ -- region 9
  refine TextR.move rfl ?_
  refine TextR.move rfl ?_
  refine TextR.assign rfl ?_
  refine TextR.assign rfl ?_
  refine TextR.done (.cons rfl (.cons rfl .nil)) ?_
  refine Wp.ret ?_
  obtain rfl := Option.some.inj h
  exact Ret.two rfl (resV_tmp rfl) (resV_tmp rfl) rfl
theorem c_narthexref11_Run (N : Nat) (a0 : TGraph) (r : (List Int) × Int) (h : narthexref11_Run N a0 = some r) (H : List Ob) : DCall Try.prog 22 [.agg (eGraph a0)] H (.tup [.c (.slv (r.1.map eI)), .c (I r.2)]) := DCall.lift (by first | rfl | simp [-List.map_set]) (by first | rfl | simp [-List.map_set]) (fun _ => by simp [-List.map_set]) (w_narthexref11_Run N a0 r h) H
-- narthex/narthexlaw11.ColourRuns
theorem w_narthexlaw11_ColourRuns (N : Nat) (a0 : TGraph) (r : Bool) (h : narthexlaw11_ColourRuns N a0 = some r) : Nx.Call Try.prog 4 [.agg (eGraph a0)] [] fun r' _ => r' = .c (B r) := by
  refine Nx.Call.of_body Try.func4 rfl en4 Try.ntmps4 rfl (fun Γ hok => ?_)
  unfold narthexlaw11_ColourRuns at h
  refine Wp.seq ?_
  refine Wp.text [1] rfl rfl ?_ -- region 0
  refine TextR.box (cs := [I a0.N, .slv (a0.Edges.map eEdge)]) 0 rfl rfl rfl rfl .nil ?_
  refine TextR.assign rfl ?_
  refine TextR.done (.cons rfl .nil) ?_
  refine Wp.seq ?_
  refine Wp.seq ?_
  obtain ⟨y1, hy1, h⟩ := bind_some h
  obtain ⟨y2, hy2, h⟩ := bind_some h
  refine Wp.go false none [[], [], [], [(10, false)], [(10, false)], [(10, false)], []] [] [1, 14] mixed rfl rfl (by kernel_rfl) ?_ -- region 1
  refine RunR.call rfl rfl rfl (fun H => c_narthexlaw11_awake N y1 hy1 H) ?_
  refine RunR.not rfl rfl rfl ?_
  refine RunR.move rfl rfl rfl ?_
  refine RunR.loadN (cs := [I a0.N, .slv (a0.Edges.map eEdge)]) tk24 rfl rfl rfl rfl ?_
  refine RunR.callG rfl rfl rfl (fun hb H => DCall.nz rfl (c_narthexlaw11_few N a0 [] y2 (ifT hy2 gF hb) H)) ?_
  refine RunR.not rfl rfl rfl ?_
  refine RunR.pickOr rfl rfl rfl rfl ?_
  refine RunR.doneQ (.cons rfl (.cons rfl .nil)) ?_
  refine Wp.condM h rfl (fun hc1 h => ?_) (fun hc1 h => ?_)
  · refine Wp.seq ?_
    obtain ⟨y3, hy3, h⟩ := bind_some h
    refine Wp.text [2] rfl rfl ?_ -- region 2
    refine TextR.dcall rfl rfl (c_narthexlaw11_awake N y3 hy3 _) ?_
    refine TextR.assign rfl ?_
    refine TextR.done (.cons rfl .nil) ?_
    refine Wp.ret ?_
    obtain rfl := Option.some.inj h
    exact Ret.one rfl (resV_tmp rfl) rfl
  · refine Wp.skip ?_
    refine Wp.seq ?_
    obtain ⟨y4, hy4, h⟩ := bind_some h
    obtain ⟨y5, hy5, h⟩ := bind_some h
    refine Wp.text [1, 3, 4, 5] rfl rfl ?_ -- region 3
    refine TextR.loadN (cs := [I a0.N, .slv (a0.Edges.map eEdge)]) tk24 rfl rfl ?_
    refine TextR.dcall rfl rfl (c_narthexlaw03_Own N a0 y4 hy4 _) ?_
    refine TextR.dcall rfl rfl (c_colour_Run N y4 y5 hy5 _) ?_
    refine TextR.move rfl ?_
    refine TextR.extract rfl rfl ?_
    refine TextR.extract rfl rfl ?_
    refine TextR.extract rfl rfl ?_
    refine TextR.assign rfl ?_
    refine TextR.assign rfl ?_
    refine TextR.assign rfl ?_
    refine TextR.done (.cons rfl (.cons rfl (.cons rfl (.cons rfl .nil)))) ?_
    refine Wp.seq ?_
    refine Wp.seq ?_
    obtain ⟨y6, hy6, h⟩ := bind_some h
    refine Wp.text [1, 3, 4, 5, 25] rfl rfl ?_ -- region 4
    refine TextR.loadN (cs := [I a0.N, .slv (a0.Edges.map eEdge)]) tk24 rfl rfl ?_
    refine TextR.dcall rfl rfl (c_narthexref03_Check N a0 y6 hy6 _) ?_
    refine TextR.not rfl ?_
    refine TextR.done (.cons rfl (.cons rfl (.cons rfl (.cons rfl (.cons rfl .nil))))) ?_
    refine Wp.condM h rfl (fun hc2 h => ?_) (fun hc2 h => ?_)
    · refine Wp.seq ?_
      refine Wp.go false none [[], [], [], [], [(29, true)], [(29, true)], [], [], [(33, true)], [(33, true)], [], []] [] [2] mixed rfl rfl (by kernel_rfl) ?_ -- region 5
      refine RunR.move rfl rfl rfl ?_
      refine RunR.lenM us25 rfl rfl rfl rfl ?_
      refine RunR.int rfl rfl rfl rfl rfl ?_
      refine RunR.move rfl rfl rfl ?_
      refine RunR.move rfl rfl rfl ?_
      refine RunR.int rfl rfl rfl rfl rfl ?_
      refine RunR.pickAnd rfl rfl rfl rfl ?_
      refine RunR.move rfl rfl rfl ?_
      refine RunR.move rfl rfl rfl ?_
      refine RunR.int rfl rfl rfl rfl rfl ?_
      refine RunR.pickAnd rfl rfl rfl rfl ?_
      refine RunR.assign rfl rfl rfl ?_
      refine RunR.doneQ (.cons rfl .nil) ?_
      refine Wp.ret ?_
      obtain rfl := Option.some.inj h
      exact Ret.one rfl (resV_tmp rfl) rfl
    · refine Wp.skip ?_
      refine Wp.seq ?_
      obtain ⟨y7, hy7, h⟩ := bind_some h
      refine Wp.text [3, 4, 5, 6, 7] rfl rfl ?_ -- region 6
      refine TextR.loadN (cs := [I a0.N, .slv (a0.Edges.map eEdge)]) tk24 rfl rfl ?_
      refine TextR.dcall rfl rfl (c_narthexref11_Run N a0 y7 hy7 _) ?_
      refine TextR.move rfl ?_
      refine TextR.extract rfl rfl ?_
      refine TextR.extract rfl rfl ?_
      refine TextR.assign rfl ?_
      refine TextR.assign rfl ?_
      refine TextR.done (.cons rfl (.cons rfl (.cons rfl (.cons rfl (.cons rfl .nil))))) ?_
      refine Wp.seq ?_
      obtain ⟨y8, hy8, h⟩ := bind_some h
      refine Wp.go false none [[], [], [], [], [(45, true)], [(45, true)], [(45, true)], [], [], [(50, true)], [(50, true)], [], []] [] [2] mixed rfl rfl (by kernel_rfl) ?_ -- region 7
      refine RunR.move rfl rfl rfl ?_
      refine RunR.move rfl rfl rfl ?_
      refine RunR.call rfl rfl rfl (fun H => c_narthexref01_Same N y5.1 y7.1 y8 hy8 H) ?_
      refine RunR.move rfl rfl rfl ?_
      refine RunR.move rfl rfl rfl ?_
      refine RunR.move rfl rfl rfl ?_
      refine RunR.int rfl rfl rfl rfl rfl ?_
      refine RunR.pickAnd rfl rfl rfl rfl ?_
      refine RunR.move rfl rfl rfl ?_
      refine RunR.move rfl rfl rfl ?_
      refine RunR.int rfl rfl rfl rfl rfl ?_
      refine RunR.pickAnd rfl rfl rfl rfl ?_
      refine RunR.assign rfl rfl rfl ?_
      refine RunR.doneQ (.cons rfl .nil) ?_
      refine Wp.ret ?_
      obtain rfl := Option.some.inj h
      exact Ret.one rfl (resV_tmp rfl) rfl
theorem c_narthexlaw11_ColourRuns (N : Nat) (a0 : TGraph) (r : Bool) (h : narthexlaw11_ColourRuns N a0 = some r) (H : List Ob) : DCall Try.prog 4 [.agg (eGraph a0)] H (.c (B r)) := DCall.lift (by first | rfl | simp [-List.map_set]) (by first | rfl | simp [-List.map_set]) (fun _ => by simp [-List.map_set]) (w_narthexlaw11_ColourRuns N a0 r h) H
end Go.Proofs.Ytagmkgbkagpmnaa
