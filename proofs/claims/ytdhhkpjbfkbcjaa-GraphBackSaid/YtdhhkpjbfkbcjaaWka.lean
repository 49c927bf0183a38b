/- The functions do what their models say. -/
import Derived.Test.YtdhhkpjbfkbcjaaEnc
import Derived.Test.YtdhhkpjbfkbcjaaLaid
namespace Go.Proofs.Ytdhhkpjbfkbcjaa
open Go Go.Nx
set_option linter.unusedVariables false
set_option linter.unusedSimpArgs false
set_option linter.unnecessarySimpa false
set_option maxRecDepth 8000
attribute [local simp] putSeg List.map_take List.map_drop rvL rvK bwL hfVs hfV hfL hfAll hfRows mvV mvL mv0 sh0 mvO mpE mpV mpVs mpO fzL rnL rn0 ok0 nzI nzB nzN nzF nzP nzO nzQ nzC shL shV shO okV okL okO List.take_of_length_le h_Edge hm_Edge ok_eEdge okR_eEdge fx_eEdge fxR_eEdge h_I hm_I ok_eI okR_eI fx_eI fxR_eI h_Graph hm_Graph ok_eGraph okR_eGraph fx_eGraph fxR_eGraph
-- narthex/graph.Check$1
theorem w_graph_Check_1 (N : Nat) (a0 : TEdge) (c0_0 : Int) (c0_1 : List TEdge) (r : Bool) (h : graph_Check_1 N a0 c0_0 c0_1 = some r) : Nx.Call Try.prog 35 [.agg (eEdge a0), .c (.ptr 0 0 0 0)] [.live 0 2 [[I c0_0, .slv (c0_1.map eEdge)]]] fun r' H' => r' = .c (B r) ∧ ∃ junk, H' = [.live 0 2 [[I c0_0, .slv (c0_1.map eEdge)]]] ++ junk := by
  refine Nx.Call.of_body Try.func35 rfl en35 Try.ntmps35 rfl (fun Γ hok => ?_)
  unfold graph_Check_1 at h
  refine Wp.seq ?_
  refine Wp.text [1, 2] rfl rfl ?_ -- region 0
  refine TextR.box (cs := [I a0.A, I a0.B]) 1 rfl rfl rfl rfl (.cons .nil) ?_
  refine TextR.assign rfl ?_
  refine TextR.done (.cons rfl (.cons rfl .nil)) ?_
  refine Wp.seq ?_
  refine Wp.go false none [[], [], [], [], [(7, false)], [(7, false)], [(7, false)], [(7, false)], [(7, false)], [], [], [(14, false)], [(14, false)], [(14, false)], [(14, false)], [(14, false)], [], []] [] [3] mixed rfl rfl (by kernel_rfl) ?_ -- region 1
  refine RunR.fieldAddr fo37_0 rfl rfl rfl rfl rfl ?_
  refine RunR.load1 tk3 rfl rfl rfl rfl ?_
  refine RunR.int rfl rfl rfl rfl rfl ?_
  refine RunR.move rfl rfl rfl ?_
  refine RunR.fieldAddr fo37_0 rfl rfl rfl rfl rfl ?_
  refine RunR.load1 tk3 rfl rfl rfl rfl ?_
  refine RunR.fieldAddr fo37_1 rfl rfl rfl rfl rfl ?_
  refine RunR.load1 tk3 rfl rfl rfl rfl ?_
  refine RunR.int rfl rfl rfl rfl rfl ?_
  refine RunR.pickOr rfl rfl rfl rfl ?_
  refine RunR.move rfl rfl rfl ?_
  refine RunR.fieldAddr fo37_1 rfl rfl rfl rfl rfl ?_
  refine RunR.load1 tk3 rfl rfl rfl rfl ?_
  refine RunR.fieldAddr fo24_0 rfl rfl rfl rfl rfl ?_
  refine RunR.load1 tk3 rfl rfl rfl rfl ?_
  refine RunR.int rfl rfl rfl rfl rfl ?_
  refine RunR.pickOr rfl rfl rfl rfl ?_
  refine RunR.assign rfl rfl rfl ?_
  refine RunR.doneQ (.cons rfl .nil) ?_
  refine Wp.ret ?_
  obtain rfl := Option.some.inj h
  exact Ret.one rfl (resV_tmp rfl) ⟨rfl, _, rfl⟩
theorem c_graph_Check_1 (N : Nat) (a0 : TEdge) (c0_0 : Int) (c0_1 : List TEdge) (r : Bool) (h : graph_Check_1 N a0 c0_0 c0_1 = some r) : DCall Try.prog 35 [.agg (eEdge a0), .c (.ptr 0 0 0 0)] [.live 0 2 [[I c0_0, .slv (c0_1.map eEdge)]]] (.c (B r)) := Call.trim (by simp) (by first | rfl | simp [-List.map_set]) (by first | rfl | simp [-List.map_set]) (w_graph_Check_1 N a0 c0_0 c0_1 r h)
-- slices.IndexFunc[[]narthex/api.Edge,narthex/api.Edge]
theorem w_slices_IndexFunc_Edge (N : Nat) (a0 : List TEdge) (c0_0 : Int) (c0_1 : List TEdge) (r : Int) (h : slices_IndexFunc_Edge N a0 c0_0 c0_1 = some r) : Nx.Call Try.prog 45 [.c (.slv (a0.map eEdge)), .c (.clo 35 [.ptr 0 0 0 0])] [.live 0 2 [[I c0_0, .slv (c0_1.map eEdge)]]] fun r' H' => r' = .c (I r) ∧ ∃ junk, H' = [.live 0 2 [[I c0_0, .slv (c0_1.map eEdge)]]] ++ junk := by
  refine Nx.Call.of_body Try.func45 rfl en45 Try.ntmps45 rfl (fun Γ hok => ?_)
  unfold slices_IndexFunc_Edge at h
  refine Wp.seq ?_
  refine Wp.text [0, 1] rfl rfl ?_ -- region 0
  refine TextR.assign rfl ?_
  refine TextR.done (.cons rfl (.cons rfl .nil)) ?_
  refine Wp.seq ?_
  refine Wp.seq ?_
  refine Wp.text [0, 1, 7, 8] rfl rfl ?_ -- region 1
  refine TextR.move rfl ?_
  refine TextR.lenM us22 rfl rfl ?_
  refine TextR.move rfl ?_
  refine TextR.done (.cons rfl (.cons rfl (.cons rfl (.cons rfl .nil)))) ?_
  obtain ⟨z1, hz1, h⟩ := bind_some h
  refine Wp.fragR (fun S => ∃ z3, z1 = .inr z3 ∧ ∃ S', St.Weak ⟨Try.prog, 19, Γ⟩ S S' ∧ S' = ⟨[], [.live 0 2 [[I c0_0, .slv (c0_1.map eEdge)]]]⟩) (fun S => ∃ v, z1 = .inl v ∧ Ret Try.prog Try.f45 (fun r' H' => r' = .c (I v) ∧ ∃ junk, H' = [.live 0 2 [[I c0_0, .slv (c0_1.map eEdge)]]] ++ junk) .ret S) ?_ ?_ ?_
  · replace h := hz1
    refine Wp.block ?_
    refine Wp.weak (keepW (live := [0, 1, 7, 8]) (.cons rfl (.cons rfl (.cons rfl (.cons rfl .nil))))) ?_
    refine Wp.loop (fun m S => ∃ s8_1, slices_IndexFunc_Edge_L1 N a0 c0_0 c0_1 m s8_1 = some z1 ∧ S = ⟨[(0, .c (.slv (a0.map eEdge))), (1, .c (.clo 35 [.ptr 0 0 0 0])), (7, .c (I (a0.length : Int))), (8, .c (I s8_1))], [.live 0 2 [[I c0_0, .slv (c0_1.map eEdge)]]]⟩) N ⟨_, h, rfl⟩ ?_
    rintro m1 _ ⟨s8_1, h, rfl⟩
    cases m1 with
    | zero => rw [slices_IndexFunc_Edge_L1.eq_1] at h; cases h
    | succ m1 =>
    rw [slices_IndexFunc_Edge_L1.eq_2] at h
    refine Wp.seq ?_
    refine Wp.text [0, 1, 7, 8, 9] rfl rfl ?_ -- region 2
    refine TextR.int rfl rfl rfl ?_
    refine TextR.done (.cons rfl (.cons rfl (.cons rfl (.cons rfl (.cons rfl .nil))))) ?_
    refine Wp.seq ?_
    refine Wp.condM h rfl (fun hc2 h => ?_) (fun hc2 h => ?_)
    · refine Wp.skip ?_
      refine Wp.seq ?_
      refine Wp.block ?_
      refine Wp.seq ?_
      refine Wp.text [0, 1, 5, 7, 8] rfl rfl ?_ -- region 3
      refine TextR.move rfl ?_
      refine TextR.assign rfl ?_
      refine TextR.done (.cons rfl (.cons rfl (.cons rfl (.cons rfl (.cons rfl .nil))))) ?_
      refine Wp.seq ?_
      obtain ⟨x4, hx4, h⟩ := bind_some h
      obtain ⟨y5, hy5, h⟩ := bind_some h
      refine Wp.text [0, 1, 5, 7, 8, 16] rfl rfl ?_ -- region 4
      refine TextR.move rfl ?_
      refine TextR.move rfl ?_
      refine TextR.move rfl ?_
      refine TextR.indexA se22 rfl rfl rfl hx4 rfl ?_
      refine TextR.loadNM tk37 rfl (at_get hx4) rfl ?_
      refine TextR.dcall rfl rfl (c_graph_Check_1 N x4 c0_0 c0_1 y5 hy5) ?_
      refine TextR.done (.cons rfl (.cons rfl (.cons rfl (.cons rfl (.cons rfl (.cons rfl .nil)))))) ?_
      refine Wp.condM h rfl (fun hc3 h => ?_) (fun hc3 h => ?_)
      · refine Wp.seq ?_
        refine Wp.text [4] rfl rfl ?_ -- region 5
        refine TextR.move rfl ?_
        refine TextR.assign rfl ?_
        refine TextR.done (.cons rfl .nil) ?_
        refine Wp.ret ?_
        exact ⟨_, (Option.some.inj h).symm, Ret.one rfl (resV_tmp rfl) ⟨rfl, _, rfl⟩⟩
      · refine Wp.skip ?_
        refine Wp.text [0, 1, 7, 8] rfl rfl ?_ -- region 6
        refine TextR.int rfl rfl rfl ?_
        refine TextR.move rfl ?_
        refine TextR.done (.cons rfl (.cons rfl (.cons rfl (.cons rfl .nil)))) ?_
        exact ⟨m1, Nat.lt_succ_self _, _, (keepW (live := [0, 1, 7, 8]) (.cons rfl (.cons rfl (.cons rfl (.cons rfl .nil))))), _, h, rfl⟩
    · refine Wp.exit ?_
      exact ⟨_, (Option.some.inj h).symm, _, (keepW (live := []) .nil), rfl⟩
  · rintro _ ⟨z3, rfl, _, hw, rfl⟩
    dsimp only at h
    clear hz1
    refine Wp.weak hw ?_
    refine Wp.seq ?_
    refine Wp.text [4] rfl rfl ?_ -- region 7
    refine TextR.assign rfl ?_
    refine TextR.done (.cons rfl .nil) ?_
    refine Wp.ret ?_
    obtain rfl := Option.some.inj h
    exact Ret.one rfl (resV_tmp rfl) ⟨rfl, _, rfl⟩
  · rintro S' ⟨r2, rfl, hR⟩
    dsimp only at h
    obtain rfl := Option.some.inj h
    exact hR
theorem c_slices_IndexFunc_Edge (N : Nat) (a0 : List TEdge) (c0_0 : Int) (c0_1 : List TEdge) (r : Int) (h : slices_IndexFunc_Edge N a0 c0_0 c0_1 = some r) : DCall Try.prog 45 [.c (.slv (a0.map eEdge)), .c (.clo 35 [.ptr 0 0 0 0])] [.live 0 2 [[I c0_0, .slv (c0_1.map eEdge)]]] (.c (I r)) := Call.trim (by simp) (by first | rfl | simp [-List.map_set]) (by first | rfl | simp [-List.map_set]) (w_slices_IndexFunc_Edge N a0 c0_0 c0_1 r h)
-- slices.ContainsFunc[[]narthex/api.Edge,narthex/api.Edge]
theorem w_slices_ContainsFunc_Edge (N : Nat) (a0 : List TEdge) (c0_0 : Int) (c0_1 : List TEdge) (r : Bool) (h : slices_ContainsFunc_Edge N a0 c0_0 c0_1 = some r) : Nx.Call Try.prog 36 [.c (.slv (a0.map eEdge)), .c (.clo 35 [.ptr 0 0 0 0])] [.live 0 2 [[I c0_0, .slv (c0_1.map eEdge)]]] fun r' H' => r' = .c (B r) ∧ ∃ junk, H' = [.live 0 2 [[I c0_0, .slv (c0_1.map eEdge)]]] ++ junk := by
  refine Nx.Call.of_body Try.func36 rfl en36 Try.ntmps36 rfl (fun Γ hok => ?_)
  unfold slices_ContainsFunc_Edge at h
  refine Wp.seq ?_
  refine Wp.text [0, 1] rfl rfl ?_ -- region 0
  refine TextR.assign rfl ?_
  refine TextR.done (.cons rfl (.cons rfl .nil)) ?_
  refine Wp.seq ?_
  obtain ⟨y1, hy1, h⟩ := bind_some h
  refine Wp.text [4] rfl rfl ?_ -- region 1
  refine TextR.move rfl ?_
  refine TextR.move rfl ?_
  refine TextR.dcall rfl rfl (c_slices_IndexFunc_Edge N a0 c0_0 c0_1 y1 hy1) ?_
  refine TextR.int rfl rfl rfl ?_
  refine TextR.assign rfl ?_
  refine TextR.done (.cons rfl .nil) ?_
  refine Wp.ret ?_
  obtain rfl := Option.some.inj h
  exact Ret.one rfl (resV_tmp rfl) ⟨rfl, _, rfl⟩
theorem c_slices_ContainsFunc_Edge (N : Nat) (a0 : List TEdge) (c0_0 : Int) (c0_1 : List TEdge) (r : Bool) (h : slices_ContainsFunc_Edge N a0 c0_0 c0_1 = some r) : DCall Try.prog 36 [.c (.slv (a0.map eEdge)), .c (.clo 35 [.ptr 0 0 0 0])] [.live 0 2 [[I c0_0, .slv (c0_1.map eEdge)]]] (.c (B r)) := Call.trim (by simp) (by first | rfl | simp [-List.map_set]) (by first | rfl | simp [-List.map_set]) (w_slices_ContainsFunc_Edge N a0 c0_0 c0_1 r h)
-- cmp.isNaN[int]
theorem w_cmp_isNaN_int (N : Nat) (a0 : Int) (r : Bool) (h : cmp_isNaN_int N a0 = some r) : Nx.Call Try.prog 51 [.c (I a0)] [] fun r' _ => r' = .c (B r) := by
  refine Nx.Call.of_body Try.func51 rfl en51 Try.ntmps51 rfl (fun Γ hok => ?_)
  unfold cmp_isNaN_int at h
  refine Wp.seq ?_
  refine Wp.text [0] rfl rfl ?_ -- region 0
  refine TextR.assign rfl ?_
  refine TextR.done (.cons rfl .nil) ?_
  refine Wp.seq ?_
  refine Wp.text [2] rfl rfl ?_ -- region 1
  refine TextR.move rfl ?_
  refine TextR.move rfl ?_
  refine TextR.int rfl rfl rfl ?_
  refine TextR.assign rfl ?_
  refine TextR.done (.cons rfl .nil) ?_
  refine Wp.ret ?_
  obtain rfl := Option.some.inj h
  exact Ret.one rfl (resV_tmp rfl) rfl
theorem c_cmp_isNaN_int (N : Nat) (a0 : Int) (r : Bool) (h : cmp_isNaN_int N a0 = some r) (H : List Ob) : DCall Try.prog 51 [.c (I a0)] H (.c (B r)) := DCall.lift (by first | rfl | simp [-List.map_set]) (by first | rfl | simp [-List.map_set]) (fun _ => by simp [-List.map_set]) (w_cmp_isNaN_int N a0 r h) H
-- cmp.Compare[int]
theorem w_cmp_Compare_int (N : Nat) (a0 : Int) (a1 : Int) (r : Int) (h : cmp_Compare_int N a0 a1 = some r) : Nx.Call Try.prog 42 [.c (I a0), .c (I a1)] [] fun r' _ => r' = .c (I r) := by
  refine Nx.Call.of_body Try.func42 rfl en42 Try.ntmps42 rfl (fun Γ hok => ?_)
  unfold cmp_Compare_int at h
  refine Wp.seq ?_
  refine Wp.text [0, 1] rfl rfl ?_ -- region 0
  refine TextR.assign rfl ?_
  refine TextR.done (.cons rfl (.cons rfl .nil)) ?_
  refine Wp.seq ?_
  obtain ⟨y1, hy1, h⟩ := bind_some h
  refine Wp.text [0, 1, 5] rfl rfl ?_ -- region 1
  refine TextR.move rfl ?_
  refine TextR.dcall rfl rfl (c_cmp_isNaN_int N a0 y1 hy1 _) ?_
  refine TextR.assign rfl ?_
  refine TextR.done (.cons rfl (.cons rfl (.cons rfl .nil))) ?_
  refine Wp.seq ?_
  obtain ⟨y2, hy2, h⟩ := bind_some h
  refine Wp.text [0, 1, 5, 6] rfl rfl ?_ -- region 2
  refine TextR.move rfl ?_
  refine TextR.dcall rfl rfl (c_cmp_isNaN_int N a1 y2 hy2 _) ?_
  refine TextR.assign rfl ?_
  refine TextR.done (.cons rfl (.cons rfl (.cons rfl (.cons rfl .nil)))) ?_
  refine Wp.seq ?_
  refine Wp.seq ?_
  refine Wp.text [0, 1, 6, 11] rfl rfl ?_ -- region 3
  refine TextR.move rfl ?_
  refine TextR.done (.cons rfl (.cons rfl (.cons rfl (.cons rfl .nil)))) ?_
  refine Wp.condM h rfl (fun hc1 h => ?_) (fun hc1 h => ?_)
  · refine Wp.seq ?_
    refine Wp.seq ?_
    refine Wp.text [12] rfl rfl ?_ -- region 4
    refine TextR.move rfl ?_
    refine TextR.done (.cons rfl .nil) ?_
    refine Wp.condM h rfl (fun hc2 h => ?_) (fun hc2 h => ?_)
    · refine Wp.seq ?_
      refine Wp.text [4] rfl rfl ?_ -- region 5
      refine TextR.assign rfl ?_
      refine TextR.done (.cons rfl .nil) ?_
      refine Wp.ret ?_
      obtain rfl := Option.some.inj h
      exact Ret.one rfl (resV_tmp rfl) rfl
    · refine Wp.skip ?_
      refine Wp.seq ?_
      refine Wp.text [4] rfl rfl ?_ -- region 6
      refine TextR.assign rfl ?_
      refine TextR.done (.cons rfl .nil) ?_
      refine Wp.ret ?_
      obtain rfl := Option.some.inj h
      exact Ret.one rfl (resV_tmp rfl) rfl
  · refine Wp.skip ?_
    refine Wp.seq ?_
    refine Wp.seq ?_
    refine Wp.text [0, 1, 13] rfl rfl ?_ -- region 7
    refine TextR.move rfl ?_
    refine TextR.done (.cons rfl (.cons rfl (.cons rfl .nil))) ?_
    refine Wp.condM h rfl (fun hc2 h => ?_) (fun hc2 h => ?_)
    · refine Wp.seq ?_
      refine Wp.text [4] rfl rfl ?_ -- region 8
      refine TextR.assign rfl ?_
      refine TextR.done (.cons rfl .nil) ?_
      refine Wp.ret ?_
      obtain rfl := Option.some.inj h
      exact Ret.one rfl (resV_tmp rfl) rfl
    · refine Wp.skip ?_
      refine Wp.seq ?_
      refine Wp.seq ?_
      refine Wp.text [0, 1, 16] rfl rfl ?_ -- region 9
      refine TextR.move rfl ?_
      refine TextR.move rfl ?_
      refine TextR.int rfl rfl rfl ?_
      refine TextR.done (.cons rfl (.cons rfl (.cons rfl .nil))) ?_
      refine Wp.condM h rfl (fun hc3 h => ?_) (fun hc3 h => ?_)
      · refine Wp.seq ?_
        refine Wp.text [4] rfl rfl ?_ -- region 10
        refine TextR.assign rfl ?_
        refine TextR.done (.cons rfl .nil) ?_
        refine Wp.ret ?_
        obtain rfl := Option.some.inj h
        exact Ret.one rfl (resV_tmp rfl) rfl
      · refine Wp.skip ?_
        refine Wp.seq ?_
        refine Wp.seq ?_
        refine Wp.text [19] rfl rfl ?_ -- region 11
        refine TextR.move rfl ?_
        refine TextR.move rfl ?_
        refine TextR.int rfl rfl rfl ?_
        refine TextR.done (.cons rfl .nil) ?_
        refine Wp.condM h rfl (fun hc4 h => ?_) (fun hc4 h => ?_)
        · refine Wp.seq ?_
          refine Wp.text [4] rfl rfl ?_ -- region 12
          refine TextR.assign rfl ?_
          refine TextR.done (.cons rfl .nil) ?_
          refine Wp.ret ?_
          obtain rfl := Option.some.inj h
          exact Ret.one rfl (resV_tmp rfl) rfl
        · refine Wp.skip ?_
          refine Wp.seq ?_
          refine Wp.text [4] rfl rfl ?_ -- region 13
          refine TextR.assign rfl ?_
          refine TextR.done (.cons rfl .nil) ?_
          refine Wp.ret ?_
          obtain rfl := Option.some.inj h
          exact Ret.one rfl (resV_tmp rfl) rfl
theorem c_cmp_Compare_int (N : Nat) (a0 : Int) (a1 : Int) (r : Int) (h : cmp_Compare_int N a0 a1 = some r) (H : List Ob) : DCall Try.prog 42 [.c (I a0), .c (I a1)] H (.c (I r)) := DCall.lift (by first | rfl | simp [-List.map_set]) (by first | rfl | simp [-List.map_set]) (fun _ => by simp [-List.map_set]) (w_cmp_Compare_int N a0 a1 r h) H
-- cmp.Or[int]
theorem w_cmp_Or_int (N : Nat) (a0 : List Int) (r : Int) (h : cmp_Or_int N a0 = some r) : Nx.Call Try.prog 41 [.c (.slv (a0.map eI))] [] fun r' _ => r' = .c (I r) := by
  refine Nx.Call.of_body Try.func41 rfl en41 Try.ntmps41 rfl (fun Γ hok => ?_)
  unfold cmp_Or_int at h
  refine Wp.seq ?_
  refine Wp.text [0] rfl rfl ?_ -- region 0
  refine TextR.assign rfl ?_
  refine TextR.done (.cons rfl .nil) ?_
  refine Wp.seq ?_
  refine Wp.text [0, 3] rfl rfl ?_ -- region 1
  refine TextR.assign rfl ?_
  refine TextR.done (.cons rfl (.cons rfl .nil)) ?_
  refine Wp.seq ?_
  refine Wp.seq ?_
  refine Wp.text [3, 6, 7, 8] rfl rfl ?_ -- region 2
  refine TextR.move rfl ?_
  refine TextR.lenM us34 rfl rfl ?_
  refine TextR.move rfl ?_
  refine TextR.done (.cons rfl (.cons rfl (.cons rfl (.cons rfl .nil)))) ?_
  obtain ⟨z1, hz1, h⟩ := bind_some h
  refine Wp.fragR (fun S => ∃ z3, z1 = .inr z3 ∧ ∃ S', St.Weak ⟨Try.prog, 18, Γ⟩ S S' ∧ S' = ⟨[(3, .c (I 0))], []⟩) (fun S => ∃ v, z1 = .inl v ∧ Ret Try.prog Try.f41 (fun r' _ => r' = .c (I v)) .ret S) ?_ ?_ ?_
  · replace h := hz1
    refine Wp.block ?_
    refine Wp.weak (keepW (live := [3, 6, 7, 8]) (.cons rfl (.cons rfl (.cons rfl (.cons rfl .nil))))) ?_
    refine Wp.loop (fun m S => ∃ s8_1, cmp_Or_int_L1 N a0 m s8_1 = some z1 ∧ S = ⟨[(3, .c (I 0)), (6, .c (.slv (a0.map eI))), (7, .c (I (a0.length : Int))), (8, .c (I s8_1))], []⟩) N ⟨_, h, rfl⟩ ?_
    rintro m1 _ ⟨s8_1, h, rfl⟩
    cases m1 with
    | zero => rw [cmp_Or_int_L1.eq_1] at h; cases h
    | succ m1 =>
    rw [cmp_Or_int_L1.eq_2] at h
    refine Wp.seq ?_
    refine Wp.text [3, 6, 7, 8, 9] rfl rfl ?_ -- region 3
    refine TextR.int rfl rfl rfl ?_
    refine TextR.done (.cons rfl (.cons rfl (.cons rfl (.cons rfl (.cons rfl .nil))))) ?_
    refine Wp.seq ?_
    refine Wp.condM h rfl (fun hc2 h => ?_) (fun hc2 h => ?_)
    · refine Wp.skip ?_
      refine Wp.seq ?_
      refine Wp.block ?_
      refine Wp.seq ?_
      obtain ⟨x4, hx4, h⟩ := bind_some h
      refine Wp.text [3, 5, 6, 7, 8] rfl rfl ?_ -- region 4
      refine TextR.indexA se34 rfl rfl rfl hx4 rfl ?_
      refine TextR.load1M tk3 rfl (at_get hx4) rfl ?_
      refine TextR.assign rfl ?_
      refine TextR.done (.cons rfl (.cons rfl (.cons rfl (.cons rfl (.cons rfl .nil))))) ?_
      refine Wp.seq ?_
      refine Wp.text [3, 5, 6, 7, 8, 14] rfl rfl ?_ -- region 5
      refine TextR.move rfl ?_
      refine TextR.move rfl ?_
      refine TextR.int rfl rfl rfl ?_
      refine TextR.done (.cons rfl (.cons rfl (.cons rfl (.cons rfl (.cons rfl (.cons rfl .nil)))))) ?_
      refine Wp.condM h rfl (fun hc3 h => ?_) (fun hc3 h => ?_)
      · refine Wp.seq ?_
        refine Wp.text [2] rfl rfl ?_ -- region 6
        refine TextR.move rfl ?_
        refine TextR.assign rfl ?_
        refine TextR.done (.cons rfl .nil) ?_
        refine Wp.ret ?_
        exact ⟨_, (Option.some.inj h).symm, Ret.one rfl (resV_tmp rfl) rfl⟩
      · refine Wp.skip ?_
        refine Wp.text [3, 6, 7, 8] rfl rfl ?_ -- region 7
        refine TextR.int rfl rfl rfl ?_
        refine TextR.move rfl ?_
        refine TextR.done (.cons rfl (.cons rfl (.cons rfl (.cons rfl .nil)))) ?_
        exact ⟨m1, Nat.lt_succ_self _, _, (keepW (live := [3, 6, 7, 8]) (.cons rfl (.cons rfl (.cons rfl (.cons rfl .nil))))), _, h, rfl⟩
    · refine Wp.exit ?_
      exact ⟨_, (Option.some.inj h).symm, _, (keepW (live := [3]) (.cons rfl .nil)), rfl⟩
  · rintro _ ⟨z3, rfl, _, hw, rfl⟩
    dsimp only at h
    clear hz1
    refine Wp.weak hw ?_
    refine Wp.seq ?_
    refine Wp.text [2] rfl rfl ?_ -- region 8
    refine TextR.move rfl ?_
    refine TextR.assign rfl ?_
    refine TextR.done (.cons rfl .nil) ?_
    refine Wp.ret ?_
    obtain rfl := Option.some.inj h
    exact Ret.one rfl (resV_tmp rfl) rfl
  · rintro S' ⟨r2, rfl, hR⟩
    dsimp only at h
    obtain rfl := Option.some.inj h
    exact hR
-- narthex/graph.rank
theorem w_graph_rank (N : Nat) (a0 : TEdge) (a1 : TEdge) (r : Int) (h : graph_rank N a0 a1 = some r) : Nx.Call Try.prog 26 [.agg (eEdge a0), .agg (eEdge a1)] [] fun r' _ => r' = .c (I r) := by
  refine Nx.Call.of_body Try.func26 rfl en26 Try.ntmps26 rfl (fun Γ hok => ?_)
  unfold graph_rank at h
  refine Wp.seq ?_
  refine Wp.text [2, 3] rfl rfl ?_ -- region 0
  refine TextR.box (cs := [I a0.A, I a0.B]) 0 rfl rfl rfl rfl .nil ?_
  refine TextR.box (cs := [I a1.A, I a1.B]) 1 rfl rfl rfl rfl (.cons .nil) ?_
  refine TextR.assign rfl ?_
  refine TextR.done (.cons rfl (.cons rfl .nil)) ?_
  refine Wp.seq ?_
  obtain ⟨y1, hy1, h⟩ := bind_some h
  obtain ⟨y2, hy2, h⟩ := bind_some h
  obtain ⟨y3, hy3, h⟩ := bind_some h
  refine Wp.go true (some ⟨[2], []⟩) [] [] [4] mixed rfl rfl (by kernel_rfl) ?_ -- region 1
  refine RunR.fieldAddr fo37_0 rfl rfl rfl rfl rfl ?_
  refine RunR.load1 tk3 rfl rfl rfl rfl ?_
  refine RunR.fieldAddr fo37_0 rfl rfl rfl rfl rfl ?_
  refine RunR.load1 tk3 rfl rfl rfl rfl ?_
  refine RunR.call rfl rfl rfl (fun H => c_cmp_Compare_int N a0.A a1.A y1 hy1 H) ?_
  refine RunR.fieldAddr fo37_1 rfl rfl rfl rfl rfl ?_
  refine RunR.load1 tk3 rfl rfl rfl rfl ?_
  refine RunR.fieldAddr fo37_1 rfl rfl rfl rfl rfl ?_
  refine RunR.load1 tk3 rfl rfl rfl rfl ?_
  refine RunR.call rfl rfl rfl (fun H => c_cmp_Compare_int N a0.B a1.B y2 hy2 H) ?_
  refine RunR.buildSlice (rows := [y1, y2].map eI) 2 se34 rfl rfl rfl rfl rfl (.cons (.cons .nil)) ?_
  refine RunR.callH rfl rfl rfl rfl (fun hb => (DCall.borrow (fs := [.c (.slv ([y1, y2].map eI))]) (by simp [-List.map_set, obj, List.take_of_length_le]) (by first | rfl | simp [-List.map_set]) rfl (w_cmp_Or_int N [y1, y2] y3 hy3))) ?_
  refine RunR.assign rfl rfl rfl ?_
  refine RunR.doneQ (.cons rfl .nil) ?_
  refine Wp.ret ?_
  obtain rfl := Option.some.inj h
  exact Ret.one rfl (resV_tmp rfl) rfl
theorem c_graph_rank (N : Nat) (a0 : TEdge) (a1 : TEdge) (r : Int) (h : graph_rank N a0 a1 = some r) (H : List Ob) : DCall Try.prog 26 [.agg (eEdge a0), .agg (eEdge a1)] H (.c (I r)) := DCall.lift (by first | rfl | simp [-List.map_set]) (by first | rfl | simp [-List.map_set]) (fun _ => by simp [-List.map_set]) (w_graph_rank N a0 a1 r h) H
-- narthex/graph.Check
theorem w_graph_Check (N : Nat) (a0 : TGraph) (r : Int) (h : graph_Check N a0 = some r) : Nx.Call Try.prog 15 [.agg (eGraph a0)] [] fun r' _ => r' = .c (I r) := by
  refine Nx.Call.of_body Try.func15 rfl en15 Try.ntmps15 rfl (fun Γ hok => ?_)
  unfold graph_Check at h
  refine Wp.seq ?_
  refine Wp.text [1] rfl rfl ?_ -- region 0
  refine TextR.box (cs := [I a0.N, .slv (a0.Edges.map eEdge)]) 0 rfl rfl rfl rfl .nil ?_
  refine TextR.assign rfl ?_
  refine TextR.done (.cons rfl .nil) ?_
  refine Wp.seq ?_
  refine Wp.text [1, 3] rfl rfl ?_ -- region 1
  refine TextR.makeFunc rfl ?_
  refine TextR.assign rfl ?_
  refine TextR.done (.cons rfl (.cons rfl .nil)) ?_
  refine Wp.seq ?_
  refine Wp.seq ?_
  obtain ⟨y1, hy1, h⟩ := bind_some h
  refine Wp.go false none [[], [], [], [], [(9, false)], [(9, false)], [(9, false)], [], [], [(14, false)], [(14, false)], [(14, false)], [(14, false)], [], [], [(20, false)], [(20, false)], [(20, false)], [(20, false)], []] [] [1, 25] mixed rfl rfl (by kernel_rfl) ?_ -- region 2
  refine RunR.fieldAddr fo24_0 rfl rfl rfl rfl rfl ?_
  refine RunR.load1 tk3 rfl rfl rfl rfl ?_
  refine RunR.int rfl rfl rfl rfl rfl ?_
  refine RunR.move rfl rfl rfl ?_
  refine RunR.fieldAddr fo24_0 rfl rfl rfl rfl rfl ?_
  refine RunR.load1 tk3 rfl rfl rfl rfl ?_
  refine RunR.int rfl rfl rfl rfl rfl ?_
  refine RunR.pickOr rfl rfl rfl rfl ?_
  refine RunR.move rfl rfl rfl ?_
  refine RunR.fieldAddr fo24_1 rfl rfl rfl rfl rfl ?_
  refine RunR.load1 tk22 rfl rfl rfl rfl ?_
  refine RunR.lenM us22 rfl rfl rfl rfl ?_
  refine RunR.int rfl rfl rfl rfl rfl ?_
  refine RunR.pickOr rfl rfl rfl rfl ?_
  refine RunR.move rfl rfl rfl ?_
  refine RunR.fieldAddr fo24_1 rfl rfl rfl rfl rfl ?_
  refine RunR.load1 tk22 rfl rfl rfl rfl ?_
  refine RunR.move rfl rfl rfl ?_
  refine RunR.callH rfl rfl rfl rfl (fun hb => c_slices_ContainsFunc_Edge N a0.Edges a0.N a0.Edges y1 (ifT hy1 gF hb)) ?_
  refine RunR.pickOr rfl rfl rfl rfl ?_
  refine RunR.doneQ (.cons rfl (.cons rfl .nil)) ?_
  refine Wp.condM h rfl (fun hc1 h => ?_) (fun hc1 h => ?_)
  · refine Wp.seq ?_
    refine Wp.text [2] rfl rfl ?_ -- region 3
    refine TextR.assign rfl ?_
    refine TextR.done (.cons rfl .nil) ?_
    refine Wp.ret ?_
    obtain rfl := Option.some.inj h
    exact Ret.one rfl (resV_tmp rfl) rfl
  · refine Wp.skip ?_
    refine Wp.seq ?_
    refine Wp.seq ?_
    refine Wp.text [1, 28, 29] rfl rfl ?_ -- region 4
    refine TextR.fieldAddr fo24_1 rfl rfl rfl ?_
    refine TextR.load1 tk22 rfl rfl ?_
    refine TextR.lenM us22 rfl rfl ?_
    refine TextR.move rfl ?_
    refine TextR.done (.cons rfl (.cons rfl (.cons rfl .nil))) ?_
    obtain ⟨z2, hz2, h⟩ := bind_some h
    refine Wp.fragR (fun S => ∃ z4, z2 = .inr z4 ∧ ∃ S', St.Weak ⟨Try.prog, 50, Γ⟩ S S' ∧ S' = ⟨[], []⟩) (fun S => ∃ v, z2 = .inl v ∧ Ret Try.prog Try.f15 (fun r' _ => r' = .c (I v)) .ret S) ?_ ?_ ?_
    · replace h := hz2
      refine Wp.block ?_
      refine Wp.weak (keepW (live := [1, 28, 29]) (.cons rfl (.cons rfl (.cons rfl .nil)))) ?_
      refine Wp.loop (fun m S => ∃ s29_1, graph_Check_L1 N a0 m s29_1 = some z2 ∧ S = ⟨[(1, .c (.ptr 0 0 0 0)), (28, .c (I (a0.Edges.length : Int))), (29, .c (I s29_1))], [.live 0 2 [[I a0.N, .slv (a0.Edges.map eEdge)]]]⟩) N ⟨_, h, rfl⟩ ?_
      rintro m1 _ ⟨s29_1, h, rfl⟩
      cases m1 with
      | zero => rw [graph_Check_L1.eq_1] at h; cases h
      | succ m1 =>
      rw [graph_Check_L1.eq_2] at h
      refine Wp.seq ?_
      refine Wp.text [1, 28, 29, 30] rfl rfl ?_ -- region 5
      refine TextR.int rfl rfl rfl ?_
      refine TextR.done (.cons rfl (.cons rfl (.cons rfl (.cons rfl .nil)))) ?_
      refine Wp.seq ?_
      refine Wp.condM h rfl (fun hc3 h => ?_) (fun hc3 h => ?_)
      · refine Wp.skip ?_
        refine Wp.seq ?_
        refine Wp.block ?_
        refine Wp.seq ?_
        refine Wp.text [1, 4, 28, 29] rfl rfl ?_ -- region 6
        refine TextR.move rfl ?_
        refine TextR.assign rfl ?_
        refine TextR.done (.cons rfl (.cons rfl (.cons rfl (.cons rfl .nil)))) ?_
        refine Wp.seq ?_
        obtain ⟨x5, hx5, h⟩ := bind_some h
        obtain ⟨x6, hx6, h⟩ := bind_some h
        obtain ⟨y7, hy7, h⟩ := bind_some h
        refine Wp.go true (some ⟨[], []⟩) [[], [], [], [(34, true)], [(34, true)], [(34, true)], [(34, true)], [(34, true)], [(34, true)], [(34, true)], [(34, true)], [(34, true)], [(34, true)], [(34, true)], [(34, true)], [(34, true)], []] [] [1, 28, 29, 48] mixed rfl rfl (by kernel_rfl) ?_ -- region 7
        refine RunR.move rfl rfl rfl ?_
        refine RunR.int rfl rfl rfl rfl rfl ?_
        refine RunR.move rfl rfl rfl ?_
        refine RunR.fieldAddr fo24_1 rfl rfl rfl rfl rfl ?_
        refine RunR.load1 tk22 rfl rfl rfl rfl ?_
        refine RunR.move rfl rfl rfl ?_
        refine RunR.int rfl rfl rfl rfl rfl ?_
        refine RunR.indexAG se22 rfl rfl rfl rfl rfl (ifPos hx5 gT) (ifAt hx5 gT) rfl ?_
        refine RunR.loadNG tk37 rfl rfl rfl (ifAt hx5 gT) rfl ?_
        refine RunR.fieldAddr fo24_1 rfl rfl rfl rfl rfl ?_
        refine RunR.load1 tk22 rfl rfl rfl rfl ?_
        refine RunR.move rfl rfl rfl ?_
        refine RunR.indexAG se22 rfl rfl rfl rfl rfl (ifPos hx6 gT) (ifAt hx6 gT) rfl ?_
        refine RunR.loadNG tk37 rfl rfl rfl (ifAt hx6 gT) rfl ?_
        refine RunR.callG rfl rfl rfl (fun hb H => c_graph_rank N x5 x6 y7 (ifT hy7 gT hb) H) ?_
        refine RunR.int rfl rfl rfl rfl rfl ?_
        refine RunR.pickAnd rfl rfl rfl rfl ?_
        refine RunR.doneQ (.cons rfl (.cons rfl (.cons rfl (.cons rfl .nil)))) ?_
        refine Wp.condM h rfl (fun hc4 h => ?_) (fun hc4 h => ?_)
        · refine Wp.seq ?_
          refine Wp.text [2] rfl rfl ?_ -- region 8
          refine TextR.assign rfl ?_
          refine TextR.done (.cons rfl .nil) ?_
          refine Wp.ret ?_
          exact ⟨_, (Option.some.inj h).symm, Ret.one rfl (resV_tmp rfl) rfl⟩
        · refine Wp.skip ?_
          refine Wp.text [1, 28, 29] rfl rfl ?_ -- region 9
          refine TextR.int rfl rfl rfl ?_
          refine TextR.move rfl ?_
          refine TextR.done (.cons rfl (.cons rfl (.cons rfl .nil))) ?_
          exact ⟨m1, Nat.lt_succ_self _, _, (keepW (live := [1, 28, 29]) (.cons rfl (.cons rfl (.cons rfl .nil)))), _, h, rfl⟩
      · refine Wp.exit ?_
        exact ⟨_, (Option.some.inj h).symm, _, (St.Weak.trans (keepW (live := []) .nil) (pickT (e' := []) (H' := []) [] [0] 0 hok.len.symm rfl rfl (by decide) (by first | rfl | simp [-List.map_set]) (by first | rfl | simp [-List.map_set]) (by first | rfl | simp [-List.map_set]) (by first | rfl | simp [-List.map_set]))), rfl⟩
    · rintro _ ⟨z4, rfl, _, hw, rfl⟩
      dsimp only at h
      clear hz2
      refine Wp.weak hw ?_
      refine Wp.seq ?_
      refine Wp.text [2] rfl rfl ?_ -- region 10
      refine TextR.assign rfl ?_
      refine TextR.done (.cons rfl .nil) ?_
      refine Wp.ret ?_
      obtain rfl := Option.some.inj h
      exact Ret.one rfl (resV_tmp rfl) rfl
    · rintro S' ⟨r3, rfl, hR⟩
      dsimp only at h
      obtain rfl := Option.some.inj h
      exact hR
theorem c_graph_Check (N : Nat) (a0 : TGraph) (r : Int) (h : graph_Check N a0 = some r) (H : List Ob) : DCall Try.prog 15 [.agg (eGraph a0)] H (.c (I r)) := DCall.lift (by first | rfl | simp [-List.map_set]) (by first | rfl | simp [-List.map_set]) (fun _ => by simp [-List.map_set]) (w_graph_Check N a0 r h) H
-- narthex/graph.edge
theorem w_graph_edge (N : Nat) (a0 : Int) (a1 : Int) (r : TEdge) (h : graph_edge N a0 a1 = some r) : Nx.Call Try.prog 25 [.c (I a0), .c (I a1)] [] fun r' _ => r' = .agg (eEdge r) := by
  refine Nx.Call.of_body Try.func25 rfl en25 Try.ntmps25 rfl (fun Γ hok => ?_)
  unfold graph_edge at h
  refine Wp.seq ?_
  refine Wp.text [0, 1, 4] rfl rfl ?_ -- region 0
  refine TextR.alloc 0 zc37 rfl rfl .nil ?_
  refine TextR.done (.cons rfl (.cons rfl (.cons rfl .nil))) ?_
  refine Wp.seq ?_
  refine Wp.text [4] rfl rfl ?_ -- region 1
  refine TextR.move rfl ?_
  refine TextR.move rfl ?_
  refine TextR.minmax (.inl rfl) rfl ?_
  refine TextR.move rfl ?_
  refine TextR.move rfl ?_
  refine TextR.minmax (.inr rfl) rfl ?_
  refine TextR.build cm37 rfl ?_
  refine TextR.store1 tk37 rfl rfl rfl rfl rfl rfl .zero ?_
  refine TextR.done (.cons rfl .nil) ?_
  refine Wp.ret ?_
  obtain rfl := Option.some.inj h
  exact Ret.one rfl (resV_cellN tk37 rfl rfl) rfl
theorem c_graph_edge (N : Nat) (a0 : Int) (a1 : Int) (r : TEdge) (h : graph_edge N a0 a1 = some r) (H : List Ob) : DCall Try.prog 25 [.c (I a0), .c (I a1)] H (.agg (eEdge r)) := DCall.lift (by first | rfl | simp [-List.map_set]) (by first | rfl | simp [-List.map_set]) (fun _ => by simp [-List.map_set]) (w_graph_edge N a0 a1 r h) H
-- narthex/graph.told
theorem w_graph_told (N : Nat) (a0 : TGraph) (a1 : Int) (a2 : Int) (r : Int) (h : graph_told N a0 a1 a2 = some r) : Nx.Call Try.prog 23 [.agg (eGraph a0), .c (I a1), .c (I a2)] [] fun r' _ => r' = .c (I r) := by
  refine Nx.Call.of_body Try.func23 rfl en23 Try.ntmps23 rfl (fun Γ hok => ?_)
  unfold graph_told at h
  refine Wp.seq ?_
  refine Wp.text [1, 2, 3] rfl rfl ?_ -- region 0
  refine TextR.box (cs := [I a0.N, .slv (a0.Edges.map eEdge)]) 0 rfl rfl rfl rfl .nil ?_
  refine TextR.assign rfl ?_
  refine TextR.done (.cons rfl (.cons rfl (.cons rfl .nil))) ?_
  refine Wp.seq ?_
  obtain ⟨y1, hy1, h⟩ := bind_some h
  refine Wp.text [1, 2, 3, 7] rfl rfl ?_ -- region 1
  refine TextR.loadN (cs := [I a0.N, .slv (a0.Edges.map eEdge)]) tk24 rfl rfl ?_
  refine TextR.dcall rfl rfl (c_graph_Check N a0 y1 hy1 _) ?_
  refine TextR.assign rfl ?_
  refine TextR.done (.cons rfl (.cons rfl (.cons rfl (.cons rfl .nil)))) ?_
  refine Wp.seq ?_
  refine Wp.seq ?_
  obtain ⟨y2, hy2, h⟩ := bind_some h
  refine Wp.text [3, 7, 8] rfl rfl ?_ -- region 2
  refine TextR.move rfl ?_
  refine TextR.move rfl ?_
  refine TextR.dcall rfl rfl (c_graph_edge N a1 a2 y2 hy2 _) ?_
  refine TextR.alloc 1 zc37 rfl rfl (.cons .nil) ?_
  refine TextR.store1 tk37 rfl rfl rfl rfl rfl rfl (.succ .zero) ?_
  refine TextR.done (.cons rfl (.cons rfl (.cons rfl .nil))) ?_
  refine Wp.seq ?_
  refine Wp.go false none [[], [], [], [(16, true)], [(16, true)], [(16, true)], [(16, true)], [(20, false), (16, true)], [(20, false), (16, true)], [(20, false), (16, true)], [(20, false), (16, true)], [(20, false), (16, true)], [(16, true)], [(16, true)], [(27, false), (16, true)], [(27, false), (16, true)], [(27, false), (16, true)], [(27, false), (16, true)], [(27, false), (16, true)], [(16, true)], []] [] [7, 34] mixed rfl rfl (by kernel_rfl) ?_ -- region 3
  refine RunR.move rfl rfl rfl ?_
  refine RunR.int rfl rfl rfl rfl rfl ?_
  refine RunR.move rfl rfl rfl ?_
  refine RunR.fieldAddr fo37_0 rfl rfl rfl rfl rfl ?_
  refine RunR.load1 tk3 rfl rfl rfl rfl ?_
  refine RunR.int rfl rfl rfl rfl rfl ?_
  refine RunR.move rfl rfl rfl ?_
  refine RunR.fieldAddr fo37_0 rfl rfl rfl rfl rfl ?_
  refine RunR.load1 tk3 rfl rfl rfl rfl ?_
  refine RunR.fieldAddr fo37_1 rfl rfl rfl rfl rfl ?_
  refine RunR.load1 tk3 rfl rfl rfl rfl ?_
  refine RunR.int rfl rfl rfl rfl rfl ?_
  refine RunR.pickOr rfl rfl rfl rfl ?_
  refine RunR.move rfl rfl rfl ?_
  refine RunR.fieldAddr fo37_1 rfl rfl rfl rfl rfl ?_
  refine RunR.load1 tk3 rfl rfl rfl rfl ?_
  refine RunR.fieldAddr fo24_0 rfl rfl rfl rfl rfl ?_
  refine RunR.load1 tk3 rfl rfl rfl rfl ?_
  refine RunR.int rfl rfl rfl rfl rfl ?_
  refine RunR.pickOr rfl rfl rfl rfl ?_
  refine RunR.pickAnd rfl rfl rfl rfl ?_
  refine RunR.doneQ (.cons rfl (.cons rfl .nil)) ?_
  refine Wp.condM h rfl (fun hc1 h => ?_) (fun hc1 h => ?_)
  · refine Wp.seq ?_
    refine Wp.text [6] rfl rfl ?_ -- region 4
    refine TextR.assign rfl ?_
    refine TextR.done (.cons rfl .nil) ?_
    refine Wp.ret ?_
    obtain rfl := Option.some.inj h
    exact Ret.one rfl (resV_tmp rfl) rfl
  · refine Wp.skip ?_
    refine Wp.seq ?_
    refine Wp.text [6] rfl rfl ?_ -- region 5
    refine TextR.move rfl ?_
    refine TextR.assign rfl ?_
    refine TextR.done (.cons rfl .nil) ?_
    refine Wp.ret ?_
    obtain rfl := Option.some.inj h
    exact Ret.one rfl (resV_tmp rfl) rfl
theorem c_graph_told (N : Nat) (a0 : TGraph) (a1 : Int) (a2 : Int) (r : Int) (h : graph_told N a0 a1 a2 = some r) (H : List Ob) : DCall Try.prog 23 [.agg (eGraph a0), .c (I a1), .c (I a2)] H (.c (I r)) := DCall.lift (by first | rfl | simp [-List.map_set]) (by first | rfl | simp [-List.map_set]) (fun _ => by simp [-List.map_set]) (w_graph_told N a0 a1 a2 r h) H
-- slices.Index[[]narthex/api.Edge,narthex/api.Edge]
theorem w_slices_Index_Edge (N : Nat) (a0 : List TEdge) (a1 : TEdge) (r : Int) (h : slices_Index_Edge N a0 a1 = some r) : Nx.Call Try.prog 46 [.c (.slv (a0.map eEdge)), .agg (eEdge a1)] [] fun r' _ => r' = .c (I r) := by
  refine Nx.Call.of_body Try.func46 rfl en46 Try.ntmps46 rfl (fun Γ hok => ?_)
  unfold slices_Index_Edge at h
  refine Wp.seq ?_
  refine Wp.text [0, 3] rfl rfl ?_ -- region 0
  refine TextR.box (cs := [I a1.A, I a1.B]) 0 rfl rfl rfl rfl .nil ?_
  refine TextR.assign rfl ?_
  refine TextR.done (.cons rfl (.cons rfl .nil)) ?_
  refine Wp.seq ?_
  refine Wp.seq ?_
  refine Wp.text [0, 3, 7, 8] rfl rfl ?_ -- region 1
  refine TextR.move rfl ?_
  refine TextR.lenM us22 rfl rfl ?_
  refine TextR.move rfl ?_
  refine TextR.done (.cons rfl (.cons rfl (.cons rfl (.cons rfl .nil)))) ?_
  obtain ⟨z1, hz1, h⟩ := bind_some h
  refine Wp.fragR (fun S => ∃ z3, z1 = .inr z3 ∧ ∃ S', St.Weak ⟨Try.prog, 19, Γ⟩ S S' ∧ S' = ⟨[], []⟩) (fun S => ∃ v, z1 = .inl v ∧ Ret Try.prog Try.f46 (fun r' _ => r' = .c (I v)) .ret S) ?_ ?_ ?_
  · replace h := hz1
    refine Wp.block ?_
    refine Wp.weak (keepW (live := [0, 3, 7, 8]) (.cons rfl (.cons rfl (.cons rfl (.cons rfl .nil))))) ?_
    refine Wp.loop (fun m S => ∃ s8_1, slices_Index_Edge_L1 N a0 a1 m s8_1 = some z1 ∧ S = ⟨[(0, .c (.slv (a0.map eEdge))), (3, .c (.ptr 0 0 0 0)), (7, .c (I (a0.length : Int))), (8, .c (I s8_1))], [.live 0 2 [[I a1.A, I a1.B]]]⟩) N ⟨_, h, rfl⟩ ?_
    rintro m1 _ ⟨s8_1, h, rfl⟩
    cases m1 with
    | zero => rw [slices_Index_Edge_L1.eq_1] at h; cases h
    | succ m1 =>
    rw [slices_Index_Edge_L1.eq_2] at h
    refine Wp.seq ?_
    refine Wp.text [0, 3, 7, 8, 9] rfl rfl ?_ -- region 2
    refine TextR.int rfl rfl rfl ?_
    refine TextR.done (.cons rfl (.cons rfl (.cons rfl (.cons rfl (.cons rfl .nil))))) ?_
    refine Wp.seq ?_
    refine Wp.condM h rfl (fun hc2 h => ?_) (fun hc2 h => ?_)
    · refine Wp.skip ?_
      refine Wp.seq ?_
      refine Wp.block ?_
      refine Wp.seq ?_
      refine Wp.text [0, 3, 5, 7, 8] rfl rfl ?_ -- region 3
      refine TextR.move rfl ?_
      refine TextR.assign rfl ?_
      refine TextR.done (.cons rfl (.cons rfl (.cons rfl (.cons rfl (.cons rfl .nil))))) ?_
      refine Wp.seq ?_
      obtain ⟨x4, hx4, h⟩ := bind_some h
      refine Wp.go true (some ⟨[], []⟩) [] [] [0, 3, 5, 7, 8, 16] mixed rfl rfl (by kernel_rfl) ?_ -- region 4
      refine RunR.loadN (cs := [I a1.A, I a1.B]) tk37 rfl rfl rfl rfl ?_
      refine RunR.move rfl rfl rfl ?_
      refine RunR.move rfl rfl rfl ?_
      refine RunR.indexA se22 rfl rfl rfl rfl rfl hx4 rfl ?_
      refine RunR.loadNM tk37 rfl rfl rfl (at_get hx4) rfl ?_
      refine RunR.eqAgg eqs37 rfl rfl rfl rfl (q_Edge a1 x4) ?_
      refine RunR.doneQ (.cons rfl (.cons rfl (.cons rfl (.cons rfl (.cons rfl (.cons rfl .nil)))))) ?_
      refine Wp.condM h rfl (fun hc3 h => ?_) (fun hc3 h => ?_)
      · refine Wp.seq ?_
        refine Wp.text [4] rfl rfl ?_ -- region 5
        refine TextR.move rfl ?_
        refine TextR.assign rfl ?_
        refine TextR.done (.cons rfl .nil) ?_
        refine Wp.ret ?_
        exact ⟨_, (Option.some.inj h).symm, Ret.one rfl (resV_tmp rfl) rfl⟩
      · refine Wp.skip ?_
        refine Wp.text [0, 3, 7, 8] rfl rfl ?_ -- region 6
        refine TextR.int rfl rfl rfl ?_
        refine TextR.move rfl ?_
        refine TextR.done (.cons rfl (.cons rfl (.cons rfl (.cons rfl .nil)))) ?_
        exact ⟨m1, Nat.lt_succ_self _, _, (keepW (live := [0, 3, 7, 8]) (.cons rfl (.cons rfl (.cons rfl (.cons rfl .nil))))), _, h, rfl⟩
    · refine Wp.exit ?_
      exact ⟨_, (Option.some.inj h).symm, _, (St.Weak.trans (keepW (live := []) .nil) (pickT (e' := []) (H' := []) [] [0] 0 hok.len.symm rfl rfl (by decide) (by first | rfl | simp [-List.map_set]) (by first | rfl | simp [-List.map_set]) (by first | rfl | simp [-List.map_set]) (by first | rfl | simp [-List.map_set]))), rfl⟩
  · rintro _ ⟨z3, rfl, _, hw, rfl⟩
    dsimp only at h
    clear hz1
    refine Wp.weak hw ?_
    refine Wp.seq ?_
    refine Wp.text [4] rfl rfl ?_ -- region 7
    refine TextR.assign rfl ?_
    refine TextR.done (.cons rfl .nil) ?_
    refine Wp.ret ?_
    obtain rfl := Option.some.inj h
    exact Ret.one rfl (resV_tmp rfl) rfl
  · rintro S' ⟨r2, rfl, hR⟩
    dsimp only at h
    obtain rfl := Option.some.inj h
    exact hR
theorem c_slices_Index_Edge (N : Nat) (a0 : List TEdge) (a1 : TEdge) (r : Int) (h : slices_Index_Edge N a0 a1 = some r) (H : List Ob) : DCall Try.prog 46 [.c (.slv (a0.map eEdge)), .agg (eEdge a1)] H (.c (I r)) := DCall.lift (by first | rfl | simp [-List.map_set]) (by first | rfl | simp [-List.map_set]) (fun _ => by simp [-List.map_set]) (w_slices_Index_Edge N a0 a1 r h) H
-- slices.Contains[[]narthex/api.Edge,narthex/api.Edge]
theorem w_slices_Contains_Edge (N : Nat) (a0 : List TEdge) (a1 : TEdge) (r : Bool) (h : slices_Contains_Edge N a0 a1 = some r) : Nx.Call Try.prog 37 [.c (.slv (a0.map eEdge)), .agg (eEdge a1)] [] fun r' _ => r' = .c (B r) := by
  refine Nx.Call.of_body Try.func37 rfl en37 Try.ntmps37 rfl (fun Γ hok => ?_)
  unfold slices_Contains_Edge at h
  refine Wp.seq ?_
  refine Wp.text [0, 3] rfl rfl ?_ -- region 0
  refine TextR.box (cs := [I a1.A, I a1.B]) 0 rfl rfl rfl rfl .nil ?_
  refine TextR.assign rfl ?_
  refine TextR.done (.cons rfl (.cons rfl .nil)) ?_
  refine Wp.seq ?_
  obtain ⟨y1, hy1, h⟩ := bind_some h
  refine Wp.text [4] rfl rfl ?_ -- region 1
  refine TextR.move rfl ?_
  refine TextR.loadN (cs := [I a1.A, I a1.B]) tk37 rfl rfl ?_
  refine TextR.dcall rfl rfl (c_slices_Index_Edge N a0 a1 y1 hy1 _) ?_
  refine TextR.int rfl rfl rfl ?_
  refine TextR.assign rfl ?_
  refine TextR.done (.cons rfl .nil) ?_
  refine Wp.ret ?_
  obtain rfl := Option.some.inj h
  exact Ret.one rfl (resV_tmp rfl) rfl
theorem c_slices_Contains_Edge (N : Nat) (a0 : List TEdge) (a1 : TEdge) (r : Bool) (h : slices_Contains_Edge N a0 a1 = some r) (H : List Ob) : DCall Try.prog 37 [.c (.slv (a0.map eEdge)), .agg (eEdge a1)] H (.c (B r)) := DCall.lift (by first | rfl | simp [-List.map_set]) (by first | rfl | simp [-List.map_set]) (fun _ => by simp [-List.map_set]) (w_slices_Contains_Edge N a0 a1 r h) H
-- narthex/graph.Has
theorem w_graph_Has (N : Nat) (a0 : TGraph) (a1 : Int) (a2 : Int) (r : Bool) (h : graph_Has N a0 a1 a2 = some r) : Nx.Call Try.prog 16 [.agg (eGraph a0), .c (I a1), .c (I a2)] [] fun r' _ => r' = .c (B r) := by
  refine Nx.Call.of_body Try.func16 rfl en16 Try.ntmps16 rfl (fun Γ hok => ?_)
  unfold graph_Has at h
  refine Wp.seq ?_
  refine Wp.text [1, 2, 3] rfl rfl ?_ -- region 0
  refine TextR.box (cs := [I a0.N, .slv (a0.Edges.map eEdge)]) 0 rfl rfl rfl rfl .nil ?_
  refine TextR.assign rfl ?_
  refine TextR.done (.cons rfl (.cons rfl (.cons rfl .nil))) ?_
  refine Wp.seq ?_
  obtain ⟨y1, hy1, h⟩ := bind_some h
  obtain ⟨y2, hy2, h⟩ := bind_some h
  refine Wp.go true (some ⟨[], []⟩) [] [] [6] mixed rfl rfl (by kernel_rfl) ?_ -- region 1
  refine RunR.fieldAddr fo24_1 rfl rfl rfl rfl rfl ?_
  refine RunR.load1 tk22 rfl rfl rfl rfl ?_
  refine RunR.move rfl rfl rfl ?_
  refine RunR.move rfl rfl rfl ?_
  refine RunR.call rfl rfl rfl (fun H => c_graph_edge N a1 a2 y1 hy1 H) ?_
  refine RunR.call rfl rfl rfl (fun H => c_slices_Contains_Edge N a0.Edges y1 y2 hy2 H) ?_
  refine RunR.assign rfl rfl rfl ?_
  refine RunR.doneQ (.cons rfl .nil) ?_
  refine Wp.ret ?_
  obtain rfl := Option.some.inj h
  exact Ret.one rfl (resV_tmp rfl) rfl
theorem c_graph_Has (N : Nat) (a0 : TGraph) (a1 : Int) (a2 : Int) (r : Bool) (h : graph_Has N a0 a1 a2 = some r) (H : List Ob) : DCall Try.prog 16 [.agg (eGraph a0), .c (I a1), .c (I a2)] H (.c (B r)) := DCall.lift (by first | rfl | simp [-List.map_set]) (by first | rfl | simp [-List.map_set]) (fun _ => by simp [-List.map_set]) (w_graph_Has N a0 a1 a2 r h) H
-- slices.BinarySearchFunc[[]narthex/api.Edge,narthex/api.Edge,narthex/api.Edge]
theorem w_slices_BinarySearchFunc_Edge (N : Nat) (a0 : List TEdge) (a1 : TEdge) (r : Int × Bool) (h : slices_BinarySearchFunc_Edge N a0 a1 = some r) : Nx.Call Try.prog 24 [.c (.slv (a0.map eEdge)), .agg (eEdge a1), .c (.clo 26 [])] [] fun r' _ => r' = .tup [.c (I r.1), .c (B r.2)] := by
  refine Nx.Call.of_body Try.func24 rfl en24 Try.ntmps24 rfl (fun Γ hok => ?_)
  unfold slices_BinarySearchFunc_Edge at h
  refine Wp.seq ?_
  refine Wp.text [0, 2, 4] rfl rfl ?_ -- region 0
  refine TextR.box (cs := [I a1.A, I a1.B]) 0 rfl rfl rfl rfl .nil ?_
  refine TextR.assign rfl ?_
  refine TextR.assign rfl ?_
  refine TextR.done (.cons rfl (.cons rfl (.cons rfl .nil))) ?_
  refine Wp.seq ?_
  refine Wp.text [0, 2, 4, 8] rfl rfl ?_ -- region 1
  refine TextR.move rfl ?_
  refine TextR.lenM us22 rfl rfl ?_
  refine TextR.assign rfl ?_
  refine TextR.done (.cons rfl (.cons rfl (.cons rfl (.cons rfl .nil)))) ?_
  refine Wp.seq ?_
  refine Wp.text [0, 2, 4, 8, 9, 10] rfl rfl ?_ -- region 2
  refine TextR.move rfl ?_
  refine TextR.assign rfl ?_
  refine TextR.assign rfl ?_
  refine TextR.done (.cons rfl (.cons rfl (.cons rfl (.cons rfl (.cons rfl (.cons rfl .nil)))))) ?_
  refine Wp.seq ?_
  obtain ⟨z1, hz1, h⟩ := bind_some h
  refine Wp.fragN (fun S => ∃ S', St.Weak ⟨Try.prog, 49, Γ⟩ S S' ∧ S' = ⟨[(0, .c (.slv (a0.map eEdge))), (2, .c (.clo 26 [])), (4, .c (.ptr 0 0 0 0)), (8, .c (I (a0.length : Int))), (9, .c (I z1))], [.live 0 2 [[I a1.A, I a1.B]]]⟩) ?_ ?_
  · replace h := hz1
    refine Wp.block ?_
    refine Wp.weak (keepW (live := [0, 2, 4, 8, 9, 10]) (.cons rfl (.cons rfl (.cons rfl (.cons rfl (.cons rfl (.cons rfl .nil))))))) ?_
    refine Wp.loop (fun m S => ∃ s9_1, ∃ s10_1, slices_BinarySearchFunc_Edge_L1 N a0 a1 m s9_1 s10_1 = some z1 ∧ S = ⟨[(0, .c (.slv (a0.map eEdge))), (2, .c (.clo 26 [])), (4, .c (.ptr 0 0 0 0)), (8, .c (I (a0.length : Int))), (9, .c (I s9_1)), (10, .c (I s10_1))], [.live 0 2 [[I a1.A, I a1.B]]]⟩) N ⟨_, _, h, rfl⟩ ?_
    rintro m1 _ ⟨s9_1, s10_1, h, rfl⟩
    cases m1 with
    | zero => rw [slices_BinarySearchFunc_Edge_L1.eq_1] at h; cases h
    | succ m1 =>
    rw [slices_BinarySearchFunc_Edge_L1.eq_2] at h
    refine Wp.seq ?_
    refine Wp.seq ?_
    refine Wp.text [0, 2, 4, 8, 9, 10, 17] rfl rfl ?_ -- region 3
    refine TextR.move rfl ?_
    refine TextR.move rfl ?_
    refine TextR.int rfl rfl rfl ?_
    refine TextR.done (.cons rfl (.cons rfl (.cons rfl (.cons rfl (.cons rfl (.cons rfl (.cons rfl .nil))))))) ?_
    refine Wp.condM h rfl (fun hc2 h => ?_) (fun hc2 h => ?_)
    · refine Wp.skip ?_
      refine Wp.block ?_
      refine Wp.seq ?_
      refine Wp.text [0, 2, 4, 8, 9, 10, 11] rfl rfl ?_ -- region 4
      refine TextR.move rfl ?_
      refine TextR.move rfl ?_
      refine TextR.int rfl rfl rfl ?_
      refine TextR.convert ik3 ik58 rfl ?_
      refine TextR.int rfl rfl rfl ?_
      refine TextR.convert ik58 ik3 rfl ?_
      refine TextR.assign rfl ?_
      refine TextR.done (.cons rfl (.cons rfl (.cons rfl (.cons rfl (.cons rfl (.cons rfl (.cons rfl .nil))))))) ?_
      refine Wp.seq ?_
      obtain ⟨x2, hx2, h⟩ := bind_some h
      obtain ⟨y3, hy3, h⟩ := bind_some h
      refine Wp.go true (some ⟨[], []⟩) [] [] [0, 2, 4, 8, 9, 10, 11, 31] mixed rfl rfl (by kernel_rfl) ?_ -- region 5
      refine RunR.move rfl rfl rfl ?_
      refine RunR.move rfl rfl rfl ?_
      refine RunR.move rfl rfl rfl ?_
      refine RunR.indexA se22 rfl rfl rfl rfl rfl hx2 rfl ?_
      refine RunR.loadNM tk37 rfl rfl rfl (at_get hx2) rfl ?_
      refine RunR.loadN (cs := [I a1.A, I a1.B]) tk37 rfl rfl rfl rfl ?_
      refine RunR.call rfl rfl rfl (fun H => c_graph_rank N x2 a1 y3 hy3 H) ?_
      refine RunR.int rfl rfl rfl rfl rfl ?_
      refine RunR.doneQ (.cons rfl (.cons rfl (.cons rfl (.cons rfl (.cons rfl (.cons rfl (.cons rfl (.cons rfl .nil)))))))) ?_
      refine Wp.condM h rfl (fun hc3 h => ?_) (fun hc3 h => ?_)
      · refine Wp.text [0, 2, 4, 8, 9, 10] rfl rfl ?_ -- region 6
        refine TextR.move rfl ?_
        refine TextR.int rfl rfl rfl ?_
        refine TextR.assign rfl ?_
        refine TextR.done (.cons rfl (.cons rfl (.cons rfl (.cons rfl (.cons rfl (.cons rfl .nil)))))) ?_
        exact ⟨m1, Nat.lt_succ_self _, _, (keepW (live := [0, 2, 4, 8, 9, 10]) (.cons rfl (.cons rfl (.cons rfl (.cons rfl (.cons rfl (.cons rfl .nil))))))), _, _, h, rfl⟩
      · refine Wp.text [0, 2, 4, 8, 9, 10] rfl rfl ?_ -- region 7
        refine TextR.move rfl ?_
        refine TextR.assign rfl ?_
        refine TextR.done (.cons rfl (.cons rfl (.cons rfl (.cons rfl (.cons rfl (.cons rfl .nil)))))) ?_
        exact ⟨m1, Nat.lt_succ_self _, _, (keepW (live := [0, 2, 4, 8, 9, 10]) (.cons rfl (.cons rfl (.cons rfl (.cons rfl (.cons rfl (.cons rfl .nil))))))), _, _, h, rfl⟩
    · refine Wp.exit ?_
      obtain rfl := Option.some.inj h
      exact ⟨_, (keepW (live := [0, 2, 4, 8, 9]) (.cons rfl (.cons rfl (.cons rfl (.cons rfl (.cons rfl .nil)))))), rfl⟩
  rintro _ ⟨S', hw, rfl⟩
  clear hz1
  refine Wp.weak hw ?_
  refine Wp.seq ?_
  obtain ⟨x4, hx4, h⟩ := bind_some h
  obtain ⟨y5, hy5, h⟩ := bind_some h
  refine Wp.go true (some ⟨[], []⟩) [[], [], [], [], [], [(39, true)], [(39, true)], [(39, true)], [(39, true)], [(39, true)], [(39, true)], [(39, true)], [(39, true)], [], [], []] [] [6, 7] mixed rfl rfl (by kernel_rfl) ?_ -- region 8
  refine RunR.move rfl rfl rfl ?_
  refine RunR.move rfl rfl rfl ?_
  refine RunR.move rfl rfl rfl ?_
  refine RunR.int rfl rfl rfl rfl rfl ?_
  refine RunR.move rfl rfl rfl ?_
  refine RunR.move rfl rfl rfl ?_
  refine RunR.move rfl rfl rfl ?_
  refine RunR.move rfl rfl rfl ?_
  refine RunR.indexAG se22 rfl rfl rfl rfl rfl (ifPos hx4 gT) (ifAt hx4 gT) rfl ?_
  refine RunR.loadNG tk37 rfl rfl rfl (ifAt hx4 gT) rfl ?_
  refine RunR.loadN (cs := [I a1.A, I a1.B]) tk37 rfl rfl rfl rfl ?_
  refine RunR.callG rfl rfl rfl (fun hb H => c_graph_rank N x4 a1 y5 (ifT hy5 gT hb) H) ?_
  refine RunR.int rfl rfl rfl rfl rfl ?_
  refine RunR.pickAnd rfl rfl rfl rfl ?_
  refine RunR.assign rfl rfl rfl ?_
  refine RunR.assign rfl rfl rfl ?_
  refine RunR.doneQ (.cons rfl (.cons rfl .nil)) ?_
  refine Wp.ret ?_
  obtain rfl := Option.some.inj h
  exact Ret.two rfl (resV_tmp rfl) (resV_tmp rfl) rfl
theorem c_slices_BinarySearchFunc_Edge (N : Nat) (a0 : List TEdge) (a1 : TEdge) (r : Int × Bool) (h : slices_BinarySearchFunc_Edge N a0 a1 = some r) (H : List Ob) : DCall Try.prog 24 [.c (.slv (a0.map eEdge)), .agg (eEdge a1), .c (.clo 26 [])] H (.tup [.c (I r.1), .c (B r.2)]) := DCall.lift (by first | rfl | simp [-List.map_set]) (by first | rfl | simp [-List.map_set]) (fun _ => by simp [-List.map_set]) (w_slices_BinarySearchFunc_Edge N a0 a1 r h) H
-- slices.Clone
theorem bn_slices_Clone_Edge : Nx.Call Try.prog 28 [.c nilS] [] fun r' H' => r' = .c (.sl 0 1 0 0) ∧ ∃ junk, H' = [.live 1 2 []] ++ junk := by
  refine Nx.Call.of_body Try.func28 rfl en28 Try.ntmps28 rfl (fun Γ hok => ?_)
  refine Wp.seq ?_
  refine Wp.text [0] rfl rfl ?_ -- region 0
  refine TextR.assign rfl ?_
  refine TextR.done (.cons rfl .nil) ?_
  refine Wp.seq ?_
  refine Wp.seq ?_
  refine Wp.text [0, 4] rfl rfl ?_ -- region 1
  refine TextR.move rfl ?_
  refine TextR.eqNil us22 rfl rfl ?_
  refine TextR.done (.cons rfl (.cons rfl .nil)) ?_
  refine Wp.cond rfl (fun hc => ?_) (fun hc => ?_)
  · refine Wp.seq ?_
    refine Wp.text [2] rfl rfl ?_ -- region 2
    refine TextR.assign rfl ?_
    refine TextR.done (.cons rfl .nil) ?_
    refine Wp.weak (fun a w hs => nilV_sat (t := 2) 1 2 0 rfl rfl .nil hs) ?_
    refine Wp.ret ?_
    refine Ret.one rfl (resV_tmp rfl) ?_
    exact ⟨rfl, [], rfl⟩
  · cases hc
theorem bq_slices_Clone_Edge (xs : List TEdge) (hl : xs.length ≤ 10000000000) : Nx.Call Try.prog 28 [.c (.slq (xs.map eEdge))] [] fun r' H' => r' = .c (.sl 0 1 0 xs.length) ∧ ∃ junk, H' = [.live 1 2 (xs.map eEdge)] ++ junk := by
  refine Nx.Call.of_body Try.func28 rfl en28 Try.ntmps28 rfl (fun Γ hok => ?_)
  refine Wp.seq ?_
  refine Wp.text [0] rfl rfl ?_ -- region 0
  refine TextR.assign rfl ?_
  refine TextR.done (.cons rfl .nil) ?_
  refine Wp.seq ?_
  refine Wp.seq ?_
  refine Wp.text [0, 4] rfl rfl ?_ -- region 1
  refine TextR.move rfl ?_
  refine TextR.eqNil us22 rfl rfl ?_
  refine TextR.done (.cons rfl (.cons rfl .nil)) ?_
  refine Wp.cond rfl (fun hc => ?_) (fun hc => ?_)
  · cases hc
  · refine Wp.skip ?_
    refine Wp.seq ?_
    refine Wp.text [2] rfl rfl ?_ -- region 3
    refine TextR.buildSlice 0 se22 rfl rfl rfl .nil ?_
    refine TextR.move rfl ?_
    refine TextR.appendM eEdge [] xs xs rfl se22 rfl rfl rfl rfl (fun _ => rfl) rfl (by simp; omega) .zero ?_
    refine TextR.assign rfl ?_
    refine TextR.done (.cons rfl .nil) ?_
    refine Wp.ret ?_
    refine Ret.one rfl (resV_tmp rfl) ?_
    exact ⟨rfl, [], rfl⟩
theorem b_slices_Clone_Edge (xs : List TEdge) (hl : xs.length ≤ 10000000000) : Nx.Call Try.prog 28 [.c (.slv (xs.map eEdge))] [] fun r' H' => r' = .c (.sl 0 1 0 xs.length) ∧ ∃ junk, H' = [.live 1 2 (xs.map eEdge)] ++ junk :=
  .cases en28 fun Γ args' hok hc => by
    simp only [concVs] at hc
    obtain ⟨y, ys', h1, h2, h3⟩ := hc
    rcases conc_slv_nil h2 with ⟨h4, h5⟩ | h5
    · have h6 : xs = [] := by simpa using h4
      subst h6
      exact ⟨[.c nilS], bn_slices_Clone_Edge, by simp only [concVs]; exact ⟨y, ys', h1, h5, h3⟩⟩
    · exact ⟨[.c (.slq (xs.map eEdge))], bq_slices_Clone_Edge xs hl, by simp only [concVs]; exact ⟨y, ys', h1, h5, h3⟩⟩
theorem o_slices_Clone_Edge (N : Nat) (a0 r : List TEdge) (h : slices_Clone_Edge N a0 = some r) {H H1 : List Ob} (k : Nat) (hh : H.length = k) (hs : Snoc (.live 1 2 (r.map eEdge)) H H1) : Nx.Call Try.prog 28 [.c (.slv (a0.map eEdge))] H fun r' H' => r' = .c (.sl k 1 0 r.length) ∧ H' = H1 := by
  have he := app_eq h
  have hl := app_len h
  simp only [List.nil_append] at he
  subst he
  have hc := Call.lift (objs := [.live 1 2 (a0.map eEdge)]) (by simp [hfVs, hfV, hfL, hfRows_map h_Edge]) rfl (by have := okR_eEdge (p := mvL 1) a0; simpa [mvO] using this) (b_slices_Clone_Edge a0 (by simpa using hl)) H
  refine Call.mono hc fun r' H' ⟨h1, h2⟩ => ⟨by subst hh; simpa [shV, shL] using h1, ?_⟩
  rw [h2, ← hs.eq]
  simp [shO, fx_eEdge]
-- slices.Insert
theorem w_slices_Insert_Edge (xs r : List TEdge) (i : Int) (x : TEdge) (h : ins? xs i x = some r) {A B : Ob} {w w2 : Nat} : Nx.Call Try.prog 27 [.c (.sl 2 w 0 xs.length), .c (I i), .c (.sl 3 w2 0 1)] [A, B, .live w 2 (xs.map eEdge), .live w2 2 [eEdge x]] fun r' H' => r' = .c (.sl 2 (w + 1) 0 r.length) ∧ ∃ junk, H' = [A, B, .live (w + 1) 2 (r.map eEdge), .live w2 2 [eEdge x]] ++ junk := by
  refine Nx.Call.of_body Try.func27 rfl en27 Try.ntmps27 rfl (fun Γ hok => ?_)
  obtain ⟨n, rfl, hn, hxl, rfl⟩ := ins_is h
  obtain ⟨c, hcap, _, hle⟩ := capIs_of hok (h := 2) (obj_of rfl)
  simp only [List.length_map] at hle
  refine Wp.seq ?_
  refine Wp.text [0, 1, 2] rfl rfl ?_ -- region 0
  refine TextR.assign rfl ?_
  refine TextR.done (.cons rfl (.cons rfl (.cons rfl .nil))) ?_
  refine Wp.seq ?_
  refine Wp.text [0, 1, 2] rfl rfl ?_ -- region 1
  refine TextR.move rfl ?_
  refine TextR.move rfl ?_
  refine TextR.sliceFrom se22 rfl (obj_of rfl) rfl ⟨by omega, by omega⟩ ?_
  refine TextR.done (.cons rfl (.cons rfl (.cons rfl .nil))) ?_
  refine Wp.seq ?_
  refine Wp.text [0, 1, 2, 7] rfl rfl ?_ -- region 2
  refine TextR.move rfl ?_
  refine TextR.len us22 rfl rfl ?_
  refine TextR.assign rfl ?_
  refine TextR.done (.cons rfl (.cons rfl (.cons rfl (.cons rfl .nil)))) ?_
  refine Wp.seq ?_
  refine Wp.seq ?_
  refine Wp.text [0, 1, 2, 7, 16] rfl rfl ?_ -- region 3
  refine TextR.move rfl ?_
  refine TextR.int rfl rfl rfl ?_
  refine TextR.done (.cons rfl (.cons rfl (.cons rfl (.cons rfl (.cons rfl .nil))))) ?_
  refine Wp.cond rfl (fun hc => by cases hc) (fun _ => ?_)
  refine Wp.skip ?_
  refine Wp.seq ?_
  refine Wp.text [0, 1, 2, 7, 8] rfl rfl ?_ -- region 5
  refine TextR.move rfl ?_
  refine TextR.len us22 rfl rfl ?_
  refine TextR.assign rfl ?_
  refine TextR.done (.cons rfl (.cons rfl (.cons rfl (.cons rfl (.cons rfl .nil))))) ?_
  refine Wp.seq ?_
  refine Wp.seq ?_
  refine Wp.text [0, 1, 2, 7, 8, 22] rfl rfl ?_ -- region 6
  refine TextR.move rfl ?_
  refine TextR.move rfl ?_
  refine TextR.int rfl rfl rfl ?_
  refine TextR.done (.cons rfl (.cons rfl (.cons rfl (.cons rfl (.cons rfl (.cons rfl .nil)))))) ?_
  refine Wp.cond rfl (fun hc => ?_) (fun hc => ?_)
  · have hnx : n = xs.length := by
      have h0 : (n : Int) = xs.length := by simpa using hc
      omega
    subst hnx
    refine Wp.seq ?_
    refine Wp.text [6] rfl rfl ?_ -- region 7
    refine TextR.move rfl ?_
    refine TextR.move rfl ?_
    refine TextR.appendM eEdge xs [x] (xs ++ [x]) rfl se22 rfl (obj_of rfl) rfl (view_piece (f := eEdge) (xs := [x]) (obj_of rfl) (by simp)) (fun _ => rfl) rfl (by simp; omega) (.succ (.succ .zero)) ?_
    refine TextR.assign rfl ?_
    refine TextR.done (.cons rfl .nil) ?_
    refine Wp.ret ?_
    refine Ret.one rfl (resV_tmp rfl) ?_
    exact ⟨by simp, [], by simp⟩
  · have hnx : n < xs.length := by
      have : ¬ ((n : Int) = xs.length) := by simpa using hc
      omega
    have hne : 0 < (xs.map eEdge).length := by simp; omega
    refine Wp.skip ?_
    refine Wp.seq ?_
    refine Wp.seq ?_
    refine Wp.text [0, 1, 2, 7, 8, 31] rfl rfl ?_ -- region 8
    refine TextR.move rfl ?_
    refine TextR.move rfl ?_
    refine TextR.int (l := I ((xs.length + 1 : Nat) : Int)) rfl rfl (by simp only [intBin]; rw [w64_small (n := ((xs.length + 1 : Nat) : Int)) (by omega) (by omega) (by omega)]) ?_
    refine TextR.move rfl ?_
    refine TextR.semG (SemG.cap us22 rfl (obj_of rfl) hne hcap) ?_
    refine TextR.int rfl rfl rfl ?_
    refine TextR.done (.cons rfl (.cons rfl (.cons rfl (.cons rfl (.cons rfl (.cons rfl .nil)))))) ?_
    refine Wp.cond rfl (fun hc => ?_) (fun hc => ?_)
    · have hgt : c < xs.length + 1 := by
        have h0 : (c : Int) < ((xs.length + 1 : Nat) : Int) := by simpa using hc
        omega
      refine Wp.seq ?_
      refine Wp.text [0, 1, 2, 7, 9] rfl rfl ?_ -- region 9
      refine TextR.move rfl ?_
      refine TextR.move rfl ?_
      refine TextR.semG (SemG.upto (rows := xs.map eEdge) se22 rfl rfl (obj_of rfl) hne hcap ⟨by omega, by omega⟩) ?_
      refine TextR.move rfl ?_
      refine TextR.move rfl ?_
      refine TextR.int (l := I ((xs.length + 1 : Nat) : Int)) rfl rfl (by simp only [intBin]; rw [w64_small (n := ((xs.length + 1 : Nat) : Int)) (by omega) (by omega) (by omega)]) ?_
      refine TextR.move rfl ?_
      refine TextR.int (l := I ((xs.length + 1 - n : Nat) : Int)) rfl rfl (by simp only [intBin]; rw [w64_small (n := ((xs.length + 1 - n : Nat) : Int)) (by omega) (by omega) (by omega)]) ?_
      refine TextR.semG (SemG.appendOnto (c := c) eEdge xs (⟨0, 0⟩ : TEdge) se22 ik3 rfl rfl (obj_of rfl) (by simp; omega) hcap (by omega) (by simp; omega) (by simp; omega) (by decide) rfl (fun _ => rfl) (by decide) rfl) ?_
      refine TextR.assign rfl ?_
      refine TextR.done (.cons rfl (.cons rfl (.cons rfl (.cons rfl (.cons rfl .nil))))) ?_
      obtain ⟨ys, hys, hyl⟩ : ∃ ys, ys = xs.take n ++ List.replicate (xs.length + 1 - n) (⟨0, 0⟩ : TEdge) ∧ ys.length = xs.length + 1 := ⟨_, rfl, by simp; omega⟩
      refine Wp.weak (eqW (S' := ⟨[(0, .c (.sl 2 w 0 xs.length)), (1, .c (I (n : Int))), (2, .c (.sl 3 w2 0 1)), (7, .c (I 1)), (9, .c (.sl 4 0 0 ys.length))], [A, B, .live w 2 (xs.map eEdge), .live w2 2 [eEdge x], .live 0 2 (ys.map eEdge)]⟩) (by
        have e1 : ((n : Int)).toNat = n := by simp
        have e2 : (((xs.length + 1 - n : Nat) : Int)).toNat = xs.length + 1 - n := by simp
        have e3 : n + (xs.length + 1 - n) = ys.length := by omega
        simp only [e1, e2, e3, hys]
        rfl)) ?_
      refine Wp.seq ?_
      refine Wp.text [0, 1, 7, 9] rfl rfl ?_ -- region 10
      refine TextR.move rfl ?_
      refine TextR.move rfl ?_
      refine TextR.sliceFrom se22 rfl (obj_of rfl) rfl ⟨by omega, by omega⟩ ?_
      refine TextR.move rfl ?_
      refine TextR.copyM eEdge ys [x] se22 rfl (obj_of rfl) (by simp; omega) rfl (view_piece (f := eEdge) (xs := [x]) (obj_of rfl) (by simp)) (fun _ => rfl) (.succ (.succ (.succ (.succ .zero)))) ?_
      refine TextR.done (.cons rfl (.cons rfl (.cons rfl (.cons rfl .nil)))) ?_
      obtain ⟨zs, hzs, hzl⟩ : ∃ zs, cpy ys (0 + ((n : Int)).toNat) (ys.length - ((n : Int)).toNat) ([x]) = zs ∧ zs.length = xs.length + 1 := ⟨_, rfl, by rw [length_cpy _ _ _ _ (by simp; omega), hyl]⟩
      rw [hzs]
      refine Wp.weak (eqW (S' := ⟨[(0, .c (.sl 2 w 0 xs.length)), (1, .c (I (n : Int))), (7, .c (I 1)), (9, .c (.sl 4 0 0 zs.length))], [A, B, .live w 2 (xs.map eEdge), .live w2 2 [eEdge x], .live 0 2 (zs.map eEdge)]⟩) (by rw [hzl, ← hyl])) ?_
      refine Wp.seq ?_
      refine Wp.go true (some ⟨[4], []⟩) [] [] [9] mixed rfl rfl (by kernel_rfl) ?_ -- region 11
      refine RunR.move rfl rfl rfl ?_
      refine RunR.move rfl rfl rfl ?_
      refine RunR.move rfl rfl rfl ?_
      refine RunR.int (l := I ((n + 1 : Nat) : Int)) rfl rfl rfl rfl (by simp only [intBin]; rw [w64_small (n := ((n + 1 : Nat) : Int)) (by omega) (by omega) (by omega)]) ?_
      refine RunR.sliceFrom se22 rfl rfl rfl (obj_of rfl) rfl ⟨by omega, by omega⟩ ?_
      refine RunR.move rfl rfl rfl ?_
      refine RunR.move rfl rfl rfl ?_
      refine RunR.sliceFrom se22 rfl rfl rfl (obj_of rfl) rfl ⟨by omega, by omega⟩ ?_
      refine RunR.copyM eEdge zs ((xs.drop (0 + ((n : Int)).toNat)).take (xs.length - ((n : Int)).toNat)) se22 rfl rfl rfl (obj_of rfl) (by simp; omega) rfl (view_piece (f := eEdge) (xs := xs) (obj_of rfl) (by simp; omega)) (fun _ => rfl) (.succ (.succ (.succ (.succ .zero)))) ?_
      refine RunR.doneQ (.cons rfl .nil) ?_
      have hfin : cpy zs (0 + (((n + 1 : Nat) : Int)).toNat) (zs.length - (((n + 1 : Nat) : Int)).toNat) ((xs.drop (0 + ((n : Int)).toNat)).take (xs.length - ((n : Int)).toNat)) = xs.take n ++ x :: xs.drop n := by
        have e1 : 0 + (((n + 1 : Nat) : Int)).toNat = n + 1 := by omega
        have e2 : 0 + ((n : Int)).toNat = n := by omega
        have e3 : ((n : Int)).toNat = n := by omega
        have e4 : (((n + 1 : Nat) : Int)).toNat = n + 1 := by omega
        have e5 : (ys.take n) = xs.take n := by
          rw [hys, List.take_append, List.length_take, Nat.min_eq_left (by omega), Nat.sub_self, List.take_zero, List.append_nil, List.take_take, Nat.min_self]
        have e6 : (xs.drop n).take (xs.length - n) = xs.drop n := List.take_of_length_le (by simp)
        rw [e1, e2, e3, e4, e6, cpy_all (by omega) (by simp; omega)]
        rw [e2, e3] at hzs
        rw [← hzs, cpy_one_take (by omega) (by omega), e5]
        simp
      rw [hfin]
      refine Wp.seq ?_
      refine Wp.text [6] rfl rfl ?_ -- region 12
      refine TextR.move rfl ?_
      refine TextR.assign rfl ?_
      refine TextR.done (.cons rfl .nil) ?_
      refine Wp.weak (moveW (h0 := 2) (h1 := 4) (obj_of rfl) (obj_of rfl) (by decide) rfl) ?_
      refine Wp.ret ?_
      refine Ret.one rfl (resV_tmp rfl) ?_
      have hl : zs.length = (xs.take n ++ x :: xs.drop n).length := by rw [hzl]; simp; omega
      exact ⟨by rw [hl], [.dead], rfl⟩
    · have hroom : xs.length + 1 ≤ c := by
        have h0 : ¬ (c : Int) < ((xs.length + 1 : Nat) : Int) := by simpa using hc
        omega
      have hov : ∀ (args : Array Value) (w : World), (callFunc 43 args).run Try.prog w = ((Extern.SlicesOverlaps.overlaps #[22, 22] #[4] args).run Try.prog w).andThen fun v w' => .ok (.value v) w' := fun args w => run_callFunc_extern Try.func43 (by kernel_rfl) (by kernel_rfl) (by kernel_rfl) (by kernel_rfl) args w
      refine Wp.skip ?_
      refine Wp.seq ?_
      refine Wp.text [0, 1, 2, 7, 8] rfl rfl ?_ -- region 13
      refine TextR.move rfl ?_
      refine TextR.move rfl ?_
      refine TextR.move rfl ?_
      refine TextR.int (l := I ((xs.length + 1 : Nat) : Int)) rfl rfl (by simp only [intBin]; rw [w64_small (n := ((xs.length + 1 : Nat) : Int)) (by omega) (by omega) (by omega)]) ?_
      refine TextR.semG (SemG.upto (rows := xs.map eEdge) se22 rfl rfl (obj_of rfl) hne hcap ⟨by omega, by omega⟩) ?_
      refine TextR.assign rfl ?_
      refine TextR.done (.cons rfl (.cons rfl (.cons rfl (.cons rfl (.cons rfl .nil))))) ?_
      refine Wp.weak (eqW (S' := ⟨[(0, .c (.sl 2 w 0 (xs.length + 1))), (1, .c (I (n : Int))), (2, .c (.sl 3 w2 0 1)), (7, .c (I 1)), (8, .c (I (xs.length : Int)))], [A, B, .live w 2 (xs.map eEdge), .live w2 2 [eEdge x]]⟩) (by
        have e1 : ((xs.length + 1 : Nat) : Int).toNat = xs.length + 1 := by omega
        rw [e1]
        rfl)) ?_
      refine Wp.seq ?_
      refine Wp.seq ?_
      refine Wp.text [0, 1, 2, 7, 8, 68] rfl rfl ?_ -- region 14
      refine TextR.move rfl ?_
      refine TextR.move rfl ?_
      refine TextR.move rfl ?_
      refine TextR.move rfl ?_
      refine TextR.int (l := I ((n + 1 : Nat) : Int)) rfl rfl (by simp only [intBin]; rw [w64_small (n := ((n + 1 : Nat) : Int)) (by omega) (by omega) (by omega)]) ?_
      refine TextR.sliceFrom se22 rfl (obj_of rfl) rfl ⟨by omega, by omega⟩ ?_
      refine TextR.sem (SemO.apart (rows := [eEdge x]) (rows2 := xs.map eEdge) se22 rfl hov rfl rfl (obj_of rfl) (obj_of rfl) (by decide) (by simp) hne (by decide) (by omega)) ?_
      refine TextR.not rfl ?_
      refine TextR.done (.cons rfl (.cons rfl (.cons rfl (.cons rfl (.cons rfl (.cons rfl .nil)))))) ?_
      refine Wp.cond rfl (fun _ => ?_) (fun hc => by cases hc)
      refine Wp.seq ?_
      refine Wp.go true (some ⟨[2], []⟩) [] [] [0, 1, 2] mixed rfl rfl (by kernel_rfl) ?_ -- region 15
      refine RunR.move rfl rfl rfl ?_
      refine RunR.move rfl rfl rfl ?_
      refine RunR.move rfl rfl rfl ?_
      refine RunR.int (l := I ((n + 1 : Nat) : Int)) rfl rfl rfl rfl (by simp only [intBin]; rw [w64_small (n := ((n + 1 : Nat) : Int)) (by omega) (by omega) (by omega)]) ?_
      refine RunR.sliceFrom se22 rfl rfl rfl (obj_of rfl) rfl ⟨by omega, by omega⟩ ?_
      refine RunR.move rfl rfl rfl ?_
      refine RunR.move rfl rfl rfl ?_
      refine RunR.sliceFrom se22 rfl rfl rfl (obj_of rfl) rfl ⟨by omega, by omega⟩ ?_
      have e1 : 0 + (((n + 1 : Nat) : Int)).toNat = n + 1 := by omega
      have e2 : xs.length + 1 - (((n + 1 : Nat) : Int)).toNat = xs.length - n := by omega
      have e3 : 0 + ((n : Int)).toNat = n := by omega
      have e4 : xs.length + 1 - ((n : Int)).toNat = xs.length + 1 - n := by omega
      rw [e1, e2, e3, e4]
      refine RunR.sem rfl rfl rfl rfl (.same (.same (.turn rfl (.same .nil)))) (SemO.copyOver (k := xs.length - n) eEdge xs se22 rfl rfl (obj_of rfl) (by omega) (by omega) (by omega) (by omega) (fun _ => rfl) rfl) ?_
      refine RunR.doneQ (.cons rfl (.cons rfl (.cons rfl .nil))) ?_
      obtain ⟨ys, hys, hyl⟩ : ∃ ys, ys = xs.take (n + 1) ++ xs.drop n ∧ ys.length = xs.length + 1 := ⟨_, rfl, by simp; omega⟩
      refine Wp.weak (eqW (S' := ⟨[(0, .c (.sl 2 w 0 ys.length)), (1, .c (I (n : Int))), (2, .c (.sl 3 w2 0 1))], [A, B, .live w 2 (ys.map eEdge), .live w2 2 [eEdge x]]⟩) (by
        have e5 : xs.drop (n + 1 + (xs.length - n)) = [] := by apply List.drop_eq_nil_of_le; omega
        simp only [e5, List.append_nil, hyl]
        rw [hys])) ?_
      refine Wp.seq ?_
      refine Wp.text [0] rfl rfl ?_ -- region 16
      refine TextR.move rfl ?_
      refine TextR.move rfl ?_
      refine TextR.sliceFrom se22 rfl (obj_of rfl) rfl ⟨by omega, by omega⟩ ?_
      refine TextR.move rfl ?_
      refine TextR.copyM eEdge ys [x] se22 rfl (obj_of rfl) (by simp; omega) rfl (view_piece (f := eEdge) (xs := [x]) (obj_of rfl) (by simp)) (fun _ => rfl) (.succ (.succ .zero)) ?_
      refine TextR.done (.cons rfl .nil) ?_
      have hfin : cpy ys (0 + ((n : Int)).toNat) (ys.length - ((n : Int)).toNat) ([x]) = xs.take n ++ x :: xs.drop n := by
        have e3 : ((n : Int)).toNat = n := by omega
        have e5 : (ys.take n) = xs.take n := by
          rw [hys, List.take_append, List.length_take, Nat.min_eq_left (by omega), List.take_take, Nat.min_eq_left (by omega)]
          rw [show n - (n + 1) = 0 by omega, List.take_zero, List.append_nil]
        have e6 : ys.drop (n + 1) = xs.drop n := by
          rw [hys, List.drop_append, List.length_take, Nat.min_eq_left (by omega), List.drop_take, Nat.sub_self, List.take_zero, List.nil_append, List.drop_zero]
        rw [e3, Nat.zero_add, cpy_one (by omega), e5, e6]
      rw [hfin]
      refine Wp.seq ?_
      refine Wp.text [6] rfl rfl ?_ -- region 17
      refine TextR.move rfl ?_
      refine TextR.assign rfl ?_
      refine TextR.done (.cons rfl .nil) ?_
      have hl : ys.length = (xs.take n ++ x :: xs.drop n).length := by rw [hyl]; simp; omega
      rw [hl]
      refine Wp.weak (narrowE (t := 6) (rows' := (xs.take n ++ x :: xs.drop n).map eEdge) rfl (obj_of rfl) (by simp) (by rw [List.drop_zero, List.take_of_length_le (by simp)]) (.succ (.succ .zero))) ?_
      refine Wp.weak (keepW (live := [6]) (.cons rfl .nil)) ?_
      refine Wp.ret ?_
      exact Ret.one rfl (resV_tmp rfl) ⟨rfl, [], by simp⟩
theorem c_slices_Insert_Edge (xs r : List TEdge) (i : Int) (x : TEdge) (h : ins? xs i x = some r) {A B : Ob} {w w2 : Nat} (hA : mvO 4 A = true) (hB : mvO 4 B = true) : Nx.Call Try.prog 27 [.c (.sl 2 w 0 xs.length), .c (I i), .c (.sl 3 w2 0 1)] [A, B, .live w 2 (xs.map eEdge), .live w2 2 [eEdge x]] fun r' H' => r' = .c (.sl 2 (w + 1) 0 r.length) ∧ H' = [A, B, .live (w + 1) 2 (r.map eEdge), .live w2 2 [eEdge x]] := by
  have q : ∀ l : List TEdge, (l.map eEdge).all (fun r => r.all (mvL 4)) = true := fun l => by
    rw [List.all_eq_true]
    intro y hy
    obtain ⟨z, _, rfl⟩ := List.mem_map.1 hy
    rfl
  have q1 : mvO 4 (.live (w + 1) 2 (r.map eEdge)) = true := by simpa [mvO] using q r
  have q2 : mvO 4 (.live w2 2 [eEdge x]) = true := rfl
  exact Call.trim (by simp) rfl (by simp only [List.all_cons, List.all_nil, List.length_cons, List.length_nil, Nat.zero_add, Nat.reduceAdd, hA, hB, q1, q2, Bool.and_self]) (w_slices_Insert_Edge xs r i x h)

-- narthex/graph.Add
theorem w_graph_Add (N : Nat) (a0 : TGraph) (a1 : Int) (a2 : Int) (r : TGraph × Int) (h : graph_Add N a0 a1 a2 = some r) : Nx.Call Try.prog 9 [.agg (eGraph a0), .c (I a1), .c (I a2)] [] fun r' _ => r' = .tup [.agg (eGraph r.1), .c (I r.2)] := by
  refine Nx.Call.of_body Try.func9 rfl en9 Try.ntmps9 rfl (fun Γ hok => ?_)
  unfold graph_Add at h
  refine Wp.seq ?_
  refine Wp.text [1, 2, 3, 6] rfl rfl ?_ -- region 0
  refine TextR.box (cs := [I a0.N, .slv (a0.Edges.map eEdge)]) 0 rfl rfl rfl rfl .nil ?_
  refine TextR.alloc 1 zc24 rfl rfl (.cons .nil) ?_
  refine TextR.assign rfl ?_
  refine TextR.done (.cons rfl (.cons rfl (.cons rfl (.cons rfl .nil)))) ?_
  refine Wp.seq ?_
  obtain ⟨y1, hy1, h⟩ := bind_some h
  refine Wp.text [1, 2, 3, 6, 8] rfl rfl ?_ -- region 1
  refine TextR.loadN (cs := [I a0.N, .slv (a0.Edges.map eEdge)]) tk24 rfl rfl ?_
  refine TextR.move rfl ?_
  refine TextR.move rfl ?_
  refine TextR.dcall rfl rfl (c_graph_told N a0 a1 a2 y1 hy1 _) ?_
  refine TextR.assign rfl ?_
  refine TextR.done (.cons rfl (.cons rfl (.cons rfl (.cons rfl (.cons rfl .nil))))) ?_
  refine Wp.seq ?_
  obtain ⟨z2, hz2, h⟩ := bind_some h
  refine Wp.fragN (fun S => ∃ S', St.Weak ⟨Try.prog, 53, Γ⟩ S S' ∧ S' = ⟨[(1, .c (I a1)), (2, .c (I a2)), (3, .c (.ptr 0 0 0 0)), (6, .c (.ptr 1 0 0 0)), (8, .c (I z2))], [.live 0 2 [[I a0.N, .slv (a0.Edges.map eEdge)]], .live 0 2 [[I 0, nilS]]]⟩) ?_ ?_
  · replace h := hz2
    refine Wp.block ?_
    refine Wp.seq ?_
    refine Wp.text [1, 2, 3, 6, 8, 15] rfl rfl ?_ -- region 2
    refine TextR.move rfl ?_
    refine TextR.int rfl rfl rfl ?_
    refine TextR.assign rfl ?_
    refine TextR.done (.cons rfl (.cons rfl (.cons rfl (.cons rfl (.cons rfl (.cons rfl .nil)))))) ?_
    refine Wp.condM h rfl (fun hc2 h => ?_) (fun hc2 h => ?_)
    · refine Wp.skip ?_
      obtain rfl := Option.some.inj h
      exact ⟨_, (keepW (live := [1, 2, 3, 6, 8]) (.cons rfl (.cons rfl (.cons rfl (.cons rfl (.cons rfl .nil)))))), rfl⟩
    · refine Wp.seq ?_
      obtain ⟨y3, hy3, h⟩ := bind_some h
      refine Wp.text [1, 2, 3, 6, 8, 18] rfl rfl ?_ -- region 3
      refine TextR.loadN (cs := [I a0.N, .slv (a0.Edges.map eEdge)]) tk24 rfl rfl ?_
      refine TextR.move rfl ?_
      refine TextR.move rfl ?_
      refine TextR.dcall rfl rfl (c_graph_Has N a0 a1 a2 y3 hy3 _) ?_
      refine TextR.assign rfl ?_
      refine TextR.done (.cons rfl (.cons rfl (.cons rfl (.cons rfl (.cons rfl (.cons rfl .nil)))))) ?_
      refine Wp.condM h rfl (fun hc3 h => ?_) (fun hc3 h => ?_)
      · refine Wp.text [1, 2, 3, 6, 8] rfl rfl ?_ -- region 4
        refine TextR.assign rfl ?_
        refine TextR.done (.cons rfl (.cons rfl (.cons rfl (.cons rfl (.cons rfl .nil))))) ?_
        obtain rfl := Option.some.inj h
        exact ⟨_, (keepW (live := [1, 2, 3, 6, 8]) (.cons rfl (.cons rfl (.cons rfl (.cons rfl (.cons rfl .nil)))))), rfl⟩
      · refine Wp.seq ?_
        refine Wp.text [1, 2, 3, 6, 8, 23] rfl rfl ?_ -- region 5
        refine TextR.fieldAddr fo24_1 rfl rfl rfl ?_
        refine TextR.load1 tk22 rfl rfl ?_
        refine TextR.lenM us22 rfl rfl ?_
        refine TextR.int rfl rfl rfl ?_
        refine TextR.assign rfl ?_
        refine TextR.done (.cons rfl (.cons rfl (.cons rfl (.cons rfl (.cons rfl (.cons rfl .nil)))))) ?_
        refine Wp.condM h rfl (fun hc4 h => ?_) (fun hc4 h => ?_)
        · refine Wp.text [1, 2, 3, 6, 8] rfl rfl ?_ -- region 6
          refine TextR.assign rfl ?_
          refine TextR.done (.cons rfl (.cons rfl (.cons rfl (.cons rfl (.cons rfl .nil))))) ?_
          obtain rfl := Option.some.inj h
          exact ⟨_, (keepW (live := [1, 2, 3, 6, 8]) (.cons rfl (.cons rfl (.cons rfl (.cons rfl (.cons rfl .nil)))))), rfl⟩
        · refine Wp.skip ?_
          obtain rfl := Option.some.inj h
          exact ⟨_, (keepW (live := [1, 2, 3, 6, 8]) (.cons rfl (.cons rfl (.cons rfl (.cons rfl (.cons rfl .nil)))))), rfl⟩
  rintro _ ⟨S', hw, rfl⟩
  clear hz2
  refine Wp.weak hw ?_
  refine Wp.seq ?_
  refine Wp.seq ?_
  refine Wp.text [1, 2, 3, 6, 8, 29] rfl rfl ?_ -- region 7
  refine TextR.move rfl ?_
  refine TextR.int rfl rfl rfl ?_
  refine TextR.done (.cons rfl (.cons rfl (.cons rfl (.cons rfl (.cons rfl (.cons rfl .nil)))))) ?_
  refine Wp.condM h rfl (fun hc1 h => ?_) (fun hc1 h => ?_)
  · refine Wp.seq ?_
    refine Wp.text [6, 7] rfl rfl ?_ -- region 8
    refine TextR.build cm24 rfl ?_
    refine TextR.move rfl ?_
    refine TextR.store1 tk24 rfl rfl rfl rfl rfl rfl (.succ .zero) ?_
    refine TextR.assign rfl ?_
    refine TextR.done (.cons rfl (.cons rfl .nil)) ?_
    refine Wp.weak (keepW (live := [6, 7] ) (.cons rfl (.cons rfl .nil))) ?_
    refine Wp.weak (nzT (e' := [(6, .c (.ptr 1 0 0 0)), (7, .c (I z2))]) (H' := [.live 0 2 [[I a0.N, .slv (a0.Edges.map eEdge)]], .live 0 2 [[I 0, .slv ([].map eEdge)]]]) (by first | rfl | simp [-List.map_set]) (by first | rfl | simp [-List.map_set])) ?_
    refine Wp.ret ?_
    obtain rfl := Option.some.inj h
    exact Ret.two rfl (resV_cellN tk24 rfl rfl) (resV_tmp rfl) rfl
  · refine Wp.skip ?_
    refine Wp.seq ?_
    obtain ⟨y4, hy4, h⟩ := bind_some h
    obtain ⟨y5, hy5, h⟩ := bind_some h
    refine Wp.go true (some ⟨[], []⟩) [] [] [1, 2, 3, 6, 9] mixed rfl rfl (by kernel_rfl) ?_ -- region 9
    refine RunR.fieldAddr fo24_1 rfl rfl rfl rfl rfl ?_
    refine RunR.load1 tk22 rfl rfl rfl rfl ?_
    refine RunR.move rfl rfl rfl ?_
    refine RunR.move rfl rfl rfl ?_
    refine RunR.call rfl rfl rfl (fun H => c_graph_edge N a1 a2 y4 hy4 H) ?_
    refine RunR.call rfl rfl rfl (fun H => c_slices_BinarySearchFunc_Edge N a0.Edges y4 y5 hy5 H) ?_
    refine RunR.move rfl rfl rfl ?_
    refine RunR.extract rfl rfl rfl rfl ?_
    refine RunR.extract rfl rfl rfl rfl ?_
    refine RunR.assign rfl rfl rfl ?_
    refine RunR.assign rfl rfl rfl ?_
    refine RunR.doneQ (.cons rfl (.cons rfl (.cons rfl (.cons rfl (.cons rfl .nil))))) ?_
    refine Wp.seq ?_
    obtain ⟨y6, hy6, h⟩ := bind_some h
    obtain ⟨y7, hy7, h⟩ := bind_some h
    obtain ⟨x8, hx8, h⟩ := bind_some h
    refine Wp.go true (some ⟨[2, 3], [27, 28]⟩) [] [true, true, false, false, false, true, true, true, false, false, false, false, true, false] [6, 7] mixed rfl rfl (by kernel_rfl) ?_ -- region 10
    refine RunR.fieldAddr fo24_0 rfl rfl rfl rfl rfl ?_
    refine RunR.load1 tk3 rfl rfl rfl rfl ?_
    refine RunR.fieldAddr fo24_1 rfl rfl rfl rfl rfl ?_
    refine RunR.load1 tk22 rfl rfl rfl rfl ?_
    refine RunR.turn rfl rfl rfl rfl (.same (.same (.more rfl .nil))) (by exact o_slices_Clone_Edge N a0.Edges y6 hy6 2 rfl (.cons (.cons .nil))) ?_
    refine RunR.move rfl rfl rfl ?_
    refine RunR.move rfl rfl rfl ?_
    refine RunR.move rfl rfl rfl ?_
    refine RunR.call rfl rfl rfl (fun H => c_graph_edge N a1 a2 y7 hy7 H) ?_
    refine RunR.buildSlice (rows := [y7].map eEdge) 3 se22 rfl rfl rfl rfl rfl (.cons (.cons (.cons .nil))) ?_
    refine RunR.turn rfl rfl rfl rfl (.same (.same (.turn rfl (.same .nil)))) (by exact c_slices_Insert_Edge _ _ _ _ hx8 (by first | rfl | simp [-List.map_set, mvO]) (by first | rfl | simp [-List.map_set, mvO])) ?_
    refine RunR.build cm24 rfl rfl rfl ?_
    refine RunR.store1 tk24 rfl rfl rfl rfl rfl rfl rfl rfl (.succ .zero) ?_
    refine RunR.assign rfl rfl rfl ?_
    refine RunR.doneQ (.cons rfl (.cons rfl .nil)) ?_
    refine Wp.weak (keepW (live := [6, 7] ) (.cons rfl (.cons rfl .nil))) ?_
    refine Wp.weak (freezeW (h := 2) (ver := 2) (rows := x8.map eEdge) (e' := [(6, .c (.ptr 1 0 0 0)), (7, .c (I 0))]) (H' := [.live 0 2 [[I a0.N, .slv (a0.Edges.map eEdge)]], .live 0 2 [[I a0.N, .slv (x8.map eEdge)]], .dead, .live 0 2 ([y7].map eEdge)]) rfl (by first | rfl | simp [-List.map_set]) (by first | rfl | simp [-List.map_set])) ?_
    refine Wp.ret ?_
    obtain rfl := Option.some.inj h
    exact Ret.two rfl (resV_cellN tk24 rfl rfl) (resV_tmp rfl) rfl
theorem c_graph_Add (N : Nat) (a0 : TGraph) (a1 : Int) (a2 : Int) (r : TGraph × Int) (h : graph_Add N a0 a1 a2 = some r) (H : List Ob) : DCall Try.prog 9 [.agg (eGraph a0), .c (I a1), .c (I a2)] H (.tup [.agg (eGraph r.1), .c (I r.2)]) := DCall.lift (by first | rfl | simp [-List.map_set]) (by first | rfl | simp [-List.map_set]) (fun _ => by simp [-List.map_set]) (w_graph_Add N a0 a1 a2 r h) H
-- narthex/graph.Remove$1
theorem w_graph_Remove_1 (N : Nat) (a0 : TEdge) (c0_0 : Int) (c0_1 : List TEdge) (c1_0 : Int) (c2_0 : Int) (c3_0 : Int) (l4 : List TEdge) {w4 : Nat} (r : Bool) (h : graph_Remove_1 N a0 c0_0 c0_1 c1_0 c2_0 c3_0 l4 = some r) : Nx.Call Try.prog 33 [.agg (eEdge a0), .c (.ptr 1 0 0 0), .c (.ptr 2 0 0 0)] [.live 0 2 [[I c0_0, .slv (c0_1.map eEdge)]], .live 0 1 [[I c1_0]], .live 0 1 [[I c2_0]], .live 0 2 [[I c3_0, nilS]], .live w4 2 (l4.map eEdge)] fun r' H' => r' = .c (B r) ∧ ∃ junk, H' = [.live 0 2 [[I c0_0, .slv (c0_1.map eEdge)]], .live 0 1 [[I c1_0]], .live 0 1 [[I c2_0]], .live 0 2 [[I c3_0, nilS]], .live w4 2 (l4.map eEdge)] ++ junk := by
  refine Nx.Call.of_body Try.func33 rfl en33 Try.ntmps33 rfl (fun Γ hok => ?_)
  unfold graph_Remove_1 at h
  refine Wp.seq ?_
  refine Wp.text [1, 2, 3] rfl rfl ?_ -- region 0
  refine TextR.box (cs := [I a0.A, I a0.B]) 5 rfl rfl rfl rfl (.cons (.cons (.cons (.cons (.cons .nil))))) ?_
  refine TextR.assign rfl ?_
  refine TextR.done (.cons rfl (.cons rfl (.cons rfl .nil))) ?_
  refine Wp.seq ?_
  obtain ⟨y1, hy1, h⟩ := bind_some h
  refine Wp.go true (some ⟨[], []⟩) [] [] [4] mixed rfl rfl (by kernel_rfl) ?_ -- region 1
  refine RunR.loadN (cs := [I a0.A, I a0.B]) tk37 rfl rfl rfl rfl ?_
  refine RunR.load1 tk3 rfl rfl rfl rfl ?_
  refine RunR.load1 tk3 rfl rfl rfl rfl ?_
  refine RunR.call rfl rfl rfl (fun H => c_graph_edge N c1_0 c2_0 y1 hy1 H) ?_
  refine RunR.eqAgg eqs37 rfl rfl rfl rfl (q_Edge a0 y1) ?_
  refine RunR.assign rfl rfl rfl ?_
  refine RunR.doneQ (.cons rfl .nil) ?_
  refine Wp.ret ?_
  obtain rfl := Option.some.inj h
  exact Ret.one rfl (resV_tmp rfl) ⟨rfl, _, rfl⟩
theorem c_graph_Remove_1 (N : Nat) (a0 : TEdge) (c0_0 : Int) (c0_1 : List TEdge) (c1_0 : Int) (c2_0 : Int) (c3_0 : Int) (l4 : List TEdge) {w4 : Nat} (r : Bool) (h : graph_Remove_1 N a0 c0_0 c0_1 c1_0 c2_0 c3_0 l4 = some r) : DCall Try.prog 33 [.agg (eEdge a0), .c (.ptr 1 0 0 0), .c (.ptr 2 0 0 0)] [.live 0 2 [[I c0_0, .slv (c0_1.map eEdge)]], .live 0 1 [[I c1_0]], .live 0 1 [[I c2_0]], .live 0 2 [[I c3_0, nilS]], .live w4 2 (l4.map eEdge)] (.c (B r)) := Call.trim (by simp) (by first | rfl | simp [-List.map_set]) (by first | rfl | simp [-List.map_set]) (w_graph_Remove_1 N a0 c0_0 c0_1 c1_0 c2_0 c3_0 l4 r h)
-- slices.IndexFunc[[]narthex/api.Edge,narthex/api.Edge]
theorem w_slices_IndexFunc_Edge_2 (N : Nat) (c0_0 : Int) (c0_1 : List TEdge) (c1_0 : Int) (c2_0 : Int) (c3_0 : Int) (l4 : List TEdge) {w4 : Nat} (r : Int) (h : slices_IndexFunc_Edge_2 N c0_0 c0_1 c1_0 c2_0 c3_0 l4 = some r) : Nx.Call Try.prog 45 [.c (.sl 4 w4 0 l4.length), .c (.clo 33 [.ptr 1 0 0 0, .ptr 2 0 0 0])] [.live 0 2 [[I c0_0, .slv (c0_1.map eEdge)]], .live 0 1 [[I c1_0]], .live 0 1 [[I c2_0]], .live 0 2 [[I c3_0, nilS]], .live w4 2 (l4.map eEdge)] fun r' H' => r' = .c (I r) ∧ ∃ junk, H' = [.live 0 2 [[I c0_0, .slv (c0_1.map eEdge)]], .live 0 1 [[I c1_0]], .live 0 1 [[I c2_0]], .live 0 2 [[I c3_0, nilS]], .live w4 2 (l4.map eEdge)] ++ junk := by
  refine Nx.Call.of_body Try.func45 rfl en45 Try.ntmps45 rfl (fun Γ hok => ?_)
  unfold slices_IndexFunc_Edge_2 at h
  refine Wp.seq ?_
  refine Wp.text [0, 1] rfl rfl ?_ -- region 0
  refine TextR.assign rfl ?_
  refine TextR.done (.cons rfl (.cons rfl .nil)) ?_
  refine Wp.seq ?_
  refine Wp.seq ?_
  refine Wp.text [0, 1, 7, 8] rfl rfl ?_ -- region 1
  refine TextR.move rfl ?_
  refine TextR.len us22 rfl rfl ?_
  refine TextR.move rfl ?_
  refine TextR.done (.cons rfl (.cons rfl (.cons rfl (.cons rfl .nil)))) ?_
  obtain ⟨z1, hz1, h⟩ := bind_some h
  refine Wp.fragR (fun S => ∃ z3, z1 = .inr z3 ∧ ∃ S', St.Weak ⟨Try.prog, 19, Γ⟩ S S' ∧ S' = ⟨[], [.live 0 2 [[I c0_0, .slv (c0_1.map eEdge)]], .live 0 1 [[I c1_0]], .live 0 1 [[I c2_0]], .live 0 2 [[I c3_0, nilS]], .live w4 2 (l4.map eEdge)]⟩) (fun S => ∃ v, z1 = .inl v ∧ Ret Try.prog Try.f45 (fun r' H' => r' = .c (I v) ∧ ∃ junk, H' = [.live 0 2 [[I c0_0, .slv (c0_1.map eEdge)]], .live 0 1 [[I c1_0]], .live 0 1 [[I c2_0]], .live 0 2 [[I c3_0, nilS]], .live w4 2 (l4.map eEdge)] ++ junk) .ret S) ?_ ?_ ?_
  · replace h := hz1
    refine Wp.block ?_
    refine Wp.weak (keepW (live := [0, 1, 7, 8]) (.cons rfl (.cons rfl (.cons rfl (.cons rfl .nil))))) ?_
    refine Wp.loop (fun m S => ∃ s8_1, slices_IndexFunc_Edge_2_L1 N c0_0 c0_1 c1_0 c2_0 c3_0 l4 m s8_1 = some z1 ∧ S = ⟨[(0, .c (.sl 4 w4 0 l4.length)), (1, .c (.clo 33 [.ptr 1 0 0 0, .ptr 2 0 0 0])), (7, .c (I (l4.length : Int))), (8, .c (I s8_1))], [.live 0 2 [[I c0_0, .slv (c0_1.map eEdge)]], .live 0 1 [[I c1_0]], .live 0 1 [[I c2_0]], .live 0 2 [[I c3_0, nilS]], .live w4 2 (l4.map eEdge)]⟩) N ⟨_, h, rfl⟩ ?_
    rintro m1 _ ⟨s8_1, h, rfl⟩
    cases m1 with
    | zero => rw [slices_IndexFunc_Edge_2_L1.eq_1] at h; cases h
    | succ m1 =>
    rw [slices_IndexFunc_Edge_2_L1.eq_2] at h
    refine Wp.seq ?_
    refine Wp.text [0, 1, 7, 8, 9] rfl rfl ?_ -- region 2
    refine TextR.int rfl rfl rfl ?_
    refine TextR.done (.cons rfl (.cons rfl (.cons rfl (.cons rfl (.cons rfl .nil))))) ?_
    refine Wp.seq ?_
    refine Wp.condM h rfl (fun hc2 h => ?_) (fun hc2 h => ?_)
    · refine Wp.skip ?_
      refine Wp.seq ?_
      refine Wp.block ?_
      refine Wp.seq ?_
      refine Wp.text [0, 1, 5, 7, 8] rfl rfl ?_ -- region 3
      refine TextR.move rfl ?_
      refine TextR.assign rfl ?_
      refine TextR.done (.cons rfl (.cons rfl (.cons rfl (.cons rfl (.cons rfl .nil))))) ?_
      refine Wp.seq ?_
      obtain ⟨x4, hx4, h⟩ := bind_some h
      obtain ⟨y5, hy5, h⟩ := bind_some h
      refine Wp.text [0, 1, 5, 7, 8, 16] rfl rfl ?_ -- region 4
      refine TextR.move rfl ?_
      refine TextR.move rfl ?_
      refine TextR.move rfl ?_
      refine TextR.indexOA se22 rfl rfl (obj_of rfl) hx4 ?_
      refine TextR.loadNO tk37 rfl (obj_of rfl) (at_get hx4) rfl ?_
      refine TextR.dcall rfl rfl (c_graph_Remove_1 N x4 c0_0 c0_1 c1_0 c2_0 c3_0 l4 y5 hy5) ?_
      refine TextR.done (.cons rfl (.cons rfl (.cons rfl (.cons rfl (.cons rfl (.cons rfl .nil)))))) ?_
      refine Wp.condM h rfl (fun hc3 h => ?_) (fun hc3 h => ?_)
      · refine Wp.seq ?_
        refine Wp.text [4] rfl rfl ?_ -- region 5
        refine TextR.move rfl ?_
        refine TextR.assign rfl ?_
        refine TextR.done (.cons rfl .nil) ?_
        refine Wp.ret ?_
        exact ⟨_, (Option.some.inj h).symm, Ret.one rfl (resV_tmp rfl) ⟨rfl, _, rfl⟩⟩
      · refine Wp.skip ?_
        refine Wp.text [0, 1, 7, 8] rfl rfl ?_ -- region 6
        refine TextR.int rfl rfl rfl ?_
        refine TextR.move rfl ?_
        refine TextR.done (.cons rfl (.cons rfl (.cons rfl (.cons rfl .nil)))) ?_
        exact ⟨m1, Nat.lt_succ_self _, _, (keepW (live := [0, 1, 7, 8]) (.cons rfl (.cons rfl (.cons rfl (.cons rfl .nil))))), _, h, rfl⟩
    · refine Wp.exit ?_
      exact ⟨_, (Option.some.inj h).symm, _, (keepW (live := []) .nil), rfl⟩
  · rintro _ ⟨z3, rfl, _, hw, rfl⟩
    dsimp only at h
    clear hz1
    refine Wp.weak hw ?_
    refine Wp.seq ?_
    refine Wp.text [4] rfl rfl ?_ -- region 7
    refine TextR.assign rfl ?_
    refine TextR.done (.cons rfl .nil) ?_
    refine Wp.ret ?_
    obtain rfl := Option.some.inj h
    exact Ret.one rfl (resV_tmp rfl) ⟨rfl, _, rfl⟩
  · rintro S' ⟨r2, rfl, hR⟩
    dsimp only at h
    obtain rfl := Option.some.inj h
    exact hR
theorem c_slices_IndexFunc_Edge_2 (N : Nat) (c0_0 : Int) (c0_1 : List TEdge) (c1_0 : Int) (c2_0 : Int) (c3_0 : Int) (l4 : List TEdge) {w4 : Nat} (r : Int) (h : slices_IndexFunc_Edge_2 N c0_0 c0_1 c1_0 c2_0 c3_0 l4 = some r) : DCall Try.prog 45 [.c (.sl 4 w4 0 l4.length), .c (.clo 33 [.ptr 1 0 0 0, .ptr 2 0 0 0])] [.live 0 2 [[I c0_0, .slv (c0_1.map eEdge)]], .live 0 1 [[I c1_0]], .live 0 1 [[I c2_0]], .live 0 2 [[I c3_0, nilS]], .live w4 2 (l4.map eEdge)] (.c (I r)) := Call.trim (by simp) (by first | rfl | simp [-List.map_set]) (by first | rfl | simp [-List.map_set]) (w_slices_IndexFunc_Edge_2 N c0_0 c0_1 c1_0 c2_0 c3_0 l4 r h)
-- narthex/graph.Remove$1
theorem w_graph_Remove_1_2 (N : Nat) (a0 : TEdge) (c0_0 : Int) (c0_1 : List TEdge) (c1_0 : Int) (c2_0 : Int) (c3_0 : Int) (l4 : List TEdge) (c5_0 : Int) (c5_1 : Int) {w4 : Nat} (r : Bool) (h : graph_Remove_1_2 N a0 c0_0 c0_1 c1_0 c2_0 c3_0 l4 c5_0 c5_1 = some r) : Nx.Call Try.prog 33 [.agg (eEdge a0), .c (.ptr 1 0 0 0), .c (.ptr 2 0 0 0)] [.live 0 2 [[I c0_0, .slv (c0_1.map eEdge)]], .live 0 1 [[I c1_0]], .live 0 1 [[I c2_0]], .live 0 2 [[I c3_0, nilS]], .live w4 2 (l4.map eEdge), .live 0 2 [[I c5_0, I c5_1]]] fun r' H' => r' = .c (B r) ∧ ∃ junk, H' = [.live 0 2 [[I c0_0, .slv (c0_1.map eEdge)]], .live 0 1 [[I c1_0]], .live 0 1 [[I c2_0]], .live 0 2 [[I c3_0, nilS]], .live w4 2 (l4.map eEdge), .live 0 2 [[I c5_0, I c5_1]]] ++ junk := by
  refine Nx.Call.of_body Try.func33 rfl en33 Try.ntmps33 rfl (fun Γ hok => ?_)
  unfold graph_Remove_1_2 at h
  refine Wp.seq ?_
  refine Wp.text [1, 2, 3] rfl rfl ?_ -- region 0
  refine TextR.box (cs := [I a0.A, I a0.B]) 6 rfl rfl rfl rfl (.cons (.cons (.cons (.cons (.cons (.cons .nil)))))) ?_
  refine TextR.assign rfl ?_
  refine TextR.done (.cons rfl (.cons rfl (.cons rfl .nil))) ?_
  refine Wp.seq ?_
  obtain ⟨y1, hy1, h⟩ := bind_some h
  refine Wp.go true (some ⟨[], []⟩) [] [] [4] mixed rfl rfl (by kernel_rfl) ?_ -- region 1
  refine RunR.loadN (cs := [I a0.A, I a0.B]) tk37 rfl rfl rfl rfl ?_
  refine RunR.load1 tk3 rfl rfl rfl rfl ?_
  refine RunR.load1 tk3 rfl rfl rfl rfl ?_
  refine RunR.call rfl rfl rfl (fun H => c_graph_edge N c1_0 c2_0 y1 hy1 H) ?_
  refine RunR.eqAgg eqs37 rfl rfl rfl rfl (q_Edge a0 y1) ?_
  refine RunR.assign rfl rfl rfl ?_
  refine RunR.doneQ (.cons rfl .nil) ?_
  refine Wp.ret ?_
  obtain rfl := Option.some.inj h
  exact Ret.one rfl (resV_tmp rfl) ⟨rfl, _, rfl⟩
theorem c_graph_Remove_1_2 (N : Nat) (a0 : TEdge) (c0_0 : Int) (c0_1 : List TEdge) (c1_0 : Int) (c2_0 : Int) (c3_0 : Int) (l4 : List TEdge) (c5_0 : Int) (c5_1 : Int) {w4 : Nat} (r : Bool) (h : graph_Remove_1_2 N a0 c0_0 c0_1 c1_0 c2_0 c3_0 l4 c5_0 c5_1 = some r) : DCall Try.prog 33 [.agg (eEdge a0), .c (.ptr 1 0 0 0), .c (.ptr 2 0 0 0)] [.live 0 2 [[I c0_0, .slv (c0_1.map eEdge)]], .live 0 1 [[I c1_0]], .live 0 1 [[I c2_0]], .live 0 2 [[I c3_0, nilS]], .live w4 2 (l4.map eEdge), .live 0 2 [[I c5_0, I c5_1]]] (.c (B r)) := Call.trim (by simp) (by first | rfl | simp [-List.map_set]) (by first | rfl | simp [-List.map_set]) (w_graph_Remove_1_2 N a0 c0_0 c0_1 c1_0 c2_0 c3_0 l4 c5_0 c5_1 r h)
-- slices.DeleteFunc[[]narthex/api.Edge,narthex/api.Edge]
theorem w_slices_DeleteFunc_Edge (N : Nat) (c0_0 : Int) (c0_1 : List TEdge) (c1_0 : Int) (c2_0 : Int) (c3_0 : Int) (l4 : List TEdge) {w4 : Nat} (r : (List TEdge)) (h : slices_DeleteFunc_Edge N c0_0 c0_1 c1_0 c2_0 c3_0 l4 = some r) : Nx.Call Try.prog 34 [.c (.sl 4 w4 0 l4.length), .c (.clo 33 [.ptr 1 0 0 0, .ptr 2 0 0 0])] [.live 0 2 [[I c0_0, .slv (c0_1.map eEdge)]], .live 0 1 [[I c1_0]], .live 0 1 [[I c2_0]], .live 0 2 [[I c3_0, nilS]], .live w4 2 (l4.map eEdge)] fun r' H' => r' = .c (.sl 4 (w4 + 1) 0 r.length) ∧ ∃ junk, H' = [.live 0 2 [[I c0_0, .slv (c0_1.map eEdge)]], .live 0 1 [[I c1_0]], .live 0 1 [[I c2_0]], .live 0 2 [[I c3_0, nilS]], .live (w4 + 1) 2 (r.map eEdge)] ++ junk := by
  refine Nx.Call.of_body Try.func34 rfl en34 Try.ntmps34 rfl (fun Γ hok => ?_)
  unfold slices_DeleteFunc_Edge at h
  refine Wp.seq ?_
  refine Wp.text [0, 1] rfl rfl ?_ -- region 0
  refine TextR.assign rfl ?_
  refine TextR.done (.cons rfl (.cons rfl .nil)) ?_
  refine Wp.seq ?_
  obtain ⟨y1, hy1, h⟩ := bind_some h
  refine Wp.text [0, 1, 5] rfl rfl ?_ -- region 1
  refine TextR.move rfl ?_
  refine TextR.move rfl ?_
  refine TextR.dcall rfl rfl (c_slices_IndexFunc_Edge_2 N c0_0 c0_1 c1_0 c2_0 c3_0 l4 y1 hy1) ?_
  refine TextR.assign rfl ?_
  refine TextR.done (.cons rfl (.cons rfl (.cons rfl .nil))) ?_
  refine Wp.seq ?_
  refine Wp.seq ?_
  refine Wp.text [0, 1, 5, 12] rfl rfl ?_ -- region 2
  refine TextR.move rfl ?_
  refine TextR.int rfl rfl rfl ?_
  refine TextR.done (.cons rfl (.cons rfl (.cons rfl (.cons rfl .nil)))) ?_
  refine Wp.condM h rfl (fun hc1 h => ?_) (fun hc1 h => ?_)
  · refine Wp.seq ?_
    refine Wp.text [4] rfl rfl ?_ -- region 3
    refine TextR.move rfl ?_
    refine TextR.assign rfl ?_
    refine TextR.done (.cons rfl .nil) ?_
    refine Wp.weak (keepW (live := [4] ) (.cons rfl .nil)) ?_
    refine Wp.weak (narrowE (t := 4) (rows' := l4.map eEdge) rfl (obj_of rfl) (by simp) (by simp [List.take_of_length_le]) (.succ (.succ (.succ (.succ .zero))))) ?_
    refine Wp.weak (keepW (live := [4]) (.cons rfl .nil)) ?_
    refine Wp.ret ?_
    obtain rfl := Option.some.inj h
    exact Ret.one rfl (resV_tmp rfl) ⟨rfl, _, rfl⟩
  · refine Wp.skip ?_
    refine Wp.seq ?_
    refine Wp.seq ?_
    refine Wp.text [0, 1, 5, 6] rfl rfl ?_ -- region 4
    refine TextR.move rfl ?_
    refine TextR.int rfl rfl rfl ?_
    refine TextR.assign rfl ?_
    refine TextR.done (.cons rfl (.cons rfl (.cons rfl (.cons rfl .nil)))) ?_
    obtain ⟨z2, hz2, h⟩ := bind_some h
    refine Wp.fragN (fun S => ∃ S', St.Weak ⟨Try.prog, 42, Γ⟩ S S' ∧ S' = ⟨[(0, .c (.sl 4 w4 0 z2.1.length)), (5, .c (I z2.2))], [.live 0 2 [[I c0_0, .slv (c0_1.map eEdge)]], .live 0 1 [[I c1_0]], .live 0 1 [[I c2_0]], .live 0 2 [[I c3_0, nilS]], .live w4 2 (z2.1.map eEdge)]⟩) ?_ ?_
    · replace h := hz2
      refine Wp.block ?_
      refine Wp.weak (keepW (live := [0, 1, 5, 6]) (.cons rfl (.cons rfl (.cons rfl (.cons rfl .nil))))) ?_
      refine Wp.loop (fun m S => ∃ l4_1, ∃ s5_1, ∃ s6_1, slices_DeleteFunc_Edge_L1 N c0_0 c0_1 c1_0 c2_0 c3_0 m l4_1 s5_1 s6_1 = some z2 ∧ S = ⟨[(0, .c (.sl 4 w4 0 l4_1.length)), (1, .c (.clo 33 [.ptr 1 0 0 0, .ptr 2 0 0 0])), (5, .c (I s5_1)), (6, .c (I s6_1))], [.live 0 2 [[I c0_0, .slv (c0_1.map eEdge)]], .live 0 1 [[I c1_0]], .live 0 1 [[I c2_0]], .live 0 2 [[I c3_0, nilS]], .live w4 2 (l4_1.map eEdge)]⟩) N ⟨_, _, _, h, rfl⟩ ?_
      rintro m1 _ ⟨l4_1, s5_1, s6_1, h, rfl⟩
      cases m1 with
      | zero => rw [slices_DeleteFunc_Edge_L1.eq_1] at h; cases h
      | succ m1 =>
      rw [slices_DeleteFunc_Edge_L1.eq_2] at h
      refine Wp.seq ?_
      refine Wp.seq ?_
      refine Wp.text [0, 1, 5, 6, 19] rfl rfl ?_ -- region 5
      refine TextR.move rfl ?_
      refine TextR.move rfl ?_
      refine TextR.len us22 rfl rfl ?_
      refine TextR.int rfl rfl rfl ?_
      refine TextR.done (.cons rfl (.cons rfl (.cons rfl (.cons rfl (.cons rfl .nil))))) ?_
      refine Wp.condM h rfl (fun hc3 h => ?_) (fun hc3 h => ?_)
      · refine Wp.skip ?_
        refine Wp.seq ?_
        refine Wp.block ?_
        refine Wp.seq ?_
        obtain ⟨x3, hx3, h⟩ := bind_some h
        refine Wp.text [0, 1, 5, 6, 7] rfl rfl ?_ -- region 7
        refine TextR.move rfl ?_
        refine TextR.move rfl ?_
        refine TextR.indexOA se22 rfl rfl (obj_of rfl) hx3 ?_
        refine TextR.loadNO tk37 rfl (obj_of rfl) (at_get hx3) rfl ?_
        refine TextR.alloc 5 zc37 rfl rfl (.cons (.cons (.cons (.cons (.cons .nil))))) ?_
        refine TextR.store1 tk37 rfl rfl rfl rfl rfl rfl (.succ (.succ (.succ (.succ (.succ .zero))))) ?_
        refine TextR.done (.cons rfl (.cons rfl (.cons rfl (.cons rfl (.cons rfl .nil))))) ?_
        refine Wp.seq ?_
        obtain ⟨y4, hy4, h⟩ := bind_some h
        refine Wp.text [0, 1, 5, 6, 7, 29] rfl rfl ?_ -- region 8
        refine TextR.move rfl ?_
        refine TextR.loadN (cs := [I x3.A, I x3.B]) tk37 rfl rfl ?_
        refine TextR.dcall rfl rfl (c_graph_Remove_1_2 N x3 c0_0 c0_1 c1_0 c2_0 c3_0 l4_1 x3.A x3.B y4 hy4) ?_
        refine TextR.not rfl ?_
        refine TextR.done (.cons rfl (.cons rfl (.cons rfl (.cons rfl (.cons rfl (.cons rfl .nil)))))) ?_
        refine Wp.condM h rfl (fun hc4 h => ?_) (fun hc4 h => ?_)
        · refine Wp.seq ?_
          obtain ⟨x5, hx5, h⟩ := bind_some h
          refine Wp.text [0, 1, 5, 6] rfl rfl ?_ -- region 9
          refine TextR.move rfl ?_
          refine TextR.move rfl ?_
          refine TextR.loadN (cs := [I x3.A, I x3.B]) tk37 rfl rfl ?_
          refine TextR.indexOA se22 rfl rfl (obj_of rfl) hx5 ?_
          refine TextR.storeO x3 tk37 rfl rfl rfl (obj_of rfl) rfl (at_get hx5) rfl rfl (.succ (.succ (.succ (.succ .zero)))) ?_
          refine TextR.done (.cons rfl (.cons rfl (.cons rfl (.cons rfl .nil)))) ?_
          refine Wp.weak (eqW (S' := ⟨[(0, .c (.sl 4 w4 0 (l4_1.set s5_1.toNat x3).length)), (1, .c (.clo 33 [.ptr 1 0 0 0, .ptr 2 0 0 0])), (5, .c (I s5_1)), (6, .c (I s6_1))], [.live 0 2 [[I c0_0, .slv (c0_1.map eEdge)]], .live 0 1 [[I c1_0]], .live 0 1 [[I c2_0]], .live 0 2 [[I c3_0, nilS]], .live w4 2 ((l4_1.set s5_1.toNat x3).map eEdge), .live 0 2 [[I x3.A, I x3.B]]]⟩) (by first | rfl | (simp only [List.length_set]; done) | (simp only [List.length_set]; rfl))) ?_
          refine Wp.text [0, 1, 5, 6] rfl rfl ?_ -- region 10
          refine TextR.move rfl ?_
          refine TextR.int rfl rfl rfl ?_
          refine TextR.assign rfl ?_
          refine TextR.done (.cons rfl (.cons rfl (.cons rfl (.cons rfl .nil)))) ?_
          refine Wp.text [0, 1, 5, 6] rfl rfl ?_ -- region 6
          refine TextR.move rfl ?_
          refine TextR.int rfl rfl rfl ?_
          refine TextR.assign rfl ?_
          refine TextR.done (.cons rfl (.cons rfl (.cons rfl (.cons rfl .nil)))) ?_
          exact ⟨m1, Nat.lt_succ_self _, _, (St.Weak.trans (keepW (live := [0, 1, 5, 6]) (.cons rfl (.cons rfl (.cons rfl (.cons rfl .nil))))) (pickT (e' := [(0, .c (.sl 4 w4 0 (l4_1.set s5_1.toNat x3).length)), (1, .c (.clo 33 [.ptr 1 0 0 0, .ptr 2 0 0 0])), (5, .c (I (w64 (s5_1 + 1)))), (6, .c (I (w64 (s6_1 + 1))))]) (H' := [.live 0 2 [[I c0_0, .slv (c0_1.map eEdge)]], .live 0 1 [[I c1_0]], .live 0 1 [[I c2_0]], .live 0 2 [[I c3_0, nilS]], .live w4 2 ((l4_1.set s5_1.toNat x3).map eEdge)]) [0, 1, 2, 3, 4] [0, 1, 2, 3, 4, 0] 5 hok.len.symm rfl rfl (by decide) (by first | rfl | simp [-List.map_set]) (by first | rfl | simp [-List.map_set]) (by first | rfl | simp [-List.map_set]) (by first | rfl | simp [-List.map_set]))), _, _, _, h, rfl⟩
        · refine Wp.skip ?_
          refine Wp.text [0, 1, 5, 6] rfl rfl ?_ -- region 6
          refine TextR.move rfl ?_
          refine TextR.int rfl rfl rfl ?_
          refine TextR.assign rfl ?_
          refine TextR.done (.cons rfl (.cons rfl (.cons rfl (.cons rfl .nil)))) ?_
          exact ⟨m1, Nat.lt_succ_self _, _, (St.Weak.trans (keepW (live := [0, 1, 5, 6]) (.cons rfl (.cons rfl (.cons rfl (.cons rfl .nil))))) (pickT (e' := [(0, .c (.sl 4 w4 0 l4_1.length)), (1, .c (.clo 33 [.ptr 1 0 0 0, .ptr 2 0 0 0])), (5, .c (I s5_1)), (6, .c (I (w64 (s6_1 + 1))))]) (H' := [.live 0 2 [[I c0_0, .slv (c0_1.map eEdge)]], .live 0 1 [[I c1_0]], .live 0 1 [[I c2_0]], .live 0 2 [[I c3_0, nilS]], .live w4 2 (l4_1.map eEdge)]) [0, 1, 2, 3, 4] [0, 1, 2, 3, 4, 0] 5 hok.len.symm rfl rfl (by decide) (by first | rfl | simp [-List.map_set]) (by first | rfl | simp [-List.map_set]) (by first | rfl | simp [-List.map_set]) (by first | rfl | simp [-List.map_set]))), _, _, _, h, rfl⟩
      · refine Wp.exit ?_
        obtain rfl := Option.some.inj h
        exact ⟨_, (keepW (live := [0, 5]) (.cons rfl (.cons rfl .nil))), rfl⟩
    rintro _ ⟨S', hw, rfl⟩
    clear hz2
    refine Wp.weak hw ?_
    refine Wp.seq ?_
    obtain ⟨x6, hx6, h⟩ := bind_some h
    refine Wp.text [0, 5] rfl rfl ?_ -- region 11
    refine TextR.move rfl ?_
    refine TextR.move rfl ?_
    refine TextR.sliceOM se22 rfl rfl rfl (obj_of rfl) rfl rfl hx6 ?_
    refine TextR.clearM eEdge z2.1 (⟨0, 0⟩ : TEdge) se22 rfl (obj_of rfl) (by have q0 := sub_le hx6; first | exact q0 | (simp only [List.length_set, List.length_take, List.length_drop, length_cpy, length_clr] at *; omega)) rfl (fun _ => rfl) (.succ (.succ (.succ (.succ .zero)))) ?_
    refine TextR.done (.cons rfl (.cons rfl .nil)) ?_
    refine Wp.weak (eqW (S' := ⟨[(0, .c (.sl 4 w4 0 (clr z2.1 (Int.toNat z2.2) x6.length (⟨0, 0⟩ : TEdge)).length)), (5, .c (I z2.2))], [.live 0 2 [[I c0_0, .slv (c0_1.map eEdge)]], .live 0 1 [[I c1_0]], .live 0 1 [[I c2_0]], .live 0 2 [[I c3_0, nilS]], .live w4 2 ((clr z2.1 (Int.toNat z2.2) x6.length (⟨0, 0⟩ : TEdge)).map eEdge)]⟩) (by have e0 := length_clr z2.1 (Int.toNat z2.2) x6.length (⟨0, 0⟩ : TEdge) (by have q0 := sub_le hx6; first | exact q0 | (simp only [List.length_set, List.length_take, List.length_drop, length_cpy, length_clr] at *; omega)); first | rfl | (simp only [List.length_set]; done) | (simp only [List.length_set]; rfl) | (simp only [List.length_set, e0]; done) | (simp only [List.length_set, e0]; rfl))) ?_
    refine Wp.seq ?_
    obtain ⟨x7, hx7, h⟩ := bind_some h
    refine Wp.text [4] rfl rfl ?_ -- region 12
    refine TextR.move rfl ?_
    refine TextR.move rfl ?_
    refine TextR.sliceOM se22 rfl rfl rfl (obj_of rfl) rfl rfl hx7 ?_
    refine TextR.assign rfl ?_
    refine TextR.done (.cons rfl .nil) ?_
    refine Wp.weak (keepW (live := [4] ) (.cons rfl .nil)) ?_
    refine Wp.weak (narrowE (t := 4) (rows' := x7.map eEdge) rfl (obj_of rfl) (by have q := sub_le hx7; simp at q ⊢; omega) (sub_rows hx7) (.succ (.succ (.succ (.succ .zero))))) ?_
    refine Wp.weak (keepW (live := [4]) (.cons rfl .nil)) ?_
    refine Wp.ret ?_
    obtain rfl := Option.some.inj h
    exact Ret.one rfl (resV_tmp rfl) ⟨rfl, _, rfl⟩
theorem c_slices_DeleteFunc_Edge (N : Nat) (c0_0 : Int) (c0_1 : List TEdge) (c1_0 : Int) (c2_0 : Int) (c3_0 : Int) (l4 : List TEdge) {w4 : Nat} (r : (List TEdge)) (h : slices_DeleteFunc_Edge N c0_0 c0_1 c1_0 c2_0 c3_0 l4 = some r) : Nx.Call Try.prog 34 [.c (.sl 4 w4 0 l4.length), .c (.clo 33 [.ptr 1 0 0 0, .ptr 2 0 0 0])] [.live 0 2 [[I c0_0, .slv (c0_1.map eEdge)]], .live 0 1 [[I c1_0]], .live 0 1 [[I c2_0]], .live 0 2 [[I c3_0, nilS]], .live w4 2 (l4.map eEdge)] fun r' H' => r' = .c (.sl 4 (w4 + 1) 0 r.length) ∧ H' = [.live 0 2 [[I c0_0, .slv (c0_1.map eEdge)]], .live 0 1 [[I c1_0]], .live 0 1 [[I c2_0]], .live 0 2 [[I c3_0, nilS]], .live (w4 + 1) 2 (r.map eEdge)] := Call.trim (by simp) (by first | rfl | simp [-List.map_set]) (by first | rfl | simp [-List.map_set]) (w_slices_DeleteFunc_Edge N c0_0 c0_1 c1_0 c2_0 c3_0 l4 r h)
-- narthex/graph.Remove
theorem w_graph_Remove (N : Nat) (a0 : TGraph) (a1 : Int) (a2 : Int) (r : TGraph × Int) (h : graph_Remove N a0 a1 a2 = some r) : Nx.Call Try.prog 12 [.agg (eGraph a0), .c (I a1), .c (I a2)] [] fun r' _ => r' = .tup [.agg (eGraph r.1), .c (I r.2)] := by
  refine Nx.Call.of_body Try.func12 rfl en12 Try.ntmps12 rfl (fun Γ hok => ?_)
  unfold graph_Remove at h
  refine Wp.seq ?_
  refine Wp.text [3, 4, 5, 6] rfl rfl ?_ -- region 0
  refine TextR.box (cs := [I a0.N, .slv (a0.Edges.map eEdge)]) 0 rfl rfl rfl rfl .nil ?_
  refine TextR.box (cs := [I a1]) 1 rfl rfl rfl rfl (.cons .nil) ?_
  refine TextR.box (cs := [I a2]) 2 rfl rfl rfl rfl (.cons (.cons .nil)) ?_
  refine TextR.alloc 3 zc24 rfl rfl (.cons (.cons (.cons .nil))) ?_
  refine TextR.assign rfl ?_
  refine TextR.done (.cons rfl (.cons rfl (.cons rfl (.cons rfl .nil)))) ?_
  refine Wp.seq ?_
  refine Wp.seq ?_
  obtain ⟨y1, hy1, h⟩ := bind_some h
  refine Wp.text [3, 4, 5, 6, 8] rfl rfl ?_ -- region 1
  refine TextR.loadN (cs := [I a0.N, .slv (a0.Edges.map eEdge)]) tk24 rfl rfl ?_
  refine TextR.load1 tk3 rfl rfl ?_
  refine TextR.load1 tk3 rfl rfl ?_
  refine TextR.dcall rfl rfl (c_graph_told N a0 a1 a2 y1 hy1 _) ?_
  refine TextR.assign rfl ?_
  refine TextR.done (.cons rfl (.cons rfl (.cons rfl (.cons rfl (.cons rfl .nil))))) ?_
  refine Wp.seq ?_
  refine Wp.text [3, 4, 5, 6, 8, 15] rfl rfl ?_ -- region 2
  refine TextR.move rfl ?_
  refine TextR.int rfl rfl rfl ?_
  refine TextR.done (.cons rfl (.cons rfl (.cons rfl (.cons rfl (.cons rfl (.cons rfl .nil)))))) ?_
  refine Wp.condM h rfl (fun hc1 h => ?_) (fun hc1 h => ?_)
  · refine Wp.seq ?_
    refine Wp.text [6, 7] rfl rfl ?_ -- region 3
    refine TextR.build cm24 rfl ?_
    refine TextR.move rfl ?_
    refine TextR.store1 tk24 rfl rfl rfl rfl rfl rfl (.succ (.succ (.succ .zero))) ?_
    refine TextR.assign rfl ?_
    refine TextR.done (.cons rfl (.cons rfl .nil)) ?_
    refine Wp.weak (keepW (live := [6, 7] ) (.cons rfl (.cons rfl .nil))) ?_
    refine Wp.weak (nzT (e' := [(6, .c (.ptr 3 0 0 0)), (7, .c (I y1))]) (H' := [.live 0 2 [[I a0.N, .slv (a0.Edges.map eEdge)]], .live 0 1 [[I a1]], .live 0 1 [[I a2]], .live 0 2 [[I 0, .slv ([].map eEdge)]]]) (by first | rfl | simp [-List.map_set]) (by first | rfl | simp [-List.map_set])) ?_
    refine Wp.ret ?_
    obtain rfl := Option.some.inj h
    exact Ret.two rfl (resV_cellN tk24 rfl rfl) (resV_tmp rfl) rfl
  · refine Wp.skip ?_
    refine Wp.seq ?_
    refine Wp.seq ?_
    obtain ⟨y2, hy2, h⟩ := bind_some h
    refine Wp.text [3, 4, 5, 6, 22] rfl rfl ?_ -- region 4
    refine TextR.loadN (cs := [I a0.N, .slv (a0.Edges.map eEdge)]) tk24 rfl rfl ?_
    refine TextR.load1 tk3 rfl rfl ?_
    refine TextR.load1 tk3 rfl rfl ?_
    refine TextR.dcall rfl rfl (c_graph_Has N a0 a1 a2 y2 hy2 _) ?_
    refine TextR.not rfl ?_
    refine TextR.done (.cons rfl (.cons rfl (.cons rfl (.cons rfl (.cons rfl .nil))))) ?_
    refine Wp.condM h rfl (fun hc2 h => ?_) (fun hc2 h => ?_)
    · refine Wp.seq ?_
      refine Wp.text [6, 7] rfl rfl ?_ -- region 5
      refine TextR.build cm24 rfl ?_
      refine TextR.store1 tk24 rfl rfl rfl rfl rfl rfl (.succ (.succ (.succ .zero))) ?_
      refine TextR.assign rfl ?_
      refine TextR.done (.cons rfl (.cons rfl .nil)) ?_
      refine Wp.weak (keepW (live := [6, 7] ) (.cons rfl (.cons rfl .nil))) ?_
      refine Wp.weak (nzT (e' := [(6, .c (.ptr 3 0 0 0)), (7, .c (I 33))]) (H' := [.live 0 2 [[I a0.N, .slv (a0.Edges.map eEdge)]], .live 0 1 [[I a1]], .live 0 1 [[I a2]], .live 0 2 [[I 0, .slv ([].map eEdge)]]]) (by first | rfl | simp [-List.map_set]) (by first | rfl | simp [-List.map_set])) ?_
      refine Wp.ret ?_
      obtain rfl := Option.some.inj h
      exact Ret.two rfl (resV_cellN tk24 rfl rfl) (resV_tmp rfl) rfl
    · refine Wp.skip ?_
      refine Wp.seq ?_
      refine Wp.text [3, 6, 9] rfl rfl ?_ -- region 6
      refine TextR.makeFunc rfl ?_
      refine TextR.assign rfl ?_
      refine TextR.done (.cons rfl (.cons rfl (.cons rfl .nil))) ?_
      refine Wp.seq ?_
      obtain ⟨y3, hy3, h⟩ := bind_some h
      obtain ⟨y4, hy4, h⟩ := bind_some h
      refine Wp.go true (some ⟨[4], [28, 34]⟩) [] [true, true, false, false, false, true, false, false, true, false] [6, 7] mixed rfl rfl (by kernel_rfl) ?_ -- region 7
      refine RunR.fieldAddr fo24_0 rfl rfl rfl rfl rfl ?_
      refine RunR.load1 tk3 rfl rfl rfl rfl ?_
      refine RunR.fieldAddr fo24_1 rfl rfl rfl rfl rfl ?_
      refine RunR.load1 tk22 rfl rfl rfl rfl ?_
      refine RunR.turn rfl rfl rfl rfl (.same (.same (.same (.same (.more rfl .nil))))) (by exact o_slices_Clone_Edge N a0.Edges y3 hy3 4 rfl (.cons (.cons (.cons (.cons .nil))))) ?_
      refine RunR.move rfl rfl rfl ?_
      refine RunR.turn rfl rfl rfl rfl (.same (.same (.same (.same (.turn rfl .nil))))) (by exact c_slices_DeleteFunc_Edge N a0.N a0.Edges a1 a2 0 y3 y4 hy4) ?_
      refine RunR.build cm24 rfl rfl rfl ?_
      refine RunR.store1 tk24 rfl rfl rfl rfl rfl rfl rfl rfl (.succ (.succ (.succ .zero))) ?_
      refine RunR.assign rfl rfl rfl ?_
      refine RunR.doneQ (.cons rfl (.cons rfl .nil)) ?_
      refine Wp.weak (keepW (live := [6, 7] ) (.cons rfl (.cons rfl .nil))) ?_
      refine Wp.weak (freezeW (h := 4) (ver := 2) (rows := y4.map eEdge) (e' := [(6, .c (.ptr 3 0 0 0)), (7, .c (I 0))]) (H' := [.live 0 2 [[I a0.N, .slv (a0.Edges.map eEdge)]], .live 0 1 [[I a1]], .live 0 1 [[I a2]], .live 0 2 [[I a0.N, .slv (y4.map eEdge)]], .dead]) rfl (by first | rfl | simp [-List.map_set]) (by first | rfl | simp [-List.map_set])) ?_
      refine Wp.ret ?_
      obtain rfl := Option.some.inj h
      exact Ret.two rfl (resV_cellN tk24 rfl rfl) (resV_tmp rfl) rfl
theorem c_graph_Remove (N : Nat) (a0 : TGraph) (a1 : Int) (a2 : Int) (r : TGraph × Int) (h : graph_Remove N a0 a1 a2 = some r) (H : List Ob) : DCall Try.prog 12 [.agg (eGraph a0), .c (I a1), .c (I a2)] H (.tup [.agg (eGraph r.1), .c (I r.2)]) := DCall.lift (by first | rfl | simp [-List.map_set]) (by first | rfl | simp [-List.map_set]) (fun _ => by simp [-List.map_set]) (w_graph_Remove N a0 a1 a2 r h) H
-- slices.Clone
theorem bn_slices_Clone_int : Nx.Call Try.prog 47 [.c nilS] [] fun r' H' => r' = .c (.sl 0 1 0 0) ∧ ∃ junk, H' = [.live 1 1 []] ++ junk := by
  refine Nx.Call.of_body Try.func47 rfl en47 Try.ntmps47 rfl (fun Γ hok => ?_)
  refine Wp.seq ?_
  refine Wp.text [0] rfl rfl ?_ -- region 0
  refine TextR.assign rfl ?_
  refine TextR.done (.cons rfl .nil) ?_
  refine Wp.seq ?_
  refine Wp.seq ?_
  refine Wp.text [0, 4] rfl rfl ?_ -- region 1
  refine TextR.move rfl ?_
  refine TextR.eqNil us34 rfl rfl ?_
  refine TextR.done (.cons rfl (.cons rfl .nil)) ?_
  refine Wp.cond rfl (fun hc => ?_) (fun hc => ?_)
  · refine Wp.seq ?_
    refine Wp.text [2] rfl rfl ?_ -- region 2
    refine TextR.assign rfl ?_
    refine TextR.done (.cons rfl .nil) ?_
    refine Wp.weak (fun a w hs => nilV_sat (t := 2) 1 1 0 rfl rfl .nil hs) ?_
    refine Wp.ret ?_
    refine Ret.one rfl (resV_tmp rfl) ?_
    exact ⟨rfl, [], rfl⟩
  · cases hc
theorem bq_slices_Clone_int (xs : List Int) (hl : xs.length ≤ 10000000000) : Nx.Call Try.prog 47 [.c (.slq (xs.map eI))] [] fun r' H' => r' = .c (.sl 0 1 0 xs.length) ∧ ∃ junk, H' = [.live 1 1 (xs.map eI)] ++ junk := by
  refine Nx.Call.of_body Try.func47 rfl en47 Try.ntmps47 rfl (fun Γ hok => ?_)
  refine Wp.seq ?_
  refine Wp.text [0] rfl rfl ?_ -- region 0
  refine TextR.assign rfl ?_
  refine TextR.done (.cons rfl .nil) ?_
  refine Wp.seq ?_
  refine Wp.seq ?_
  refine Wp.text [0, 4] rfl rfl ?_ -- region 1
  refine TextR.move rfl ?_
  refine TextR.eqNil us34 rfl rfl ?_
  refine TextR.done (.cons rfl (.cons rfl .nil)) ?_
  refine Wp.cond rfl (fun hc => ?_) (fun hc => ?_)
  · cases hc
  · refine Wp.skip ?_
    refine Wp.seq ?_
    refine Wp.text [2] rfl rfl ?_ -- region 3
    refine TextR.buildSlice 0 se34 rfl rfl rfl .nil ?_
    refine TextR.move rfl ?_
    refine TextR.appendM eI [] xs xs rfl se34 rfl rfl rfl rfl (fun _ => rfl) rfl (by simp; omega) .zero ?_
    refine TextR.assign rfl ?_
    refine TextR.done (.cons rfl .nil) ?_
    refine Wp.ret ?_
    refine Ret.one rfl (resV_tmp rfl) ?_
    exact ⟨rfl, [], rfl⟩
theorem b_slices_Clone_int (xs : List Int) (hl : xs.length ≤ 10000000000) : Nx.Call Try.prog 47 [.c (.slv (xs.map eI))] [] fun r' H' => r' = .c (.sl 0 1 0 xs.length) ∧ ∃ junk, H' = [.live 1 1 (xs.map eI)] ++ junk :=
  .cases en47 fun Γ args' hok hc => by
    simp only [concVs] at hc
    obtain ⟨y, ys', h1, h2, h3⟩ := hc
    rcases conc_slv_nil h2 with ⟨h4, h5⟩ | h5
    · have h6 : xs = [] := by simpa using h4
      subst h6
      exact ⟨[.c nilS], bn_slices_Clone_int, by simp only [concVs]; exact ⟨y, ys', h1, h5, h3⟩⟩
    · exact ⟨[.c (.slq (xs.map eI))], bq_slices_Clone_int xs hl, by simp only [concVs]; exact ⟨y, ys', h1, h5, h3⟩⟩
theorem o_slices_Clone_int (N : Nat) (a0 r : List Int) (h : slices_Clone_int N a0 = some r) {H H1 : List Ob} (k : Nat) (hh : H.length = k) (hs : Snoc (.live 1 1 (r.map eI)) H H1) : Nx.Call Try.prog 47 [.c (.slv (a0.map eI))] H fun r' H' => r' = .c (.sl k 1 0 r.length) ∧ H' = H1 := by
  have he := app_eq h
  have hl := app_len h
  simp only [List.nil_append] at he
  subst he
  have hc := Call.lift (objs := [.live 1 1 (a0.map eI)]) (by simp [hfVs, hfV, hfL, hfRows_map h_I]) rfl (by have := okR_eI (p := mvL 1) a0; simpa [mvO] using this) (b_slices_Clone_int a0 (by simpa using hl)) H
  refine Call.mono hc fun r' H' ⟨h1, h2⟩ => ⟨by subst hh; simpa [shV, shL] using h1, ?_⟩
  rw [h2, ← hs.eq]
  simp [shO, fx_eI]
-- narthex/set.Of
theorem w_set_Of (N : Nat) (a0 : List Int) (r : (List Int)) (h : set_Of N a0 = some r) : Nx.Call Try.prog 39 [.c (.slv (a0.map eI))] [] fun r' _ => r' = .c (.slv (r.map eI)) := by
  refine Nx.Call.of_body Try.func39 rfl en39 Try.ntmps39 rfl (fun Γ hok => ?_)
  unfold set_Of at h
  refine Wp.seq ?_
  refine Wp.text [0] rfl rfl ?_ -- region 0
  refine TextR.assign rfl ?_
  refine TextR.done (.cons rfl .nil) ?_
  refine Wp.seq ?_
  obtain ⟨y1, hy1, h⟩ := bind_some h
  refine Wp.text [3] rfl rfl ?_ -- region 1
  refine TextR.move rfl ?_
  refine TextR.call rfl rfl (by exact o_slices_Clone_int N a0 y1 hy1 0 rfl .nil) (fun x H' hk => ?_)
  obtain ⟨rfl, rfl⟩ := hk
  refine TextR.assign rfl ?_
  refine TextR.done (.cons rfl .nil) ?_
  refine Wp.seq ?_
  obtain ⟨x2, hx2, h⟩ := bind_some h
  refine Wp.text [3] rfl rfl ?_ -- region 2
  refine TextR.move rfl ?_
  refine TextR.call rfl rfl (by exact call_sort lays189 rfl en48 hx2 rfl .zero) (fun x H' hk => ?_)
  obtain ⟨rfl, rfl⟩ := hk
  refine TextR.done (.cons rfl .nil) ?_
  refine Wp.weak (eqW (S' := ⟨[(3, .c (.sl 0 1 0 x2.length))], [.live 1 1 (x2.map eI)]⟩) (by have e0 := (length_sort hx2).symm; first | rfl | (simp only [List.length_set]; done) | (simp only [List.length_set]; rfl) | (simp only [List.length_set, e0]; done) | (simp only [List.length_set, e0]; rfl))) ?_
  refine Wp.seq ?_
  obtain ⟨x3, hx3, h⟩ := bind_some h
  refine Wp.text [2] rfl rfl ?_ -- region 3
  refine TextR.move rfl ?_
  refine TextR.call rfl rfl (by exact call_ded lays220 rfl en49 hx3 rfl .zero) (fun x H' hk => ?_)
  obtain ⟨rfl, rfl⟩ := hk
  refine TextR.assign rfl ?_
  refine TextR.done (.cons rfl .nil) ?_
  refine Wp.weak (keepW (live := [2] ) (.cons rfl .nil)) ?_
  refine Wp.weak (freezeW (h := 0) (ver := 2) (rows := x3.map eI) (e' := [(2, .c (.slv (x3.map eI)))]) (H' := [.dead]) rfl (by first | rfl | simp [-List.map_set]) (by first | rfl | simp [-List.map_set])) ?_
  refine Wp.ret ?_
  obtain rfl := Option.some.inj h
  exact Ret.one rfl (resV_tmp rfl) rfl
theorem c_set_Of (N : Nat) (a0 : List Int) (r : (List Int)) (h : set_Of N a0 = some r) (H : List Ob) : DCall Try.prog 39 [.c (.slv (a0.map eI))] H (.c (.slv (r.map eI))) := DCall.lift (by first | rfl | simp [-List.map_set]) (by first | rfl | simp [-List.map_set]) (fun _ => by simp [-List.map_set]) (w_set_Of N a0 r h) H
-- narthex/graph.Near
theorem w_graph_Near (N : Nat) (a0 : TGraph) (a1 : Int) (r : (List Int)) (h : graph_Near N a0 a1 = some r) : Nx.Call Try.prog 19 [.agg (eGraph a0), .c (I a1)] [] fun r' _ => r' = .c (.slv (r.map eI)) := by
  refine Nx.Call.of_body Try.func19 rfl en19 Try.ntmps19 rfl (fun Γ hok => ?_)
  unfold graph_Near at h
  refine Wp.seq ?_
  refine Wp.text [1, 2] rfl rfl ?_ -- region 0
  refine TextR.box (cs := [I a0.N, .slv (a0.Edges.map eEdge)]) 0 rfl rfl rfl rfl .nil ?_
  refine TextR.assign rfl ?_
  refine TextR.done (.cons rfl (.cons rfl .nil)) ?_
  refine Wp.seq ?_
  refine Wp.seq ?_
  obtain ⟨y1, hy1, h⟩ := bind_some h
  refine Wp.text [1, 2, 10] rfl rfl ?_ -- region 1
  refine TextR.loadN (cs := [I a0.N, .slv (a0.Edges.map eEdge)]) tk24 rfl rfl ?_
  refine TextR.dcall rfl rfl (c_graph_Check N a0 y1 hy1 _) ?_
  refine TextR.int rfl rfl rfl ?_
  refine TextR.done (.cons rfl (.cons rfl (.cons rfl .nil))) ?_
  refine Wp.condM h rfl (fun hc1 h => ?_) (fun hc1 h => ?_)
  · refine Wp.seq ?_
    refine Wp.text [4] rfl rfl ?_ -- region 2
    refine TextR.assign rfl ?_
    refine TextR.done (.cons rfl .nil) ?_
    refine Wp.weak (keepW (live := [4] ) (.cons rfl .nil)) ?_
    refine Wp.weak (nzT (e' := [(4, .c (.slv ([].map eI)))]) (H' := [.live 0 2 [[I a0.N, .slv (a0.Edges.map eEdge)]]]) (by first | rfl | simp [-List.map_set]) (by first | rfl | simp [-List.map_set])) ?_
    refine Wp.ret ?_
    obtain rfl := Option.some.inj h
    exact Ret.one rfl (resV_tmp rfl) rfl
  · refine Wp.skip ?_
    refine Wp.seq ?_
    refine Wp.text [1, 2, 5] rfl rfl ?_ -- region 3
    refine TextR.assign rfl ?_
    refine TextR.done (.cons rfl (.cons rfl (.cons rfl .nil))) ?_
    refine Wp.seq ?_
    refine Wp.seq ?_
    refine Wp.text [1, 5, 12, 13, 14] rfl rfl ?_ -- region 4
    refine TextR.fieldAddr fo24_1 rfl rfl rfl ?_
    refine TextR.load1 tk22 rfl rfl ?_
    refine TextR.lenM us22 rfl rfl ?_
    refine TextR.move rfl ?_
    refine TextR.done (.cons rfl (.cons rfl (.cons rfl (.cons rfl (.cons rfl .nil))))) ?_
    obtain ⟨z2, hz2, h⟩ := bind_some h
    refine Wp.fragN (fun S => ∃ wz2_0, ∃ S', St.Weak ⟨Try.prog, 40, Γ⟩ S S' ∧ S' = ⟨[(5, .c (.sl 0 wz2_0 0 z2.length))], [.live wz2_0 1 (z2.map eI)]⟩) ?_ ?_
    · replace h := hz2
      refine Wp.block ?_
      refine Wp.weak (St.Weak.trans (keepW (live := [1, 5, 12, 13, 14]) (.cons rfl (.cons rfl (.cons rfl (.cons rfl (.cons rfl .nil)))))) (St.Weak.trans (pickT (e' := [(1, .c (I a1)), (5, .c (nilS)), (12, .c (.slv (a0.Edges.map eEdge))), (13, .c (I (a0.Edges.length : Int))), (14, .c (I 0))]) (H' := []) [] [0] 0 hok.len.symm rfl rfl (by decide) (by first | rfl | simp [-List.map_set]) (by first | rfl | simp [-List.map_set]) (by first | rfl | simp [-List.map_set]) (by first | rfl | simp [-List.map_set])) (St.Weak.trans (nilW (e := [(1, .c (I a1)), (5, .c (nilS)), (12, .c (.slv (a0.Edges.map eEdge))), (13, .c (I (a0.Edges.length : Int))), (14, .c (I 0))]) (H := []) (t := 5) 0 1 0 rfl rfl .nil) (keepW (live := [1, 5, 12, 13, 14]) (.cons rfl (.cons rfl (.cons rfl (.cons rfl (.cons rfl .nil))))))))) ?_
      refine Wp.loop (fun m S => ∃ l0_1, ∃ s14_1, ∃ wh0_1, graph_Near_L1 N a0 a1 m l0_1 s14_1 = some z2 ∧ S = ⟨[(1, .c (I a1)), (5, .c (.sl 0 wh0_1 0 l0_1.length)), (12, .c (.slv (a0.Edges.map eEdge))), (13, .c (I (a0.Edges.length : Int))), (14, .c (I s14_1))], [.live wh0_1 1 (l0_1.map eI)]⟩) N ⟨_, _, _, h, rfl⟩ ?_
      rintro m1 _ ⟨l0_1, s14_1, wh0_1, h, rfl⟩
      cases m1 with
      | zero => rw [graph_Near_L1.eq_1] at h; cases h
      | succ m1 =>
      rw [graph_Near_L1.eq_2] at h
      refine Wp.seq ?_
      refine Wp.text [1, 5, 12, 13, 14, 15] rfl rfl ?_ -- region 5
      refine TextR.int rfl rfl rfl ?_
      refine TextR.done (.cons rfl (.cons rfl (.cons rfl (.cons rfl (.cons rfl (.cons rfl .nil)))))) ?_
      refine Wp.seq ?_
      refine Wp.condM h rfl (fun hc3 h => ?_) (fun hc3 h => ?_)
      · refine Wp.skip ?_
        refine Wp.seq ?_
        refine Wp.block ?_
        refine Wp.seq ?_
        obtain ⟨x3, hx3, h⟩ := bind_some h
        refine Wp.text [1, 5, 7, 12, 13, 14] rfl rfl ?_ -- region 6
        refine TextR.indexA se22 rfl rfl rfl hx3 rfl ?_
        refine TextR.loadNM tk37 rfl (at_get hx3) rfl ?_
        refine TextR.alloc 1 zc37 rfl rfl (.cons .nil) ?_
        refine TextR.store1 tk37 rfl rfl rfl rfl rfl rfl (.succ .zero) ?_
        refine TextR.done (.cons rfl (.cons rfl (.cons rfl (.cons rfl (.cons rfl (.cons rfl .nil)))))) ?_
        refine Wp.seq ?_
        refine Wp.text [1, 5, 7, 12, 13, 14, 18] rfl rfl ?_ -- region 7
        refine TextR.move rfl ?_
        refine TextR.done (.cons rfl (.cons rfl (.cons rfl (.cons rfl (.cons rfl (.cons rfl (.cons rfl .nil))))))) ?_
        refine Wp.block ?_
        refine Wp.seq ?_
        refine Wp.text [1, 5, 7, 12, 13, 14, 18, 19] rfl rfl ?_ -- region 8
        refine TextR.fieldAddr fo37_0 rfl rfl rfl ?_
        refine TextR.load1 tk3 rfl rfl ?_
        refine TextR.int rfl rfl rfl ?_
        refine TextR.assign rfl ?_
        refine TextR.done (.cons rfl (.cons rfl (.cons rfl (.cons rfl (.cons rfl (.cons rfl (.cons rfl (.cons rfl .nil)))))))) ?_
        refine Wp.condM h rfl (fun hc4 h => ?_) (fun hc4 h => ?_)
        · obtain ⟨x4, hx4, h⟩ := bind_some h
          refine Wp.text [1, 5, 12, 13, 14] rfl rfl ?_ -- region 9
          refine TextR.move rfl ?_
          refine TextR.fieldAddr fo37_1 rfl rfl rfl ?_
          refine TextR.load1 tk3 rfl rfl ?_
          refine TextR.buildSlice (rows := [x3.B].map eI) 2 se34 rfl rfl rfl (.cons (.cons .nil)) ?_
          refine TextR.appendM eI l0_1 [x3.B] x4 (app_eq hx4) se34 rfl (obj_of rfl) rfl (view_whole (f := eI) (xs := [x3.B]) rfl) (fun _ => rfl) rfl (app_len hx4) .zero ?_
          refine TextR.assign rfl ?_
          refine TextR.done (.cons rfl (.cons rfl (.cons rfl (.cons rfl (.cons rfl .nil))))) ?_
          refine Wp.text [1, 5, 12, 13, 14] rfl rfl ?_ -- region 12
          refine TextR.int rfl rfl rfl ?_
          refine TextR.move rfl ?_
          refine TextR.done (.cons rfl (.cons rfl (.cons rfl (.cons rfl (.cons rfl .nil))))) ?_
          exact ⟨m1, Nat.lt_succ_self _, _, (St.Weak.trans (keepW (live := [1, 5, 12, 13, 14]) (.cons rfl (.cons rfl (.cons rfl (.cons rfl (.cons rfl .nil)))))) (pickT (e' := [(1, .c (I a1)), (5, .c (.sl 0 (wh0_1 + 1) 0 x4.length)), (12, .c (.slv (a0.Edges.map eEdge))), (13, .c (I (a0.Edges.length : Int))), (14, .c (I (w64 (s14_1 + 1))))]) (H' := [.live (wh0_1 + 1) 1 (x4.map eI)]) [0] [0, 0, 0] 0 hok.len.symm rfl rfl (by decide) (by first | rfl | simp [-List.map_set]) (by first | rfl | simp [-List.map_set]) (by first | rfl | simp [-List.map_set]) (by first | rfl | simp [-List.map_set]))), _, _, _, h, rfl⟩
        · refine Wp.seq ?_
          refine Wp.text [1, 5, 7, 12, 13, 14, 28] rfl rfl ?_ -- region 10
          refine TextR.fieldAddr fo37_1 rfl rfl rfl ?_
          refine TextR.load1 tk3 rfl rfl ?_
          refine TextR.int rfl rfl rfl ?_
          refine TextR.assign rfl ?_
          refine TextR.done (.cons rfl (.cons rfl (.cons rfl (.cons rfl (.cons rfl (.cons rfl (.cons rfl .nil))))))) ?_
          refine Wp.condM h rfl (fun hc5 h => ?_) (fun hc5 h => ?_)
          · obtain ⟨x5, hx5, h⟩ := bind_some h
            refine Wp.text [1, 5, 12, 13, 14] rfl rfl ?_ -- region 11
            refine TextR.move rfl ?_
            refine TextR.fieldAddr fo37_0 rfl rfl rfl ?_
            refine TextR.load1 tk3 rfl rfl ?_
            refine TextR.buildSlice (rows := [x3.A].map eI) 2 se34 rfl rfl rfl (.cons (.cons .nil)) ?_
            refine TextR.appendM eI l0_1 [x3.A] x5 (app_eq hx5) se34 rfl (obj_of rfl) rfl (view_whole (f := eI) (xs := [x3.A]) rfl) (fun _ => rfl) rfl (app_len hx5) .zero ?_
            refine TextR.assign rfl ?_
            refine TextR.done (.cons rfl (.cons rfl (.cons rfl (.cons rfl (.cons rfl .nil))))) ?_
            refine Wp.text [1, 5, 12, 13, 14] rfl rfl ?_ -- region 12
            refine TextR.int rfl rfl rfl ?_
            refine TextR.move rfl ?_
            refine TextR.done (.cons rfl (.cons rfl (.cons rfl (.cons rfl (.cons rfl .nil))))) ?_
            exact ⟨m1, Nat.lt_succ_self _, _, (St.Weak.trans (keepW (live := [1, 5, 12, 13, 14]) (.cons rfl (.cons rfl (.cons rfl (.cons rfl (.cons rfl .nil)))))) (pickT (e' := [(1, .c (I a1)), (5, .c (.sl 0 (wh0_1 + 1) 0 x5.length)), (12, .c (.slv (a0.Edges.map eEdge))), (13, .c (I (a0.Edges.length : Int))), (14, .c (I (w64 (s14_1 + 1))))]) (H' := [.live (wh0_1 + 1) 1 (x5.map eI)]) [0] [0, 0, 0] 0 hok.len.symm rfl rfl (by decide) (by first | rfl | simp [-List.map_set]) (by first | rfl | simp [-List.map_set]) (by first | rfl | simp [-List.map_set]) (by first | rfl | simp [-List.map_set]))), _, _, _, h, rfl⟩
          · refine Wp.skip ?_
            refine Wp.text [1, 5, 12, 13, 14] rfl rfl ?_ -- region 12
            refine TextR.int rfl rfl rfl ?_
            refine TextR.move rfl ?_
            refine TextR.done (.cons rfl (.cons rfl (.cons rfl (.cons rfl (.cons rfl .nil))))) ?_
            exact ⟨m1, Nat.lt_succ_self _, _, (St.Weak.trans (keepW (live := [1, 5, 12, 13, 14]) (.cons rfl (.cons rfl (.cons rfl (.cons rfl (.cons rfl .nil)))))) (pickT (e' := [(1, .c (I a1)), (5, .c (.sl 0 wh0_1 0 l0_1.length)), (12, .c (.slv (a0.Edges.map eEdge))), (13, .c (I (a0.Edges.length : Int))), (14, .c (I (w64 (s14_1 + 1))))]) (H' := [.live wh0_1 1 (l0_1.map eI)]) [0] [0, 0] 0 hok.len.symm rfl rfl (by decide) (by first | rfl | simp [-List.map_set]) (by first | rfl | simp [-List.map_set]) (by first | rfl | simp [-List.map_set]) (by first | rfl | simp [-List.map_set]))), _, _, _, h, rfl⟩
      · refine Wp.exit ?_
        obtain rfl := Option.some.inj h
        exact ⟨_, _, (keepW (live := [5]) (.cons rfl .nil)), rfl⟩
    rintro _ ⟨wz2_0, S', hw, rfl⟩
    clear hz2
    refine Wp.weak hw ?_
    refine Wp.seq ?_
    refine Wp.weak (freezeW (h := 0) (ver := wz2_0) (rows := z2.map eI) (e' := [(5, .c (.slv (z2.map eI)))]) (H' := [.dead]) (obj_of rfl) (by first | rfl | simp [-List.map_set]) (by first | rfl | simp [-List.map_set])) ?_
    obtain ⟨y6, hy6, h⟩ := bind_some h
    refine Wp.text [4] rfl rfl ?_ -- region 13
    refine TextR.move rfl ?_
    refine TextR.dcall rfl rfl (c_set_Of N z2 y6 hy6 _) ?_
    refine TextR.assign rfl ?_
    refine TextR.done (.cons rfl .nil) ?_
    refine Wp.ret ?_
    obtain rfl := Option.some.inj h
    exact Ret.one rfl (resV_tmp rfl) rfl
theorem c_graph_Near (N : Nat) (a0 : TGraph) (a1 : Int) (r : (List Int)) (h : graph_Near N a0 a1 = some r) (H : List Ob) : DCall Try.prog 19 [.agg (eGraph a0), .c (I a1)] H (.c (.slv (r.map eI))) := DCall.lift (by first | rfl | simp [-List.map_set]) (by first | rfl | simp [-List.map_set]) (fun _ => by simp [-List.map_set]) (w_graph_Near N a0 a1 r h) H
-- narthex/narthexref01.Same
theorem w_narthexref01_Same (N : Nat) (a0 : List Int) (a1 : List Int) (r : Bool) (h : narthexref01_Same N a0 a1 = some r) : Nx.Call Try.prog 22 [.c (.slv (a0.map eI)), .c (.slv (a1.map eI))] [] fun r' _ => r' = .c (B r) := by
  refine Nx.Call.of_body Try.func22 rfl en22 Try.ntmps22 rfl (fun Γ hok => ?_)
  unfold narthexref01_Same at h
  refine Wp.seq ?_
  refine Wp.text [0, 1] rfl rfl ?_ -- region 0
  refine TextR.assign rfl ?_
  refine TextR.done (.cons rfl (.cons rfl .nil)) ?_
  refine Wp.seq ?_
  refine Wp.seq ?_
  refine Wp.text [0, 1, 10] rfl rfl ?_ -- region 1
  refine TextR.move rfl ?_
  refine TextR.lenM us34 rfl rfl ?_
  refine TextR.move rfl ?_
  refine TextR.lenM us34 rfl rfl ?_
  refine TextR.int rfl rfl rfl ?_
  refine TextR.done (.cons rfl (.cons rfl (.cons rfl .nil))) ?_
  refine Wp.condM h rfl (fun hc1 h => ?_) (fun hc1 h => ?_)
  · refine Wp.seq ?_
    refine Wp.text [4] rfl rfl ?_ -- region 2
    refine TextR.assign rfl ?_
    refine TextR.done (.cons rfl .nil) ?_
    refine Wp.ret ?_
    obtain rfl := Option.some.inj h
    exact Ret.one rfl (resV_tmp rfl) rfl
  · refine Wp.skip ?_
    refine Wp.seq ?_
    refine Wp.seq ?_
    refine Wp.text [0, 1, 5] rfl rfl ?_ -- region 3
    refine TextR.assign rfl ?_
    refine TextR.done (.cons rfl (.cons rfl (.cons rfl .nil))) ?_
    obtain ⟨z1, hz1, h⟩ := bind_some h
    refine Wp.fragR (fun S => ∃ z3, z1 = .inr z3 ∧ ∃ S', St.Weak ⟨Try.prog, 26, Γ⟩ S S' ∧ S' = ⟨[], []⟩) (fun S => ∃ v, z1 = .inl v ∧ Ret Try.prog Try.f22 (fun r' _ => r' = .c (B v)) .ret S) ?_ ?_ ?_
    · replace h := hz1
      refine Wp.block ?_
      refine Wp.weak (keepW (live := [0, 1, 5]) (.cons rfl (.cons rfl (.cons rfl .nil)))) ?_
      refine Wp.loop (fun m S => ∃ s5_1, narthexref01_Same_L1 N a0 a1 m s5_1 = some z1 ∧ S = ⟨[(0, .c (.slv (a0.map eI))), (1, .c (.slv (a1.map eI))), (5, .c (I s5_1))], []⟩) N ⟨_, h, rfl⟩ ?_
      rintro m1 _ ⟨s5_1, h, rfl⟩
      cases m1 with
      | zero => rw [narthexref01_Same_L1.eq_1] at h; cases h
      | succ m1 =>
      rw [narthexref01_Same_L1.eq_2] at h
      refine Wp.seq ?_
      refine Wp.seq ?_
      refine Wp.text [0, 1, 5, 14] rfl rfl ?_ -- region 4
      refine TextR.move rfl ?_
      refine TextR.move rfl ?_
      refine TextR.lenM us34 rfl rfl ?_
      refine TextR.int rfl rfl rfl ?_
      refine TextR.done (.cons rfl (.cons rfl (.cons rfl (.cons rfl .nil)))) ?_
      refine Wp.condM h rfl (fun hc3 h => ?_) (fun hc3 h => ?_)
      · refine Wp.skip ?_
        refine Wp.seq ?_
        refine Wp.block ?_
        refine Wp.seq ?_
        obtain ⟨x4, hx4, h⟩ := bind_some h
        obtain ⟨x5, hx5, h⟩ := bind_some h
        refine Wp.go true (some ⟨[], []⟩) [] [] [0, 1, 5, 25] mixed rfl rfl (by kernel_rfl) ?_ -- region 6
        refine RunR.move rfl rfl rfl ?_
        refine RunR.move rfl rfl rfl ?_
        refine RunR.indexA se34 rfl rfl rfl rfl rfl hx4 rfl ?_
        refine RunR.load1M tk3 rfl rfl rfl (at_get hx4) rfl ?_
        refine RunR.move rfl rfl rfl ?_
        refine RunR.move rfl rfl rfl ?_
        refine RunR.indexA se34 rfl rfl rfl rfl rfl hx5 rfl ?_
        refine RunR.load1M tk3 rfl rfl rfl (at_get hx5) rfl ?_
        refine RunR.int rfl rfl rfl rfl rfl ?_
        refine RunR.doneQ (.cons rfl (.cons rfl (.cons rfl (.cons rfl .nil)))) ?_
        refine Wp.condM h rfl (fun hc4 h => ?_) (fun hc4 h => ?_)
        · refine Wp.seq ?_
          refine Wp.text [4] rfl rfl ?_ -- region 7
          refine TextR.assign rfl ?_
          refine TextR.done (.cons rfl .nil) ?_
          refine Wp.ret ?_
          exact ⟨_, (Option.some.inj h).symm, Ret.one rfl (resV_tmp rfl) rfl⟩
        · refine Wp.skip ?_
          refine Wp.text [0, 1, 5] rfl rfl ?_ -- region 5
          refine TextR.move rfl ?_
          refine TextR.int rfl rfl rfl ?_
          refine TextR.assign rfl ?_
          refine TextR.done (.cons rfl (.cons rfl (.cons rfl .nil))) ?_
          exact ⟨m1, Nat.lt_succ_self _, _, (keepW (live := [0, 1, 5]) (.cons rfl (.cons rfl (.cons rfl .nil)))), _, h, rfl⟩
      · refine Wp.exit ?_
        exact ⟨_, (Option.some.inj h).symm, _, (keepW (live := []) .nil), rfl⟩
    · rintro _ ⟨z3, rfl, _, hw, rfl⟩
      dsimp only at h
      clear hz1
      refine Wp.weak hw ?_
      refine Wp.seq ?_
      refine Wp.text [4] rfl rfl ?_ -- region 8
      refine TextR.assign rfl ?_
      refine TextR.done (.cons rfl .nil) ?_
      refine Wp.ret ?_
      obtain rfl := Option.some.inj h
      exact Ret.one rfl (resV_tmp rfl) rfl
    · rintro S' ⟨r2, rfl, hR⟩
      dsimp only at h
      obtain rfl := Option.some.inj h
      exact hR
theorem mT55 : mapTy Try.prog 55 := mapTy_of (by kernel_rfl)
theorem w_graph_Parts (N : Nat) (a0 : TGraph) (r : (List Int)) (h : graph_Parts N a0 = some r) : Nx.Call Try.prog 17 [.agg (eGraph a0)] [] fun r' _ => r' = .c (.slv (r.map eI)) := by
  refine Nx.Call.of_body Try.func17 rfl en17 Try.ntmps17 rfl (fun Γ hok => ?_)
  unfold graph_Parts at h
  refine Wp.seq ?_
  refine Wp.text [1] rfl rfl ?_ -- region 0
  refine TextR.box (cs := [I a0.N, .slv (a0.Edges.map eEdge)]) 0 rfl rfl rfl rfl .nil ?_
  refine TextR.assign rfl ?_
  refine TextR.done (.cons rfl .nil) ?_
  refine Wp.seq ?_
  refine Wp.seq ?_
  obtain ⟨y1, hy1, h⟩ := bind_some h
  refine Wp.text [1, 10] rfl rfl ?_ -- region 1
  refine TextR.loadN (cs := [I a0.N, .slv (a0.Edges.map eEdge)]) tk24 rfl rfl ?_
  refine TextR.dcall rfl rfl (c_graph_Check N a0 y1 hy1 _) ?_
  refine TextR.int rfl rfl rfl ?_
  refine TextR.done (.cons rfl (.cons rfl .nil)) ?_
  refine Wp.condM h rfl (fun hc1 h => ?_) (fun hc1 h => ?_)
  · refine Wp.seq ?_
    refine Wp.text [2] rfl rfl ?_ -- region 2
    refine TextR.assign rfl ?_
    refine TextR.done (.cons rfl .nil) ?_
    refine Wp.weak (keepW (live := [2] ) (.cons rfl .nil)) ?_
    refine Wp.weak (nzT (e' := [(2, .c (.slv ([].map eI)))]) (H' := [.live 0 2 [[I a0.N, .slv (a0.Edges.map eEdge)]]]) (by first | rfl | simp [-List.map_set]) (by first | rfl | simp [-List.map_set])) ?_
    refine Wp.ret ?_
    obtain rfl := Option.some.inj h
    exact Ret.one rfl (resV_tmp rfl) rfl
  · refine Wp.skip ?_
    refine Wp.seq ?_
    obtain ⟨x2, hx2, h⟩ := bind_some h
    refine Wp.text [1, 3] rfl rfl ?_ -- region 3
    refine TextR.fieldAddr fo24_0 rfl rfl rfl ?_
    refine TextR.load1 tk3 rfl rfl ?_
    refine TextR.makeM (f := eI) 1 se34 rfl rfl rfl rfl hx2 rfl (.cons .nil) ?_
    refine TextR.assign rfl ?_
    refine TextR.done (.cons rfl (.cons rfl .nil)) ?_
    refine Wp.makeMap [4, 1, 3] rfl hok rfl rfl (fun b => .cons rfl (.cons rfl (.cons rfl .nil))) (fun b => ?_) -- region 4
    refine WpM.seq ?_
    refine WpM.seq ?_
    refine WpM.lift (fun Γ hok => ?_)
    refine Wp.text [1, 3, 4, 16, 17] rfl rfl ?_ -- region 5
    refine TextR.fieldAddr fo24_0 rfl rfl rfl ?_
    refine TextR.load1 tk3 rfl rfl ?_
    refine TextR.move rfl ?_
    refine TextR.done (.cons rfl (.cons rfl (.cons rfl (.cons rfl (.cons rfl .nil))))) ?_
    obtain ⟨z3, hz3, h⟩ := bind_some h
    refine WpM.frag (fun S => ∃ ks, S = ⟨[(3, .c (.sl 0 0 0 z3.length))], [.live 0 1 (z3.map eI)], ks⟩) ?_ ?_
    · replace h := hz3
      refine WpM.block ?_
      refine WpM.loop (fun m S => ∃ l1_1, ∃ ks, ∃ s17_1, graph_Parts_L1 N a0 m l1_1 ks s17_1 = some z3 ∧ S = ⟨[(1, .c (.ptr 0 0 0 0)), (3, .c (.sl 1 0 0 l1_1.length)), (4, .c (.v (.map (some b)))), (16, .c (I a0.N)), (17, .c (I s17_1))], [.live 0 2 [[I a0.N, .slv (a0.Edges.map eEdge)]], .live 0 1 (l1_1.map eI)], ks⟩) N ⟨_, _, _, h, rfl⟩ ?_
      rintro m1 _ ⟨l1_1, ks, s17_1, h, rfl⟩
      cases m1 with
      | zero => rw [graph_Parts_L1.eq_1] at h; cases h
      | succ m1 =>
      rw [graph_Parts_L1.eq_2] at h
      refine WpM.seq ?_
      refine WpM.lift (fun Γ hok => ?_)
      refine Wp.text [1, 3, 4, 16, 17, 18] rfl rfl ?_ -- region 6
      refine TextR.int rfl rfl rfl ?_
      refine TextR.done (.cons rfl (.cons rfl (.cons rfl (.cons rfl (.cons rfl (.cons rfl .nil)))))) ?_
      refine WpM.seq ?_
      refine WpM.condM h rfl (fun hc3 h => ?_) (fun hc3 h => ?_)
      · refine WpM.skip ?_
        refine WpM.seq ?_
        refine WpM.block ?_
        refine WpM.seq ?_
        refine WpM.lift (fun Γ hok => ?_)
        refine Wp.text [1, 3, 4, 5, 16, 17] rfl rfl ?_ -- region 7
        refine TextR.move rfl ?_
        refine TextR.assign rfl ?_
        refine TextR.done (.cons rfl (.cons rfl (.cons rfl (.cons rfl (.cons rfl (.cons rfl .nil)))))) ?_
        refine WpM.seq ?_
        refine WpM.lift (fun Γ hok => ?_)
        refine Wp.text [1, 3, 4, 5, 6, 16, 17] rfl rfl ?_ -- region 8
        refine TextR.move rfl ?_
        refine TextR.buildSlice (rows := [s17_1].map eI) 2 se34 rfl rfl rfl (.cons (.cons .nil)) ?_
        refine TextR.assign rfl ?_
        refine TextR.done (.cons rfl (.cons rfl (.cons rfl (.cons rfl (.cons rfl (.cons rfl (.cons rfl .nil))))))) ?_
        obtain ⟨z4, hz4, h⟩ := bind_some h
        refine WpM.frag (fun S => S = ⟨[(1, .c (.ptr 0 0 0 0)), (3, .c (.sl 1 0 0 z4.1.length)), (4, .c (.v (.map (some b)))), (16, .c (I a0.N)), (17, .c (I s17_1))], [.live 0 2 [[I a0.N, .slv (a0.Edges.map eEdge)]], .live 0 1 (z4.1.map eI)], z4.2⟩) ?_ ?_
        · replace h := hz4
          refine WpM.block ?_
          refine WpM.loop (fun m S => ∃ l1_2, ∃ ks, ∃ l3_2, ∃ wh3_2, graph_Parts_L2 N a0 s17_1 m l1_2 ks l3_2 = some z4 ∧ S = ⟨[(1, .c (.ptr 0 0 0 0)), (3, .c (.sl 1 0 0 l1_2.length)), (4, .c (.v (.map (some b)))), (5, .c (I s17_1)), (6, .c (.sl 2 wh3_2 0 l3_2.length)), (16, .c (I a0.N)), (17, .c (I s17_1))], [.live 0 2 [[I a0.N, .slv (a0.Edges.map eEdge)]], .live 0 1 (l1_2.map eI), .live wh3_2 1 (l3_2.map eI)], ks⟩) N ⟨_, _, _, _, h, rfl⟩ ?_
          clear hz4
          rintro m2 _ ⟨l1_2, ks, l3_2, wh3_2, h, rfl⟩
          cases m2 with
          | zero => rw [graph_Parts_L2.eq_1] at h; cases h
          | succ m2 =>
          rw [graph_Parts_L2.eq_2] at h
          refine WpM.seq ?_
          refine WpM.seq ?_
          refine WpM.lift (fun Γ hok => ?_)
          refine Wp.text [1, 3, 4, 5, 6, 16, 17, 24] rfl rfl ?_ -- region 9
          refine TextR.move rfl ?_
          refine TextR.len us34 rfl rfl ?_
          refine TextR.int rfl rfl rfl ?_
          refine TextR.done (.cons rfl (.cons rfl (.cons rfl (.cons rfl (.cons rfl (.cons rfl (.cons rfl (.cons rfl .nil)))))))) ?_
          refine WpM.condM h rfl (fun hc5 h => ?_) (fun hc5 h => ?_)
          · have hpos : 0 < l3_2.length := by simpa using hc5
            refine WpM.skip ?_
            refine WpM.block ?_
            refine WpM.seq ?_
            obtain ⟨x5, hx5, h⟩ := bind_some h
            refine WpM.lift (fun Γ hok => ?_)
            refine Wp.text [1, 3, 4, 5, 6, 7, 16, 17] rfl rfl ?_ -- region 10
            refine TextR.move rfl ?_
            refine TextR.indexOA se34 rfl rfl (obj_of rfl) hx5 ?_
            refine TextR.load1O tk3 rfl (obj_of rfl) (at_get hx5) rfl ?_
            refine TextR.assign rfl ?_
            refine TextR.done (.cons rfl (.cons rfl (.cons rfl (.cons rfl (.cons rfl (.cons rfl (.cons rfl (.cons rfl .nil)))))))) ?_
            refine WpM.seq ?_
            refine WpM.lift (fun Γ hok => ?_)
            refine Wp.text [1, 3, 4, 5, 6, 7, 16, 17] rfl rfl ?_ -- region 11
            refine TextR.move rfl ?_
            refine TextR.sliceFrom se34 rfl (obj_of rfl) rfl ⟨by omega, by omega⟩ ?_
            refine TextR.assign rfl ?_
            refine TextR.done (.cons rfl (.cons rfl (.cons rfl (.cons rfl (.cons rfl (.cons rfl (.cons rfl (.cons rfl .nil)))))))) ?_
            refine WpM.weak (fun Γ hok => narrowE (t := 6) (rows' := (l3_2.drop 1).map eI) rfl (obj_of rfl) (by simp; omega) (by simp) (.succ (.succ .zero))) ?_
            refine WpM.weak (fun Γ hok => keepW (live := [1, 3, 4, 5, 6, 7, 16, 17]) (.cons rfl (.cons rfl (.cons rfl (.cons rfl (.cons rfl (.cons rfl (.cons rfl (.cons rfl .nil))))))))) ?_
            refine WpM.weak (fun Γ hok => eqW (S' := ⟨[(1, .c (.ptr 0 0 0 0)), (3, .c (.sl 1 0 0 l1_2.length)), (4, .c (.v (.map (some b)))), (5, .c (I s17_1)), (6, .c (.sl 2 (wh3_2 + 1) 0 (l3_2.drop 1).length)), (7, .c (I x5)), (16, .c (I a0.N)), (17, .c (I s17_1))], [.live 0 2 [[I a0.N, .slv (a0.Edges.map eEdge)]], .live 0 1 (l1_2.map eI), .live (wh3_2 + 1) 1 ((l3_2.drop 1).map eI)]⟩) (by
              have e : (l3_2.drop 1).length = l3_2.length - Int.toNat 1 := by simp
              rw [e])) ?_
            refine WpM.seq ?_
            refine WpM.seq ?_
            refine WpM.text [1, 3, 4, 5, 6, 7, 16, 17, 32] rfl rfl ?_ -- region 12
            refine TextM.move rfl ?_
            refine TextM.move rfl ?_
            refine TextM.lookup mT55 rfl rfl ?_
            refine TextM.done (.cons rfl (.cons rfl (.cons rfl (.cons rfl (.cons rfl (.cons rfl (.cons rfl (.cons rfl (.cons rfl .nil))))))))) ?_
            refine WpM.condM h rfl (fun hc6 h => ?_) (fun hc6 h => ?_)
            · refine WpM.exit ?_
              exact ⟨m2, Nat.lt_succ_self _, _, WeakM.of (fun Γ hok => keepW (live := [1, 3, 4, 5, 6, 16, 17]) (.cons rfl (.cons rfl (.cons rfl (.cons rfl (.cons rfl (.cons rfl (.cons rfl .nil)))))))), _, _, _, _, h, rfl⟩
            · refine WpM.skip ?_
              refine WpM.seq ?_
              refine WpM.text [1, 3, 4, 5, 6, 7, 16, 17] rfl rfl ?_ -- region 13
              refine TextM.move rfl ?_
              refine TextM.move rfl ?_
              refine TextM.update mT55 rfl rfl hc6 ?_
              refine TextM.done (.cons rfl (.cons rfl (.cons rfl (.cons rfl (.cons rfl (.cons rfl (.cons rfl (.cons rfl .nil)))))))) ?_
              refine WpM.seq ?_
              obtain ⟨x8, hx8, h⟩ := bind_some h
              refine WpM.lift (fun Γ hok => ?_)
              refine Wp.text [1, 3, 4, 5, 6, 7, 16, 17] rfl rfl ?_ -- region 14
              refine TextR.move rfl ?_
              refine TextR.move rfl ?_
              refine TextR.move rfl ?_
              refine TextR.indexOA se34 rfl rfl rfl hx8 ?_
              refine TextR.storeO s17_1 tk3 rfl rfl rfl rfl rfl (at_get hx8) rfl rfl (.succ .zero) ?_
              refine TextR.done (.cons rfl (.cons rfl (.cons rfl (.cons rfl (.cons rfl (.cons rfl (.cons rfl (.cons rfl .nil)))))))) ?_
              refine WpM.weak (fun Γ hok => eqW (S' := ⟨[(1, .c (.ptr 0 0 0 0)), (3, .c (.sl 1 0 0 (l1_2.set x5.toNat s17_1).length)), (4, .c (.v (.map (some b)))), (5, .c (I s17_1)), (6, .c (.sl 2 (wh3_2 + 1) 0 (l3_2.drop 1).length)), (7, .c (I x5)), (16, .c (I a0.N)), (17, .c (I s17_1))], [.live 0 2 [[I a0.N, .slv (a0.Edges.map eEdge)]], .live 0 1 ((l1_2.set x5.toNat s17_1).map eI), .live (wh3_2 + 1) 1 ((l3_2.drop 1).map eI)]⟩) (by first | rfl | (simp only [List.length_set]; done) | (simp only [List.length_set]; rfl))) ?_
              obtain ⟨y9, hy9, h⟩ := bind_some h
              obtain ⟨x10, hx10, h⟩ := bind_some h
              refine WpM.lift (fun Γ hok => ?_)
              refine Wp.text [1, 3, 4, 5, 6, 16, 17] rfl rfl ?_ -- region 15
              refine TextR.move rfl ?_
              refine TextR.loadN (cs := [I a0.N, .slv (a0.Edges.map eEdge)]) tk24 rfl rfl ?_
              refine TextR.move rfl ?_
              refine TextR.dcall rfl rfl (c_graph_Near N a0 x5 y9 hy9 _) ?_
              refine TextR.appendM eI (l3_2.drop 1) y9 x10 (app_eq hx10) se34 rfl (obj_of rfl) rfl rfl (fun _ => rfl) rfl (app_len hx10) (.succ (.succ .zero)) ?_
              refine TextR.assign rfl ?_
              refine TextR.done (.cons rfl (.cons rfl (.cons rfl (.cons rfl (.cons rfl (.cons rfl (.cons rfl .nil))))))) ?_
              exact ⟨m2, Nat.lt_succ_self _, _, WeakM.of (fun Γ hok => keepW (live := [1, 3, 4, 5, 6, 16, 17]) (.cons rfl (.cons rfl (.cons rfl (.cons rfl (.cons rfl (.cons rfl (.cons rfl .nil)))))))), _, _, _, _, h, rfl⟩
          · refine WpM.weak (fun Γ hok => (St.Weak.trans (keepW (live := [1, 3, 4, 16, 17]) (.cons rfl (.cons rfl (.cons rfl (.cons rfl (.cons rfl .nil)))))) (pickT (e' := [(1, .c (.ptr 0 0 0 0)), (3, .c (.sl 1 0 0 l1_2.length)), (4, .c (.v (.map (some b)))), (16, .c (I a0.N)), (17, .c (I s17_1))]) (H' := [.live 0 2 [[I a0.N, .slv (a0.Edges.map eEdge)]], .live 0 1 (l1_2.map eI)]) [0, 1] [0, 1, 0] 0 hok.len.symm rfl rfl (by decide) (by first | rfl | simp [-List.map_set]) (by first | rfl | simp [-List.map_set]) (by first | rfl | simp [-List.map_set]) (by first | rfl | simp [-List.map_set])))) ?_
            refine WpM.exit ?_
            obtain rfl := Option.some.inj h
            exact rfl
        rintro _ rfl
        clear hz4
        refine WpM.lift (fun Γ hok => ?_)
        refine Wp.text [1, 3, 4, 16, 17] rfl rfl ?_ -- region 16
        refine TextR.int rfl rfl rfl ?_
        refine TextR.move rfl ?_
        refine TextR.done (.cons rfl (.cons rfl (.cons rfl (.cons rfl (.cons rfl .nil))))) ?_
        exact ⟨m1, Nat.lt_succ_self _, _, WeakM.of (fun Γ hok => keepW (live := [1, 3, 4, 16, 17]) (.cons rfl (.cons rfl (.cons rfl (.cons rfl (.cons rfl .nil)))))), _, _, _, h, rfl⟩
      · refine WpM.weak (fun Γ hok => (St.Weak.trans (keepW (live := [3]) (.cons rfl .nil)) (pickT (e' := [(3, .c (.sl 0 0 0 l1_1.length))]) (H' := [.live 0 1 (l1_1.map eI)]) [1] [0, 0] 0 hok.len.symm rfl rfl (by decide) (by first | rfl | simp [-List.map_set]) (by first | rfl | simp [-List.map_set]) (by first | rfl | simp [-List.map_set]) (by first | rfl | simp [-List.map_set])))) ?_
        refine WpM.exit ?_
        obtain rfl := Option.some.inj h
        exact ⟨_, rfl⟩
    rintro _ ⟨ks, rfl⟩
    clear hz3
    refine WpM.seq ?_
    refine WpM.lift (fun Γ hok => ?_)
    refine Wp.text [2] rfl rfl ?_ -- region 17
    refine TextR.move rfl ?_
    refine TextR.assign rfl ?_
    refine TextR.done (.cons rfl .nil) ?_
    refine WpM.weak (fun Γ hok => keepW (live := [2] ) (.cons rfl .nil)) ?_
    refine WpM.weak (fun Γ hok => freezeW (h := 0) (ver := 0) (rows := z3.map eI) (e' := [(2, .c (.slv (z3.map eI)))]) (H' := [.dead]) rfl (by first | rfl | simp [-List.map_set]) (by first | rfl | simp [-List.map_set])) ?_
    refine WpM.ret ?_
    obtain rfl := Option.some.inj h
    exact Ret.one rfl (resV_tmp rfl) rfl
theorem c_graph_Parts (N : Nat) (a0 : TGraph) (r : (List Int)) (h : graph_Parts N a0 = some r) (H : List Ob) : DCall Try.prog 17 [.agg (eGraph a0)] H (.c (.slv (r.map eI))) := DCall.lift (by first | rfl | simp [-List.map_set]) (by first | rfl | simp [-List.map_set]) (fun _ => by simp [-List.map_set]) (w_graph_Parts N a0 r h) H
-- slices.Equal[[]narthex/api.Edge,narthex/api.Edge]
theorem w_slices_Equal_Edge (N : Nat) (a0 : List TEdge) (a1 : List TEdge) (r : Bool) (h : slices_Equal_Edge N a0 a1 = some r) : Nx.Call Try.prog 38 [.c (.slv (a0.map eEdge)), .c (.slv (a1.map eEdge))] [] fun r' _ => r' = .c (B r) := by
  refine Nx.Call.of_body Try.func38 rfl en38 Try.ntmps38 rfl (fun Γ hok => ?_)
  unfold slices_Equal_Edge at h
  refine Wp.seq ?_
  refine Wp.text [0, 1] rfl rfl ?_ -- region 0
  refine TextR.assign rfl ?_
  refine TextR.done (.cons rfl (.cons rfl .nil)) ?_
  refine Wp.seq ?_
  refine Wp.seq ?_
  refine Wp.text [0, 1, 10] rfl rfl ?_ -- region 1
  refine TextR.move rfl ?_
  refine TextR.lenM us22 rfl rfl ?_
  refine TextR.move rfl ?_
  refine TextR.lenM us22 rfl rfl ?_
  refine TextR.int rfl rfl rfl ?_
  refine TextR.done (.cons rfl (.cons rfl (.cons rfl .nil))) ?_
  refine Wp.condM h rfl (fun hc1 h => ?_) (fun hc1 h => ?_)
  · refine Wp.seq ?_
    refine Wp.text [4] rfl rfl ?_ -- region 2
    refine TextR.assign rfl ?_
    refine TextR.done (.cons rfl .nil) ?_
    refine Wp.ret ?_
    obtain rfl := Option.some.inj h
    exact Ret.one rfl (resV_tmp rfl) rfl
  · refine Wp.skip ?_
    refine Wp.seq ?_
    refine Wp.seq ?_
    refine Wp.text [0, 1, 12, 13] rfl rfl ?_ -- region 3
    refine TextR.move rfl ?_
    refine TextR.lenM us22 rfl rfl ?_
    refine TextR.move rfl ?_
    refine TextR.done (.cons rfl (.cons rfl (.cons rfl (.cons rfl .nil)))) ?_
    obtain ⟨z1, hz1, h⟩ := bind_some h
    refine Wp.fragR (fun S => ∃ z3, z1 = .inr z3 ∧ ∃ S', St.Weak ⟨Try.prog, 26, Γ⟩ S S' ∧ S' = ⟨[], []⟩) (fun S => ∃ v, z1 = .inl v ∧ Ret Try.prog Try.f38 (fun r' _ => r' = .c (B v)) .ret S) ?_ ?_ ?_
    · replace h := hz1
      refine Wp.block ?_
      refine Wp.weak (keepW (live := [0, 1, 12, 13]) (.cons rfl (.cons rfl (.cons rfl (.cons rfl .nil))))) ?_
      refine Wp.loop (fun m S => ∃ s13_1, slices_Equal_Edge_L1 N a0 a1 m s13_1 = some z1 ∧ S = ⟨[(0, .c (.slv (a0.map eEdge))), (1, .c (.slv (a1.map eEdge))), (12, .c (I (a0.length : Int))), (13, .c (I s13_1))], []⟩) N ⟨_, h, rfl⟩ ?_
      rintro m1 _ ⟨s13_1, h, rfl⟩
      cases m1 with
      | zero => rw [slices_Equal_Edge_L1.eq_1] at h; cases h
      | succ m1 =>
      rw [slices_Equal_Edge_L1.eq_2] at h
      refine Wp.seq ?_
      refine Wp.text [0, 1, 12, 13, 14] rfl rfl ?_ -- region 4
      refine TextR.int rfl rfl rfl ?_
      refine TextR.done (.cons rfl (.cons rfl (.cons rfl (.cons rfl (.cons rfl .nil))))) ?_
      refine Wp.seq ?_
      refine Wp.condM h rfl (fun hc3 h => ?_) (fun hc3 h => ?_)
      · refine Wp.skip ?_
        refine Wp.seq ?_
        refine Wp.block ?_
        refine Wp.seq ?_
        refine Wp.text [0, 1, 5, 12, 13] rfl rfl ?_ -- region 5
        refine TextR.move rfl ?_
        refine TextR.assign rfl ?_
        refine TextR.done (.cons rfl (.cons rfl (.cons rfl (.cons rfl (.cons rfl .nil))))) ?_
        refine Wp.seq ?_
        obtain ⟨x4, hx4, h⟩ := bind_some h
        obtain ⟨x5, hx5, h⟩ := bind_some h
        refine Wp.go true (some ⟨[], []⟩) [] [] [0, 1, 12, 13, 24] mixed rfl rfl (by kernel_rfl) ?_ -- region 6
        refine RunR.move rfl rfl rfl ?_
        refine RunR.move rfl rfl rfl ?_
        refine RunR.indexA se22 rfl rfl rfl rfl rfl hx4 rfl ?_
        refine RunR.loadNM tk37 rfl rfl rfl (at_get hx4) rfl ?_
        refine RunR.move rfl rfl rfl ?_
        refine RunR.move rfl rfl rfl ?_
        refine RunR.indexA se22 rfl rfl rfl rfl rfl hx5 rfl ?_
        refine RunR.loadNM tk37 rfl rfl rfl (at_get hx5) rfl ?_
        refine RunR.neAgg eqs37 rfl rfl rfl rfl (q_Edge x4 x5) ?_
        refine RunR.doneQ (.cons rfl (.cons rfl (.cons rfl (.cons rfl (.cons rfl .nil))))) ?_
        refine Wp.condM h rfl (fun hc4 h => ?_) (fun hc4 h => ?_)
        · refine Wp.seq ?_
          refine Wp.text [4] rfl rfl ?_ -- region 7
          refine TextR.assign rfl ?_
          refine TextR.done (.cons rfl .nil) ?_
          refine Wp.ret ?_
          exact ⟨_, (Option.some.inj h).symm, Ret.one rfl (resV_tmp rfl) rfl⟩
        · refine Wp.skip ?_
          refine Wp.text [0, 1, 12, 13] rfl rfl ?_ -- region 8
          refine TextR.int rfl rfl rfl ?_
          refine TextR.move rfl ?_
          refine TextR.done (.cons rfl (.cons rfl (.cons rfl (.cons rfl .nil)))) ?_
          exact ⟨m1, Nat.lt_succ_self _, _, (keepW (live := [0, 1, 12, 13]) (.cons rfl (.cons rfl (.cons rfl (.cons rfl .nil))))), _, h, rfl⟩
      · refine Wp.exit ?_
        exact ⟨_, (Option.some.inj h).symm, _, (keepW (live := []) .nil), rfl⟩
    · rintro _ ⟨z3, rfl, _, hw, rfl⟩
      dsimp only at h
      clear hz1
      refine Wp.weak hw ?_
      refine Wp.seq ?_
      refine Wp.text [4] rfl rfl ?_ -- region 9
      refine TextR.assign rfl ?_
      refine TextR.done (.cons rfl .nil) ?_
      refine Wp.ret ?_
      obtain rfl := Option.some.inj h
      exact Ret.one rfl (resV_tmp rfl) rfl
    · rintro S' ⟨r2, rfl, hR⟩
      dsimp only at h
      obtain rfl := Option.some.inj h
      exact hR
theorem c_slices_Equal_Edge (N : Nat) (a0 : List TEdge) (a1 : List TEdge) (r : Bool) (h : slices_Equal_Edge N a0 a1 = some r) (H : List Ob) : DCall Try.prog 38 [.c (.slv (a0.map eEdge)), .c (.slv (a1.map eEdge))] H (.c (B r)) := DCall.lift (by first | rfl | simp [-List.map_set]) (by first | rfl | simp [-List.map_set]) (fun _ => by simp [-List.map_set]) (w_slices_Equal_Edge N a0 a1 r h) H
-- narthex/graph.Same
theorem w_graph_Same (N : Nat) (a0 : TGraph) (a1 : TGraph) (r : Bool) (h : graph_Same N a0 a1 = some r) : Nx.Call Try.prog 18 [.agg (eGraph a0), .agg (eGraph a1)] [] fun r' _ => r' = .c (B r) := by
  refine Nx.Call.of_body Try.func18 rfl en18 Try.ntmps18 rfl (fun Γ hok => ?_)
  unfold graph_Same at h
  refine Wp.seq ?_
  refine Wp.text [2, 3] rfl rfl ?_ -- region 0
  refine TextR.box (cs := [I a0.N, .slv (a0.Edges.map eEdge)]) 0 rfl rfl rfl rfl .nil ?_
  refine TextR.box (cs := [I a1.N, .slv (a1.Edges.map eEdge)]) 1 rfl rfl rfl rfl (.cons .nil) ?_
  refine TextR.assign rfl ?_
  refine TextR.done (.cons rfl (.cons rfl .nil)) ?_
  refine Wp.seq ?_
  obtain ⟨y1, hy1, h⟩ := bind_some h
  refine Wp.go false none [[], [], [], [], [], [], [(10, true)], [(10, true)], [(10, true)], [(10, true)], [(10, true)], [], []] [] [4] mixed rfl rfl (by kernel_rfl) ?_ -- region 1
  refine RunR.fieldAddr fo24_0 rfl rfl rfl rfl rfl ?_
  refine RunR.load1 tk3 rfl rfl rfl rfl ?_
  refine RunR.fieldAddr fo24_0 rfl rfl rfl rfl rfl ?_
  refine RunR.load1 tk3 rfl rfl rfl rfl ?_
  refine RunR.int rfl rfl rfl rfl rfl ?_
  refine RunR.move rfl rfl rfl ?_
  refine RunR.fieldAddr fo24_1 rfl rfl rfl rfl rfl ?_
  refine RunR.load1 tk22 rfl rfl rfl rfl ?_
  refine RunR.fieldAddr fo24_1 rfl rfl rfl rfl rfl ?_
  refine RunR.load1 tk22 rfl rfl rfl rfl ?_
  refine RunR.callG rfl rfl rfl (fun hb H => c_slices_Equal_Edge N a0.Edges a1.Edges y1 (ifT hy1 gT hb) H) ?_
  refine RunR.pickAnd rfl rfl rfl rfl ?_
  refine RunR.assign rfl rfl rfl ?_
  refine RunR.doneQ (.cons rfl .nil) ?_
  refine Wp.ret ?_
  obtain rfl := Option.some.inj h
  exact Ret.one rfl (resV_tmp rfl) rfl
theorem c_graph_Same (N : Nat) (a0 : TGraph) (a1 : TGraph) (r : Bool) (h : graph_Same N a0 a1 = some r) (H : List Ob) : DCall Try.prog 18 [.agg (eGraph a0), .agg (eGraph a1)] H (.c (B r)) := DCall.lift (by first | rfl | simp [-List.map_set]) (by first | rfl | simp [-List.map_set]) (fun _ => by simp [-List.map_set]) (w_graph_Same N a0 a1 r h) H
-- narthex/narthexlaw03.awake
theorem w_narthexlaw03_awake (N : Nat) (r : Bool) (h : narthexlaw03_awake N = some r) : Nx.Call Try.prog 8 [] [] fun r' _ => r' = .c (B r) := by
  refine Nx.Call.of_body Try.func8 rfl en8 Try.ntmps8 rfl (fun Γ hok => ?_)
  unfold narthexlaw03_awake at h
  refine Wp.seq ?_
  refine Wp.text [] rfl rfl ?_ -- region 0
  refine TextR.assign rfl ?_
  refine TextR.done .nil ?_
  refine Wp.seq ?_
  obtain ⟨y1, hy1, h⟩ := bind_some h
  refine Wp.text [1, 2] rfl rfl ?_ -- region 1
  refine TextR.build cm24 rfl ?_
  refine TextR.dcall rfl rfl (DCall.nz rfl (c_graph_Add N (⟨3, []⟩ : TGraph) 2 0 y1 hy1 _)) ?_
  refine TextR.move rfl ?_
  refine TextR.extract rfl rfl ?_
  refine TextR.extract rfl rfl ?_
  refine TextR.alloc 0 zc24 rfl rfl .nil ?_
  refine TextR.store1 tk24 rfl rfl rfl rfl rfl rfl .zero ?_
  refine TextR.assign rfl ?_
  refine TextR.done (.cons rfl (.cons rfl .nil)) ?_
  refine Wp.seq ?_
  obtain ⟨y2, hy2, h⟩ := bind_some h
  refine Wp.text [1, 2, 3, 4] rfl rfl ?_ -- region 2
  refine TextR.loadN (cs := [I y1.1.N, .slv (y1.1.Edges.map eEdge)]) tk24 rfl rfl ?_
  refine TextR.dcall rfl rfl (c_graph_Remove N y1.1 0 2 y2 hy2 _) ?_
  refine TextR.move rfl ?_
  refine TextR.extract rfl rfl ?_
  refine TextR.extract rfl rfl ?_
  refine TextR.alloc 1 zc24 rfl rfl (.cons .nil) ?_
  refine TextR.store1 tk24 rfl rfl rfl rfl rfl rfl (.succ .zero) ?_
  refine TextR.assign rfl ?_
  refine TextR.done (.cons rfl (.cons rfl (.cons rfl (.cons rfl .nil)))) ?_
  refine Wp.seq ?_
  obtain ⟨y3, hy3, h⟩ := bind_some h
  refine Wp.text [1, 2, 3, 4, 6] rfl rfl ?_ -- region 3
  refine TextR.loadN (cs := [I y1.1.N, .slv (y1.1.Edges.map eEdge)]) tk24 rfl rfl ?_
  refine TextR.dcall rfl rfl (c_graph_Add N y1.1 0 2 y3 hy3 _) ?_
  refine TextR.move rfl ?_
  refine TextR.extract rfl rfl ?_
  refine TextR.extract rfl rfl ?_
  refine TextR.alloc 2 zc24 rfl rfl (.cons (.cons .nil)) ?_
  refine TextR.store1 tk24 rfl rfl rfl rfl rfl rfl (.succ (.succ .zero)) ?_
  refine TextR.assign rfl ?_
  refine TextR.done (.cons rfl (.cons rfl (.cons rfl (.cons rfl (.cons rfl .nil))))) ?_
  refine Wp.seq ?_
  refine Wp.text [0] rfl rfl ?_ -- region 4 SPLIT
  refine TextR.move rfl ?_
  refine TextR.int rfl rfl rfl ?_
  refine TextR.move rfl ?_
  refine TextR.byBool 24 rfl (fun hv => ?_) (fun hv => ?_)
  · rw [if_pos (by simpa using hv)] at h
    refine TextR.gmove rfl rfl ?_
    refine TextR.gint rfl rfl rfl rfl ?_
    refine TextR.pickAnd rfl rfl ?_
    refine TextR.move rfl ?_
    refine TextR.byBool 28 rfl (fun hv => ?_) (fun hv => ?_)
    · rw [if_pos (by simpa using hv)] at h
      refine TextR.gmove rfl rfl ?_
      refine TextR.gint rfl rfl rfl rfl ?_
      refine TextR.pickAnd rfl rfl ?_
      refine TextR.move rfl ?_
      refine TextR.byBool 32 rfl (fun hv => ?_) (fun hv => ?_)
      · rw [if_pos (by simpa using hv)] at h
        refine TextR.gloadN rfl (cs := [I y1.1.N, .slv (y1.1.Edges.map eEdge)]) tk24 rfl rfl ?_
        obtain ⟨y4, hy4, h⟩ := bind_some h
        refine TextR.dcallG rfl rfl rfl (c_graph_Check N y1.1 y4 hy4 _) ?_
        refine TextR.gint rfl rfl rfl rfl ?_
        refine TextR.pickAnd rfl rfl ?_
        refine TextR.move rfl ?_
        refine TextR.byBool 37 rfl (fun hv => ?_) (fun hv => ?_)
        · rw [if_pos (by simpa using hv)] at h
          refine TextR.gloadN rfl (cs := [I y1.1.N, .slv (y1.1.Edges.map eEdge)]) tk24 rfl rfl ?_
          obtain ⟨y5, hy5, h⟩ := bind_some h
          refine TextR.dcallG rfl rfl rfl (c_graph_Has N y1.1 2 0 y5 hy5 _) ?_
          refine TextR.pickAnd rfl rfl ?_
          refine TextR.move rfl ?_
          refine TextR.byBool 41 rfl (fun hv => ?_) (fun hv => ?_)
          · rw [if_pos (by simpa using hv)] at h
            refine TextR.gloadN rfl (cs := [I y1.1.N, .slv (y1.1.Edges.map eEdge)]) tk24 rfl rfl ?_
            obtain ⟨y6, hy6, h⟩ := bind_some h
            refine TextR.dcallG rfl rfl rfl (c_graph_Has N y1.1 1 0 y6 hy6 _) ?_
            refine TextR.gnot rfl rfl ?_
            refine TextR.pickAnd rfl rfl ?_
            refine TextR.move rfl ?_
            refine TextR.byBool 46 rfl (fun hv => ?_) (fun hv => ?_)
            · rw [if_pos (by simpa using hv)] at h
              refine TextR.gloadN rfl (cs := [I y1.1.N, .slv (y1.1.Edges.map eEdge)]) tk24 rfl rfl ?_
              obtain ⟨y7, hy7, h⟩ := bind_some h
              refine TextR.dcallG rfl rfl rfl (c_graph_Near N y1.1 2 y7 hy7 _) ?_
              refine TextR.gbuildSlice rfl (rows := [0].map eI) 3 se34 rfl rfl rfl (.cons (.cons (.cons .nil))) ?_
              obtain ⟨y8, hy8, h⟩ := bind_some h
              refine TextR.dcallG rfl rfl rfl (DCall.borrow (fs := [.c (.slv (y7.map eI)), .c (.slv ([0].map eI))]) (by simp [-List.map_set, obj, List.take_of_length_le]) (by first | rfl | simp [-List.map_set]) rfl (w_narthexref01_Same N y7 [0] y8 hy8)) ?_
              refine TextR.pickAnd rfl rfl ?_
              refine TextR.move rfl ?_
              refine TextR.byBool 52 rfl (fun hv => ?_) (fun hv => ?_)
              · rw [if_pos (by simpa using hv)] at h
                refine TextR.gloadN rfl (cs := [I y1.1.N, .slv (y1.1.Edges.map eEdge)]) tk24 rfl rfl ?_
                obtain ⟨y9, hy9, h⟩ := bind_some h
                refine TextR.dcallG rfl rfl rfl (c_graph_Parts N y1.1 y9 hy9 _) ?_
                refine TextR.gbuildSlice rfl (rows := [0, 1, 0].map eI) 4 se34 rfl rfl rfl (.cons (.cons (.cons (.cons .nil)))) ?_
                obtain ⟨y10, hy10, h⟩ := bind_some h
                refine TextR.dcallG rfl rfl rfl (DCall.borrow (fs := [.c (.slv (y9.map eI)), .c (.slv ([0, 1, 0].map eI))]) (by simp [-List.map_set, obj, List.take_of_length_le]) (by first | rfl | simp [-List.map_set]) rfl (w_narthexref01_Same N y9 [0, 1, 0] y10 hy10)) ?_
                refine TextR.pickAnd rfl rfl ?_
                refine TextR.move rfl ?_
                refine TextR.byBool 58 rfl (fun hv => ?_) (fun hv => ?_)
                · rw [if_pos (by simpa using hv)] at h
                  refine TextR.gloadN rfl (cs := [I y2.1.N, .slv (y2.1.Edges.map eEdge)]) tk24 rfl rfl ?_
                  refine TextR.gbuild rfl cm24 rfl ?_
                  obtain ⟨y11, hy11, h⟩ := bind_some h
                  refine TextR.dcallG rfl rfl rfl (DCall.nz rfl (c_graph_Same N y2.1 (⟨3, []⟩ : TGraph) y11 hy11 _)) ?_
                  refine TextR.pickAnd rfl rfl ?_
                  refine TextR.move rfl ?_
                  refine TextR.byBool 63 rfl (fun hv => ?_) (fun hv => ?_)
                  · rw [if_pos (by simpa using hv)] at h
                    refine TextR.gloadN rfl (cs := [I y1.1.N, .slv (y1.1.Edges.map eEdge)]) tk24 rfl rfl ?_
                    refine TextR.gloadN rfl (cs := [I y2.1.N, .slv (y2.1.Edges.map eEdge)]) tk24 rfl rfl ?_
                    obtain ⟨y12, hy12, h⟩ := bind_some h
                    refine TextR.dcallG rfl rfl rfl (c_graph_Same N y1.1 y2.1 y12 hy12 _) ?_
                    refine TextR.gnot rfl rfl ?_
                    refine TextR.pickAnd rfl rfl ?_
                    refine TextR.assign rfl ?_
                    refine TextR.done (.cons rfl .nil) ?_
                    refine Wp.ret ?_
                    obtain rfl := Option.some.inj h
                    exact Ret.one rfl (resV_tmp rfl) rfl
                  · rw [if_neg (by simpa using hv)] at h
                    refine TextR.off rfl ?_
                    refine TextR.off rfl ?_
                    refine TextR.off rfl ?_
                    refine TextR.off rfl ?_
                    refine TextR.pickAnd0 rfl rfl ?_
                    refine TextR.assign rfl ?_
                    refine TextR.done (.cons rfl .nil) ?_
                    refine Wp.ret ?_
                    obtain rfl := Option.some.inj h
                    exact Ret.one rfl (resV_tmp rfl) rfl
                · rw [if_neg (by simpa using hv)] at h
                  refine TextR.off rfl ?_
                  refine TextR.off rfl ?_
                  refine TextR.off rfl ?_
                  refine TextR.pickAnd0 rfl rfl ?_
                  refine TextR.move rfl ?_
                  refine TextR.off rfl ?_
                  refine TextR.off rfl ?_
                  refine TextR.off rfl ?_
                  refine TextR.off rfl ?_
                  refine TextR.pickAnd0 rfl rfl ?_
                  refine TextR.assign rfl ?_
                  refine TextR.done (.cons rfl .nil) ?_
                  refine Wp.ret ?_
                  obtain rfl := Option.some.inj h
                  exact Ret.one rfl (resV_tmp rfl) rfl
              · rw [if_neg (by simpa using hv)] at h
                refine TextR.off rfl ?_
                refine TextR.off rfl ?_
                refine TextR.off rfl ?_
                refine TextR.off rfl ?_
                refine TextR.pickAnd0 rfl rfl ?_
                refine TextR.move rfl ?_
                refine TextR.off rfl ?_
                refine TextR.off rfl ?_
                refine TextR.off rfl ?_
                refine TextR.pickAnd0 rfl rfl ?_
                refine TextR.move rfl ?_
                refine TextR.off rfl ?_
                refine TextR.off rfl ?_
                refine TextR.off rfl ?_
                refine TextR.off rfl ?_
                refine TextR.pickAnd0 rfl rfl ?_
                refine TextR.assign rfl ?_
                refine TextR.done (.cons rfl .nil) ?_
                refine Wp.ret ?_
                obtain rfl := Option.some.inj h
                exact Ret.one rfl (resV_tmp rfl) rfl
            · rw [if_neg (by simpa using hv)] at h
              refine TextR.off rfl ?_
              refine TextR.off rfl ?_
              refine TextR.off rfl ?_
              refine TextR.off rfl ?_
              refine TextR.pickAnd0 rfl rfl ?_
              refine TextR.move rfl ?_
              refine TextR.off rfl ?_
              refine TextR.off rfl ?_
              refine TextR.off rfl ?_
              refine TextR.off rfl ?_
              refine TextR.pickAnd0 rfl rfl ?_
              refine TextR.move rfl ?_
              refine TextR.off rfl ?_
              refine TextR.off rfl ?_
              refine TextR.off rfl ?_
              refine TextR.pickAnd0 rfl rfl ?_
              refine TextR.move rfl ?_
              refine TextR.off rfl ?_
              refine TextR.off rfl ?_
              refine TextR.off rfl ?_
              refine TextR.off rfl ?_
              refine TextR.pickAnd0 rfl rfl ?_
              refine TextR.assign rfl ?_
              refine TextR.done (.cons rfl .nil) ?_
              refine Wp.ret ?_
              obtain rfl := Option.some.inj h
              exact Ret.one rfl (resV_tmp rfl) rfl
          · rw [if_neg (by simpa using hv)] at h
            refine TextR.off rfl ?_
            refine TextR.off rfl ?_
            refine TextR.off rfl ?_
            refine TextR.pickAnd0 rfl rfl ?_
            refine TextR.move rfl ?_
            refine TextR.off rfl ?_
            refine TextR.off rfl ?_
            refine TextR.off rfl ?_
            refine TextR.off rfl ?_
            refine TextR.pickAnd0 rfl rfl ?_
            refine TextR.move rfl ?_
            refine TextR.off rfl ?_
            refine TextR.off rfl ?_
            refine TextR.off rfl ?_
            refine TextR.off rfl ?_
            refine TextR.pickAnd0 rfl rfl ?_
            refine TextR.move rfl ?_
            refine TextR.off rfl ?_
            refine TextR.off rfl ?_
            refine TextR.off rfl ?_
            refine TextR.pickAnd0 rfl rfl ?_
            refine TextR.move rfl ?_
            refine TextR.off rfl ?_
            refine TextR.off rfl ?_
            refine TextR.off rfl ?_
            refine TextR.off rfl ?_
            refine TextR.pickAnd0 rfl rfl ?_
            refine TextR.assign rfl ?_
            refine TextR.done (.cons rfl .nil) ?_
            refine Wp.ret ?_
            obtain rfl := Option.some.inj h
            exact Ret.one rfl (resV_tmp rfl) rfl
        · rw [if_neg (by simpa using hv)] at h
          refine TextR.off rfl ?_
          refine TextR.off rfl ?_
          refine TextR.pickAnd0 rfl rfl ?_
          refine TextR.move rfl ?_
          refine TextR.off rfl ?_
          refine TextR.off rfl ?_
          refine TextR.off rfl ?_
          refine TextR.pickAnd0 rfl rfl ?_
          refine TextR.move rfl ?_
          refine TextR.off rfl ?_
          refine TextR.off rfl ?_
          refine TextR.off rfl ?_
          refine TextR.off rfl ?_
          refine TextR.pickAnd0 rfl rfl ?_
          refine TextR.move rfl ?_
          refine TextR.off rfl ?_
          refine TextR.off rfl ?_
          refine TextR.off rfl ?_
          refine TextR.off rfl ?_
          refine TextR.pickAnd0 rfl rfl ?_
          refine TextR.move rfl ?_
          refine TextR.off rfl ?_
          refine TextR.off rfl ?_
          refine TextR.off rfl ?_
          refine TextR.pickAnd0 rfl rfl ?_
          refine TextR.move rfl ?_
          refine TextR.off rfl ?_
          refine TextR.off rfl ?_
          refine TextR.off rfl ?_
          refine TextR.off rfl ?_
          refine TextR.pickAnd0 rfl rfl ?_
          refine TextR.assign rfl ?_
          refine TextR.done (.cons rfl .nil) ?_
          refine Wp.ret ?_
          obtain rfl := Option.some.inj h
          exact Ret.one rfl (resV_tmp rfl) rfl
      · rw [if_neg (by simpa using hv)] at h
        refine TextR.off rfl ?_
        refine TextR.off rfl ?_
        refine TextR.off rfl ?_
        refine TextR.pickAnd0 rfl rfl ?_
        refine TextR.move rfl ?_
        refine TextR.off rfl ?_
        refine TextR.off rfl ?_
        refine TextR.pickAnd0 rfl rfl ?_
        refine TextR.move rfl ?_
        refine TextR.off rfl ?_
        refine TextR.off rfl ?_
        refine TextR.off rfl ?_
        refine TextR.pickAnd0 rfl rfl ?_
        refine TextR.move rfl ?_
        refine TextR.off rfl ?_
        refine TextR.off rfl ?_
        refine TextR.off rfl ?_
        refine TextR.off rfl ?_
        refine TextR.pickAnd0 rfl rfl ?_
        refine TextR.move rfl ?_
        refine TextR.off rfl ?_
        refine TextR.off rfl ?_
        refine TextR.off rfl ?_
        refine TextR.off rfl ?_
        refine TextR.pickAnd0 rfl rfl ?_
        refine TextR.move rfl ?_
        refine TextR.off rfl ?_
        refine TextR.off rfl ?_
        refine TextR.off rfl ?_
        refine TextR.pickAnd0 rfl rfl ?_
        refine TextR.move rfl ?_
        refine TextR.off rfl ?_
        refine TextR.off rfl ?_
        refine TextR.off rfl ?_
        refine TextR.off rfl ?_
        refine TextR.pickAnd0 rfl rfl ?_
        refine TextR.assign rfl ?_
        refine TextR.done (.cons rfl .nil) ?_
        refine Wp.ret ?_
        obtain rfl := Option.some.inj h
        exact Ret.one rfl (resV_tmp rfl) rfl
    · rw [if_neg (by simpa using hv)] at h
      refine TextR.off rfl ?_
      refine TextR.off rfl ?_
      refine TextR.pickAnd0 rfl rfl ?_
      refine TextR.move rfl ?_
      refine TextR.off rfl ?_
      refine TextR.off rfl ?_
      refine TextR.off rfl ?_
      refine TextR.pickAnd0 rfl rfl ?_
      refine TextR.move rfl ?_
      refine TextR.off rfl ?_
      refine TextR.off rfl ?_
      refine TextR.pickAnd0 rfl rfl ?_
      refine TextR.move rfl ?_
      refine TextR.off rfl ?_
      refine TextR.off rfl ?_
      refine TextR.off rfl ?_
      refine TextR.pickAnd0 rfl rfl ?_
      refine TextR.move rfl ?_
      refine TextR.off rfl ?_
      refine TextR.off rfl ?_
      refine TextR.off rfl ?_
      refine TextR.off rfl ?_
      refine TextR.pickAnd0 rfl rfl ?_
      refine TextR.move rfl ?_
      refine TextR.off rfl ?_
      refine TextR.off rfl ?_
      refine TextR.off rfl ?_
      refine TextR.off rfl ?_
      refine TextR.pickAnd0 rfl rfl ?_
      refine TextR.move rfl ?_
      refine TextR.off rfl ?_
      refine TextR.off rfl ?_
      refine TextR.off rfl ?_
      refine TextR.pickAnd0 rfl rfl ?_
      refine TextR.move rfl ?_
      refine TextR.off rfl ?_
      refine TextR.off rfl ?_
      refine TextR.off rfl ?_
      refine TextR.off rfl ?_
      refine TextR.pickAnd0 rfl rfl ?_
      refine TextR.assign rfl ?_
      refine TextR.done (.cons rfl .nil) ?_
      refine Wp.ret ?_
      obtain rfl := Option.some.inj h
      exact Ret.one rfl (resV_tmp rfl) rfl
  · rw [if_neg (by simpa using hv)] at h
    refine TextR.off rfl ?_
    refine TextR.off rfl ?_
    refine TextR.pickAnd0 rfl rfl ?_
    refine TextR.move rfl ?_
    refine TextR.off rfl ?_
    refine TextR.off rfl ?_
    refine TextR.pickAnd0 rfl rfl ?_
    refine TextR.move rfl ?_
    refine TextR.off rfl ?_
    refine TextR.off rfl ?_
    refine TextR.off rfl ?_
    refine TextR.pickAnd0 rfl rfl ?_
    refine TextR.move rfl ?_
    refine TextR.off rfl ?_
    refine TextR.off rfl ?_
    refine TextR.pickAnd0 rfl rfl ?_
    refine TextR.move rfl ?_
    refine TextR.off rfl ?_
    refine TextR.off rfl ?_
    refine TextR.off rfl ?_
    refine TextR.pickAnd0 rfl rfl ?_
    refine TextR.move rfl ?_
    refine TextR.off rfl ?_
    refine TextR.off rfl ?_
    refine TextR.off rfl ?_
    refine TextR.off rfl ?_
    refine TextR.pickAnd0 rfl rfl ?_
    refine TextR.move rfl ?_
    refine TextR.off rfl ?_
    refine TextR.off rfl ?_
    refine TextR.off rfl ?_
    refine TextR.off rfl ?_
    refine TextR.pickAnd0 rfl rfl ?_
    refine TextR.move rfl ?_
    refine TextR.off rfl ?_
    refine TextR.off rfl ?_
    refine TextR.off rfl ?_
    refine TextR.pickAnd0 rfl rfl ?_
    refine TextR.move rfl ?_
    refine TextR.off rfl ?_
    refine TextR.off rfl ?_
    refine TextR.off rfl ?_
    refine TextR.off rfl ?_
    refine TextR.pickAnd0 rfl rfl ?_
    refine TextR.assign rfl ?_
    refine TextR.done (.cons rfl .nil) ?_
    refine Wp.ret ?_
    obtain rfl := Option.some.inj h
    exact Ret.one rfl (resV_tmp rfl) rfl
theorem c_narthexlaw03_awake (N : Nat) (r : Bool) (h : narthexlaw03_awake N = some r) (H : List Ob) : DCall Try.prog 8 [] H (.c (B r)) := DCall.lift (by first | rfl | simp [-List.map_set]) (by first | rfl | simp [-List.map_set]) (fun _ => by simp [-List.map_set]) (w_narthexlaw03_awake N r h) H
-- narthex/narthexlaw03.Own
theorem w_narthexlaw03_Own (N : Nat) (a0 : TGraph) (r : TGraph) (h : narthexlaw03_Own N a0 = some r) : Nx.Call Try.prog 10 [.agg (eGraph a0)] [] fun r' _ => r' = .agg (eGraph r) := by
  refine Nx.Call.of_body Try.func10 rfl en10 Try.ntmps10 rfl (fun Γ hok => ?_)
  unfold narthexlaw03_Own at h
  refine Wp.seq ?_
  refine Wp.text [1, 2] rfl rfl ?_ -- region 0
  refine TextR.box (cs := [I a0.N, .slv (a0.Edges.map eEdge)]) 0 rfl rfl rfl rfl .nil ?_
  refine TextR.alloc 1 zc24 rfl rfl (.cons .nil) ?_
  refine TextR.done (.cons rfl (.cons rfl .nil)) ?_
  refine Wp.seq ?_
  obtain ⟨x1, hx1, h⟩ := bind_some h
  refine Wp.go true (some ⟨[2], []⟩) [] [true, true, false, true, true, false, false, true] [2] mixed rfl rfl (by kernel_rfl) ?_ -- region 1
  refine RunR.fieldAddr fo24_0 rfl rfl rfl rfl rfl ?_
  refine RunR.load1 tk3 rfl rfl rfl rfl ?_
  refine RunR.buildSlice  2 se22 rfl rfl rfl rfl rfl (.cons (.cons .nil)) ?_
  refine RunR.fieldAddr fo24_1 rfl rfl rfl rfl rfl ?_
  refine RunR.load1 tk22 rfl rfl rfl rfl ?_
  refine RunR.appendM eEdge ([] : List TEdge) a0.Edges x1 (app_eq hx1) se22 rfl rfl rfl rfl rfl rfl (fun _ => rfl) rfl (app_len hx1) (.succ (.succ .zero)) ?_
  refine RunR.build cm24 rfl rfl rfl ?_
  refine RunR.store1 tk24 rfl rfl rfl rfl rfl rfl rfl rfl (.succ .zero) ?_
  refine RunR.doneQ (.cons rfl .nil) ?_
  refine Wp.weak (keepW (live := [2] ) (.cons rfl .nil)) ?_
  refine Wp.weak (freezeW (h := 2) (ver := 1) (rows := x1.map eEdge) (e' := [(2, .c (.ptr 1 0 0 0))]) (H' := [.live 0 2 [[I a0.N, .slv (a0.Edges.map eEdge)]], .live 0 2 [[I a0.N, .slv (x1.map eEdge)]], .dead]) rfl (by first | rfl | simp [-List.map_set]) (by first | rfl | simp [-List.map_set])) ?_
  refine Wp.ret ?_
  obtain rfl := Option.some.inj h
  exact Ret.one rfl (resV_cellN tk24 rfl rfl) rfl
theorem c_narthexlaw03_Own (N : Nat) (a0 : TGraph) (r : TGraph) (h : narthexlaw03_Own N a0 = some r) (H : List Ob) : DCall Try.prog 10 [.agg (eGraph a0)] H (.agg (eGraph r)) := DCall.lift (by first | rfl | simp [-List.map_set]) (by first | rfl | simp [-List.map_set]) (fun _ => by simp [-List.map_set]) (w_narthexlaw03_Own N a0 r h) H
-- narthex/narthexref03.ahead
theorem w_narthexref03_ahead (N : Nat) (a0 : TEdge) (a1 : TEdge) (r : Bool) (h : narthexref03_ahead N a0 a1 = some r) : Nx.Call Try.prog 32 [.agg (eEdge a0), .agg (eEdge a1)] [] fun r' _ => r' = .c (B r) := by
  refine Nx.Call.of_body Try.func32 rfl en32 Try.ntmps32 rfl (fun Γ hok => ?_)
  unfold narthexref03_ahead at h
  refine Wp.seq ?_
  refine Wp.text [2, 3] rfl rfl ?_ -- region 0
  refine TextR.box (cs := [I a0.A, I a0.B]) 0 rfl rfl rfl rfl .nil ?_
  refine TextR.box (cs := [I a1.A, I a1.B]) 1 rfl rfl rfl rfl (.cons .nil) ?_
  refine TextR.assign rfl ?_
  refine TextR.done (.cons rfl (.cons rfl .nil)) ?_
  refine Wp.seq ?_
  refine Wp.go false none [[], [], [], [], [], [], [(10, false)], [(10, false)], [(10, false)], [(10, false)], [(10, false)], [(10, false)], [(16, true), (10, false)], [(16, true), (10, false)], [(16, true), (10, false)], [(16, true), (10, false)], [(16, true), (10, false)], [(10, false)], [], []] [] [4] mixed rfl rfl (by kernel_rfl) ?_ -- region 1
  refine RunR.fieldAddr fo37_0 rfl rfl rfl rfl rfl ?_
  refine RunR.load1 tk3 rfl rfl rfl rfl ?_
  refine RunR.fieldAddr fo37_0 rfl rfl rfl rfl rfl ?_
  refine RunR.load1 tk3 rfl rfl rfl rfl ?_
  refine RunR.int rfl rfl rfl rfl rfl ?_
  refine RunR.move rfl rfl rfl ?_
  refine RunR.fieldAddr fo37_0 rfl rfl rfl rfl rfl ?_
  refine RunR.load1 tk3 rfl rfl rfl rfl ?_
  refine RunR.fieldAddr fo37_0 rfl rfl rfl rfl rfl ?_
  refine RunR.load1 tk3 rfl rfl rfl rfl ?_
  refine RunR.int rfl rfl rfl rfl rfl ?_
  refine RunR.move rfl rfl rfl ?_
  refine RunR.fieldAddr fo37_1 rfl rfl rfl rfl rfl ?_
  refine RunR.load1 tk3 rfl rfl rfl rfl ?_
  refine RunR.fieldAddr fo37_1 rfl rfl rfl rfl rfl ?_
  refine RunR.load1 tk3 rfl rfl rfl rfl ?_
  refine RunR.int rfl rfl rfl rfl rfl ?_
  refine RunR.pickAnd rfl rfl rfl rfl ?_
  refine RunR.pickOr rfl rfl rfl rfl ?_
  refine RunR.assign rfl rfl rfl ?_
  refine RunR.doneQ (.cons rfl .nil) ?_
  refine Wp.ret ?_
  obtain rfl := Option.some.inj h
  exact Ret.one rfl (resV_tmp rfl) rfl
theorem c_narthexref03_ahead (N : Nat) (a0 : TEdge) (a1 : TEdge) (r : Bool) (h : narthexref03_ahead N a0 a1 = some r) (H : List Ob) : DCall Try.prog 32 [.agg (eEdge a0), .agg (eEdge a1)] H (.c (B r)) := DCall.lift (by first | rfl | simp [-List.map_set]) (by first | rfl | simp [-List.map_set]) (fun _ => by simp [-List.map_set]) (w_narthexref03_ahead N a0 a1 r h) H
-- narthex/narthexref03.Check
theorem w_narthexref03_Check (N : Nat) (a0 : TGraph) (r : Bool) (h : narthexref03_Check N a0 = some r) : Nx.Call Try.prog 29 [.agg (eGraph a0)] [] fun r' _ => r' = .c (B r) := by
  refine Nx.Call.of_body Try.func29 rfl en29 Try.ntmps29 rfl (fun Γ hok => ?_)
  unfold narthexref03_Check at h
  refine Wp.seq ?_
  refine Wp.text [1] rfl rfl ?_ -- region 0
  refine TextR.box (cs := [I a0.N, .slv (a0.Edges.map eEdge)]) 0 rfl rfl rfl rfl .nil ?_
  refine TextR.assign rfl ?_
  refine TextR.done (.cons rfl .nil) ?_
  refine Wp.seq ?_
  refine Wp.seq ?_
  refine Wp.go false none [[], [], [], [], [(8, false)], [(8, false)], [(8, false)], [], [], [(13, false)], [(13, false)], [(13, false)], [(13, false)], []] [] [1, 18] mixed rfl rfl (by kernel_rfl) ?_ -- region 1
  refine RunR.fieldAddr fo24_0 rfl rfl rfl rfl rfl ?_
  refine RunR.load1 tk3 rfl rfl rfl rfl ?_
  refine RunR.int rfl rfl rfl rfl rfl ?_
  refine RunR.move rfl rfl rfl ?_
  refine RunR.fieldAddr fo24_0 rfl rfl rfl rfl rfl ?_
  refine RunR.load1 tk3 rfl rfl rfl rfl ?_
  refine RunR.int rfl rfl rfl rfl rfl ?_
  refine RunR.pickOr rfl rfl rfl rfl ?_
  refine RunR.move rfl rfl rfl ?_
  refine RunR.fieldAddr fo24_1 rfl rfl rfl rfl rfl ?_
  refine RunR.load1 tk22 rfl rfl rfl rfl ?_
  refine RunR.lenM us22 rfl rfl rfl rfl ?_
  refine RunR.int rfl rfl rfl rfl rfl ?_
  refine RunR.pickOr rfl rfl rfl rfl ?_
  refine RunR.doneQ (.cons rfl (.cons rfl .nil)) ?_
  refine Wp.condM h rfl (fun hc1 h => ?_) (fun hc1 h => ?_)
  · refine Wp.seq ?_
    refine Wp.text [2] rfl rfl ?_ -- region 2
    refine TextR.assign rfl ?_
    refine TextR.done (.cons rfl .nil) ?_
    refine Wp.ret ?_
    obtain rfl := Option.some.inj h
    exact Ret.one rfl (resV_tmp rfl) rfl
  · refine Wp.skip ?_
    refine Wp.seq ?_
    refine Wp.seq ?_
    refine Wp.text [1, 3] rfl rfl ?_ -- region 3
    refine TextR.assign rfl ?_
    refine TextR.done (.cons rfl (.cons rfl .nil)) ?_
    obtain ⟨z1, hz1, h⟩ := bind_some h
    refine Wp.fragR (fun S => ∃ z3, z1 = .inr z3 ∧ ∃ S', St.Weak ⟨Try.prog, 63, Γ⟩ S S' ∧ S' = ⟨[], []⟩) (fun S => ∃ v, z1 = .inl v ∧ Ret Try.prog Try.f29 (fun r' _ => r' = .c (B v)) .ret S) ?_ ?_ ?_
    · replace h := hz1
      refine Wp.block ?_
      refine Wp.weak (keepW (live := [1, 3]) (.cons rfl (.cons rfl .nil))) ?_
      refine Wp.loop (fun m S => ∃ s3_1, narthexref03_Check_L1 N a0 m s3_1 = some z1 ∧ S = ⟨[(1, .c (.ptr 0 0 0 0)), (3, .c (I s3_1))], [.live 0 2 [[I a0.N, .slv (a0.Edges.map eEdge)]]]⟩) N ⟨_, h, rfl⟩ ?_
      rintro m1 _ ⟨s3_1, h, rfl⟩
      cases m1 with
      | zero => rw [narthexref03_Check_L1.eq_1] at h; cases h
      | succ m1 =>
      rw [narthexref03_Check_L1.eq_2] at h
      refine Wp.seq ?_
      refine Wp.seq ?_
      refine Wp.text [1, 3, 23] rfl rfl ?_ -- region 4
      refine TextR.move rfl ?_
      refine TextR.fieldAddr fo24_1 rfl rfl rfl ?_
      refine TextR.load1 tk22 rfl rfl ?_
      refine TextR.lenM us22 rfl rfl ?_
      refine TextR.int rfl rfl rfl ?_
      refine TextR.done (.cons rfl (.cons rfl (.cons rfl .nil))) ?_
      refine Wp.condM h rfl (fun hc3 h => ?_) (fun hc3 h => ?_)
      · refine Wp.skip ?_
        refine Wp.seq ?_
        refine Wp.block ?_
        refine Wp.seq ?_
        obtain ⟨x4, hx4, h⟩ := bind_some h
        refine Wp.text [1, 3, 4] rfl rfl ?_ -- region 6
        refine TextR.fieldAddr fo24_1 rfl rfl rfl ?_
        refine TextR.load1 tk22 rfl rfl ?_
        refine TextR.move rfl ?_
        refine TextR.indexA se22 rfl rfl rfl hx4 rfl ?_
        refine TextR.loadNM tk37 rfl (at_get hx4) rfl ?_
        refine TextR.alloc 1 zc37 rfl rfl (.cons .nil) ?_
        refine TextR.store1 tk37 rfl rfl rfl rfl rfl rfl (.succ .zero) ?_
        refine TextR.done (.cons rfl (.cons rfl (.cons rfl .nil))) ?_
        refine Wp.seq ?_
        obtain ⟨x5, hx5, h⟩ := bind_some h
        obtain ⟨y6, hy6, h⟩ := bind_some h
        refine Wp.go true (some ⟨[], []⟩) [[], [], [], [], [(34, false)], [(34, false)], [(34, false)], [(34, false)], [(34, false)], [], [], [(41, false)], [(41, false)], [(41, false)], [(41, false)], [(41, false)], [], [], [(48, false)], [(48, false)], [(48, false)], [(51, true), (48, false)], [(51, true), (48, false)], [(51, true), (48, false)], [(51, true), (48, false)], [(51, true), (48, false)], [(51, true), (48, false)], [(51, true), (48, false)], [(51, true), (48, false)], [(51, true), (48, false)], [(48, false)], []] [] [1, 3, 62] mixed rfl rfl (by kernel_rfl) ?_ -- region 7
        refine RunR.fieldAddr fo37_0 rfl rfl rfl rfl rfl ?_
        refine RunR.load1 tk3 rfl rfl rfl rfl ?_
        refine RunR.int rfl rfl rfl rfl rfl ?_
        refine RunR.move rfl rfl rfl ?_
        refine RunR.fieldAddr fo37_0 rfl rfl rfl rfl rfl ?_
        refine RunR.load1 tk3 rfl rfl rfl rfl ?_
        refine RunR.fieldAddr fo37_1 rfl rfl rfl rfl rfl ?_
        refine RunR.load1 tk3 rfl rfl rfl rfl ?_
        refine RunR.int rfl rfl rfl rfl rfl ?_
        refine RunR.pickOr rfl rfl rfl rfl ?_
        refine RunR.move rfl rfl rfl ?_
        refine RunR.fieldAddr fo37_1 rfl rfl rfl rfl rfl ?_
        refine RunR.load1 tk3 rfl rfl rfl rfl ?_
        refine RunR.fieldAddr fo24_0 rfl rfl rfl rfl rfl ?_
        refine RunR.load1 tk3 rfl rfl rfl rfl ?_
        refine RunR.int rfl rfl rfl rfl rfl ?_
        refine RunR.pickOr rfl rfl rfl rfl ?_
        refine RunR.move rfl rfl rfl ?_
        refine RunR.move rfl rfl rfl ?_
        refine RunR.int rfl rfl rfl rfl rfl ?_
        refine RunR.move rfl rfl rfl ?_
        refine RunR.fieldAddr fo24_1 rfl rfl rfl rfl rfl ?_
        refine RunR.load1 tk22 rfl rfl rfl rfl ?_
        refine RunR.move rfl rfl rfl ?_
        refine RunR.int rfl rfl rfl rfl rfl ?_
        refine RunR.indexAG se22 rfl rfl rfl rfl rfl (ifPos hx5 (fun hb => (gAnd (gF (gN hb)) (gT hb)))) (ifAt hx5 (fun hb => (gAnd (gF (gN hb)) (gT hb)))) rfl ?_
        refine RunR.loadNG tk37 rfl rfl rfl (ifAt hx5 (fun hb => (gAnd (gF (gN hb)) (gT hb)))) rfl ?_
        refine RunR.loadN (cs := [I x4.A, I x4.B]) tk37 rfl rfl rfl rfl ?_
        refine RunR.callG rfl rfl rfl (fun hb H => c_narthexref03_ahead N x5 x4 y6 (ifT hy6 (fun hb => (gAnd (gF (gN hb)) (gT hb))) hb) H) ?_
        refine RunR.not rfl rfl rfl ?_
        refine RunR.pickAnd rfl rfl rfl rfl ?_
        refine RunR.pickOr rfl rfl rfl rfl ?_
        refine RunR.doneQ (.cons rfl (.cons rfl (.cons rfl .nil))) ?_
        refine Wp.condM h rfl (fun hc4 h => ?_) (fun hc4 h => ?_)
        · refine Wp.seq ?_
          refine Wp.text [2] rfl rfl ?_ -- region 8
          refine TextR.assign rfl ?_
          refine TextR.done (.cons rfl .nil) ?_
          refine Wp.ret ?_
          exact ⟨_, (Option.some.inj h).symm, Ret.one rfl (resV_tmp rfl) rfl⟩
        · refine Wp.skip ?_
          refine Wp.text [1, 3] rfl rfl ?_ -- region 5
          refine TextR.move rfl ?_
          refine TextR.int rfl rfl rfl ?_
          refine TextR.assign rfl ?_
          refine TextR.done (.cons rfl (.cons rfl .nil)) ?_
          exact ⟨m1, Nat.lt_succ_self _, _, (St.Weak.trans (keepW (live := [1, 3]) (.cons rfl (.cons rfl .nil))) (pickT (e' := [(1, .c (.ptr 0 0 0 0)), (3, .c (I (w64 (s3_1 + 1))))]) (H' := [.live 0 2 [[I a0.N, .slv (a0.Edges.map eEdge)]]]) [0] [0, 0] 0 hok.len.symm rfl rfl (by decide) (by first | rfl | simp [-List.map_set]) (by first | rfl | simp [-List.map_set]) (by first | rfl | simp [-List.map_set]) (by first | rfl | simp [-List.map_set]))), _, h, rfl⟩
      · refine Wp.exit ?_
        exact ⟨_, (Option.some.inj h).symm, _, (St.Weak.trans (keepW (live := []) .nil) (pickT (e' := []) (H' := []) [] [0] 0 hok.len.symm rfl rfl (by decide) (by first | rfl | simp [-List.map_set]) (by first | rfl | simp [-List.map_set]) (by first | rfl | simp [-List.map_set]) (by first | rfl | simp [-List.map_set]))), rfl⟩
    · rintro _ ⟨z3, rfl, _, hw, rfl⟩
      dsimp only at h
      clear hz1
      refine Wp.weak hw ?_
      refine Wp.seq ?_
      refine Wp.text [2] rfl rfl ?_ -- region 9
      refine TextR.assign rfl ?_
      refine TextR.done (.cons rfl .nil) ?_
      refine Wp.ret ?_
      obtain rfl := Option.some.inj h
      exact Ret.one rfl (resV_tmp rfl) rfl
    · rintro S' ⟨r2, rfl, hR⟩
      dsimp only at h
      obtain rfl := Option.some.inj h
      exact hR
theorem c_narthexref03_Check (N : Nat) (a0 : TGraph) (r : Bool) (h : narthexref03_Check N a0 = some r) (H : List Ob) : DCall Try.prog 29 [.agg (eGraph a0)] H (.c (B r)) := DCall.lift (by first | rfl | simp [-List.map_set]) (by first | rfl | simp [-List.map_set]) (fun _ => by simp [-List.map_set]) (w_narthexref03_Check N a0 r h) H
-- narthex/narthexref03.nodes
theorem w_narthexref03_nodes (N : Nat) (a0 : TGraph) (a1 : Int) (a2 : Int) (r : Bool) (h : narthexref03_nodes N a0 a1 a2 = some r) : Nx.Call Try.prog 30 [.agg (eGraph a0), .c (I a1), .c (I a2)] [] fun r' _ => r' = .c (B r) := by
  refine Nx.Call.of_body Try.func30 rfl en30 Try.ntmps30 rfl (fun Γ hok => ?_)
  unfold narthexref03_nodes at h
  refine Wp.seq ?_
  refine Wp.text [1, 2, 3] rfl rfl ?_ -- region 0
  refine TextR.box (cs := [I a0.N, .slv (a0.Edges.map eEdge)]) 0 rfl rfl rfl rfl .nil ?_
  refine TextR.assign rfl ?_
  refine TextR.done (.cons rfl (.cons rfl (.cons rfl .nil))) ?_
  refine Wp.seq ?_
  refine Wp.go false none [[], [], [], [(9, true)], [(9, true)], [(9, true)], [(9, true)], [], [], [(15, true)], [(15, true)], [], [], [(19, true)], [(19, true)], [(19, true)], [(19, true)], [], [], [(25, true)], [(25, true)], [(25, true)], [], []] [] [6] mixed rfl rfl (by kernel_rfl) ?_ -- region 1
  refine RunR.move rfl rfl rfl ?_
  refine RunR.int rfl rfl rfl rfl rfl ?_
  refine RunR.move rfl rfl rfl ?_
  refine RunR.move rfl rfl rfl ?_
  refine RunR.fieldAddr fo24_0 rfl rfl rfl rfl rfl ?_
  refine RunR.load1 tk3 rfl rfl rfl rfl ?_
  refine RunR.int rfl rfl rfl rfl rfl ?_
  refine RunR.pickAnd rfl rfl rfl rfl ?_
  refine RunR.move rfl rfl rfl ?_
  refine RunR.move rfl rfl rfl ?_
  refine RunR.int rfl rfl rfl rfl rfl ?_
  refine RunR.pickAnd rfl rfl rfl rfl ?_
  refine RunR.move rfl rfl rfl ?_
  refine RunR.move rfl rfl rfl ?_
  refine RunR.fieldAddr fo24_0 rfl rfl rfl rfl rfl ?_
  refine RunR.load1 tk3 rfl rfl rfl rfl ?_
  refine RunR.int rfl rfl rfl rfl rfl ?_
  refine RunR.pickAnd rfl rfl rfl rfl ?_
  refine RunR.move rfl rfl rfl ?_
  refine RunR.move rfl rfl rfl ?_
  refine RunR.move rfl rfl rfl ?_
  refine RunR.int rfl rfl rfl rfl rfl ?_
  refine RunR.pickAnd rfl rfl rfl rfl ?_
  refine RunR.assign rfl rfl rfl ?_
  refine RunR.doneQ (.cons rfl .nil) ?_
  refine Wp.ret ?_
  obtain rfl := Option.some.inj h
  exact Ret.one rfl (resV_tmp rfl) rfl
theorem c_narthexref03_nodes (N : Nat) (a0 : TGraph) (a1 : Int) (a2 : Int) (r : Bool) (h : narthexref03_nodes N a0 a1 a2 = some r) (H : List Ob) : DCall Try.prog 30 [.agg (eGraph a0), .c (I a1), .c (I a2)] H (.c (B r)) := DCall.lift (by first | rfl | simp [-List.map_set]) (by first | rfl | simp [-List.map_set]) (fun _ => by simp [-List.map_set]) (w_narthexref03_nodes N a0 a1 a2 r h) H
-- narthex/narthexref03.Has
theorem w_narthexref03_Has (N : Nat) (a0 : TGraph) (a1 : Int) (a2 : Int) (r : Bool) (h : narthexref03_Has N a0 a1 a2 = some r) : Nx.Call Try.prog 31 [.agg (eGraph a0), .c (I a1), .c (I a2)] [] fun r' _ => r' = .c (B r) := by
  refine Nx.Call.of_body Try.func31 rfl en31 Try.ntmps31 rfl (fun Γ hok => ?_)
  unfold narthexref03_Has at h
  refine Wp.seq ?_
  refine Wp.text [1, 2, 3] rfl rfl ?_ -- region 0
  refine TextR.box (cs := [I a0.N, .slv (a0.Edges.map eEdge)]) 0 rfl rfl rfl rfl .nil ?_
  refine TextR.assign rfl ?_
  refine TextR.done (.cons rfl (.cons rfl (.cons rfl .nil))) ?_
  refine Wp.seq ?_
  refine Wp.seq ?_
  refine Wp.text [1, 2, 3, 7] rfl rfl ?_ -- region 1
  refine TextR.assign rfl ?_
  refine TextR.done (.cons rfl (.cons rfl (.cons rfl (.cons rfl .nil)))) ?_
  obtain ⟨z1, hz1, h⟩ := bind_some h
  refine Wp.fragR (fun S => ∃ z3, z1 = .inr z3 ∧ ∃ S', St.Weak ⟨Try.prog, 53, Γ⟩ S S' ∧ S' = ⟨[], []⟩) (fun S => ∃ v, z1 = .inl v ∧ Ret Try.prog Try.f31 (fun r' _ => r' = .c (B v)) .ret S) ?_ ?_ ?_
  · replace h := hz1
    refine Wp.block ?_
    refine Wp.weak (keepW (live := [1, 2, 3, 7]) (.cons rfl (.cons rfl (.cons rfl (.cons rfl .nil))))) ?_
    refine Wp.loop (fun m S => ∃ s7_1, narthexref03_Has_L1 N a0 a1 a2 m s7_1 = some z1 ∧ S = ⟨[(1, .c (I a1)), (2, .c (I a2)), (3, .c (.ptr 0 0 0 0)), (7, .c (I s7_1))], [.live 0 2 [[I a0.N, .slv (a0.Edges.map eEdge)]]]⟩) N ⟨_, h, rfl⟩ ?_
    rintro m1 _ ⟨s7_1, h, rfl⟩
    cases m1 with
    | zero => rw [narthexref03_Has_L1.eq_1] at h; cases h
    | succ m1 =>
    rw [narthexref03_Has_L1.eq_2] at h
    refine Wp.seq ?_
    refine Wp.seq ?_
    refine Wp.text [1, 2, 3, 7, 13] rfl rfl ?_ -- region 2
    refine TextR.move rfl ?_
    refine TextR.fieldAddr fo24_1 rfl rfl rfl ?_
    refine TextR.load1 tk22 rfl rfl ?_
    refine TextR.lenM us22 rfl rfl ?_
    refine TextR.int rfl rfl rfl ?_
    refine TextR.done (.cons rfl (.cons rfl (.cons rfl (.cons rfl (.cons rfl .nil))))) ?_
    refine Wp.condM h rfl (fun hc2 h => ?_) (fun hc2 h => ?_)
    · refine Wp.skip ?_
      refine Wp.seq ?_
      refine Wp.block ?_
      refine Wp.seq ?_
      obtain ⟨x4, hx4, h⟩ := bind_some h
      refine Wp.text [1, 2, 3, 7, 8] rfl rfl ?_ -- region 4
      refine TextR.fieldAddr fo24_1 rfl rfl rfl ?_
      refine TextR.load1 tk22 rfl rfl ?_
      refine TextR.move rfl ?_
      refine TextR.indexA se22 rfl rfl rfl hx4 rfl ?_
      refine TextR.loadNM tk37 rfl (at_get hx4) rfl ?_
      refine TextR.alloc 1 zc37 rfl rfl (.cons .nil) ?_
      refine TextR.store1 tk37 rfl rfl rfl rfl rfl rfl (.succ .zero) ?_
      refine TextR.done (.cons rfl (.cons rfl (.cons rfl (.cons rfl (.cons rfl .nil))))) ?_
      refine Wp.seq ?_
      refine Wp.go false none [[], [], [], [], [], [(25, true)], [(25, true)], [(25, true)], [(25, true)], [], [], [(31, true)], [(31, true)], [(31, true)], [], [], [(36, false)], [(36, false)], [(36, false)], [(36, false)], [(36, false)], [(41, true), (36, false)], [(41, true), (36, false)], [(41, true), (36, false)], [(41, true), (36, false)], [(36, false)], [(36, false)], [(47, true), (36, false)], [(47, true), (36, false)], [(47, true), (36, false)], [(36, false)], []] [] [1, 2, 3, 7, 52] mixed rfl rfl (by kernel_rfl) ?_ -- region 5
      refine RunR.fieldAddr fo37_0 rfl rfl rfl rfl rfl ?_
      refine RunR.load1 tk3 rfl rfl rfl rfl ?_
      refine RunR.move rfl rfl rfl ?_
      refine RunR.int rfl rfl rfl rfl rfl ?_
      refine RunR.move rfl rfl rfl ?_
      refine RunR.fieldAddr fo37_1 rfl rfl rfl rfl rfl ?_
      refine RunR.load1 tk3 rfl rfl rfl rfl ?_
      refine RunR.move rfl rfl rfl ?_
      refine RunR.int rfl rfl rfl rfl rfl ?_
      refine RunR.pickAnd rfl rfl rfl rfl ?_
      refine RunR.move rfl rfl rfl ?_
      refine RunR.move rfl rfl rfl ?_
      refine RunR.move rfl rfl rfl ?_
      refine RunR.int rfl rfl rfl rfl rfl ?_
      refine RunR.pickAnd rfl rfl rfl rfl ?_
      refine RunR.move rfl rfl rfl ?_
      refine RunR.fieldAddr fo37_0 rfl rfl rfl rfl rfl ?_
      refine RunR.load1 tk3 rfl rfl rfl rfl ?_
      refine RunR.move rfl rfl rfl ?_
      refine RunR.int rfl rfl rfl rfl rfl ?_
      refine RunR.move rfl rfl rfl ?_
      refine RunR.fieldAddr fo37_1 rfl rfl rfl rfl rfl ?_
      refine RunR.load1 tk3 rfl rfl rfl rfl ?_
      refine RunR.move rfl rfl rfl ?_
      refine RunR.int rfl rfl rfl rfl rfl ?_
      refine RunR.pickAnd rfl rfl rfl rfl ?_
      refine RunR.move rfl rfl rfl ?_
      refine RunR.move rfl rfl rfl ?_
      refine RunR.move rfl rfl rfl ?_
      refine RunR.int rfl rfl rfl rfl rfl ?_
      refine RunR.pickAnd rfl rfl rfl rfl ?_
      refine RunR.pickOr rfl rfl rfl rfl ?_
      refine RunR.doneQ (.cons rfl (.cons rfl (.cons rfl (.cons rfl (.cons rfl .nil))))) ?_
      refine Wp.condM h rfl (fun hc3 h => ?_) (fun hc3 h => ?_)
      · refine Wp.seq ?_
        refine Wp.text [6] rfl rfl ?_ -- region 6
        refine TextR.assign rfl ?_
        refine TextR.done (.cons rfl .nil) ?_
        refine Wp.ret ?_
        exact ⟨_, (Option.some.inj h).symm, Ret.one rfl (resV_tmp rfl) rfl⟩
      · refine Wp.skip ?_
        refine Wp.text [1, 2, 3, 7] rfl rfl ?_ -- region 3
        refine TextR.move rfl ?_
        refine TextR.int rfl rfl rfl ?_
        refine TextR.assign rfl ?_
        refine TextR.done (.cons rfl (.cons rfl (.cons rfl (.cons rfl .nil)))) ?_
        exact ⟨m1, Nat.lt_succ_self _, _, (St.Weak.trans (keepW (live := [1, 2, 3, 7]) (.cons rfl (.cons rfl (.cons rfl (.cons rfl .nil))))) (pickT (e' := [(1, .c (I a1)), (2, .c (I a2)), (3, .c (.ptr 0 0 0 0)), (7, .c (I (w64 (s7_1 + 1))))]) (H' := [.live 0 2 [[I a0.N, .slv (a0.Edges.map eEdge)]]]) [0] [0, 0] 0 hok.len.symm rfl rfl (by decide) (by first | rfl | simp [-List.map_set]) (by first | rfl | simp [-List.map_set]) (by first | rfl | simp [-List.map_set]) (by first | rfl | simp [-List.map_set]))), _, h, rfl⟩
    · refine Wp.exit ?_
      exact ⟨_, (Option.some.inj h).symm, _, (St.Weak.trans (keepW (live := []) .nil) (pickT (e' := []) (H' := []) [] [0] 0 hok.len.symm rfl rfl (by decide) (by first | rfl | simp [-List.map_set]) (by first | rfl | simp [-List.map_set]) (by first | rfl | simp [-List.map_set]) (by first | rfl | simp [-List.map_set]))), rfl⟩
  · rintro _ ⟨z3, rfl, _, hw, rfl⟩
    dsimp only at h
    clear hz1
    refine Wp.weak hw ?_
    refine Wp.seq ?_
    refine Wp.text [6] rfl rfl ?_ -- region 7
    refine TextR.assign rfl ?_
    refine TextR.done (.cons rfl .nil) ?_
    refine Wp.ret ?_
    obtain rfl := Option.some.inj h
    exact Ret.one rfl (resV_tmp rfl) rfl
  · rintro S' ⟨r2, rfl, hR⟩
    dsimp only at h
    obtain rfl := Option.some.inj h
    exact hR
theorem c_narthexref03_Has (N : Nat) (a0 : TGraph) (a1 : Int) (a2 : Int) (r : Bool) (h : narthexref03_Has N a0 a1 a2 = some r) (H : List Ob) : DCall Try.prog 31 [.agg (eGraph a0), .c (I a1), .c (I a2)] H (.c (B r)) := DCall.lift (by first | rfl | simp [-List.map_set]) (by first | rfl | simp [-List.map_set]) (fun _ => by simp [-List.map_set]) (w_narthexref03_Has N a0 a1 a2 r h) H
-- narthex/narthexref03.Add
theorem w_narthexref03_Add (N : Nat) (a0 : TGraph) (a1 : Int) (a2 : Int) (r : TGraph × Int) (h : narthexref03_Add N a0 a1 a2 = some r) : Nx.Call Try.prog 11 [.agg (eGraph a0), .c (I a1), .c (I a2)] [] fun r' _ => r' = .tup [.agg (eGraph r.1), .c (I r.2)] := by
  refine Nx.Call.of_body Try.func11 rfl en11 Try.ntmps11 rfl (fun Γ hok => ?_)
  unfold narthexref03_Add at h
  refine Wp.seq ?_
  refine Wp.text [1, 2, 3, 6] rfl rfl ?_ -- region 0
  refine TextR.box (cs := [I a0.N, .slv (a0.Edges.map eEdge)]) 0 rfl rfl rfl rfl .nil ?_
  refine TextR.alloc 1 zc24 rfl rfl (.cons .nil) ?_
  refine TextR.assign rfl ?_
  refine TextR.done (.cons rfl (.cons rfl (.cons rfl (.cons rfl .nil)))) ?_
  refine Wp.seq ?_
  refine Wp.seq ?_
  obtain ⟨y1, hy1, h⟩ := bind_some h
  refine Wp.text [1, 2, 3, 6, 14] rfl rfl ?_ -- region 1
  refine TextR.loadN (cs := [I a0.N, .slv (a0.Edges.map eEdge)]) tk24 rfl rfl ?_
  refine TextR.dcall rfl rfl (c_narthexref03_Check N a0 y1 hy1 _) ?_
  refine TextR.not rfl ?_
  refine TextR.done (.cons rfl (.cons rfl (.cons rfl (.cons rfl (.cons rfl .nil))))) ?_
  refine Wp.condM h rfl (fun hc1 h => ?_) (fun hc1 h => ?_)
  · refine Wp.seq ?_
    refine Wp.text [6, 7] rfl rfl ?_ -- region 2
    refine TextR.build cm24 rfl ?_
    refine TextR.store1 tk24 rfl rfl rfl rfl rfl rfl (.succ .zero) ?_
    refine TextR.assign rfl ?_
    refine TextR.done (.cons rfl (.cons rfl .nil)) ?_
    refine Wp.weak (keepW (live := [6, 7] ) (.cons rfl (.cons rfl .nil))) ?_
    refine Wp.weak (nzT (e' := [(6, .c (.ptr 1 0 0 0)), (7, .c (I 30))]) (H' := [.live 0 2 [[I a0.N, .slv (a0.Edges.map eEdge)]], .live 0 2 [[I 0, .slv ([].map eEdge)]]]) (by first | rfl | simp [-List.map_set]) (by first | rfl | simp [-List.map_set])) ?_
    refine Wp.ret ?_
    obtain rfl := Option.some.inj h
    exact Ret.two rfl (resV_cellN tk24 rfl rfl) (resV_tmp rfl) rfl
  · refine Wp.skip ?_
    refine Wp.seq ?_
    refine Wp.seq ?_
    obtain ⟨y2, hy2, h⟩ := bind_some h
    refine Wp.text [1, 2, 3, 6, 20] rfl rfl ?_ -- region 3
    refine TextR.loadN (cs := [I a0.N, .slv (a0.Edges.map eEdge)]) tk24 rfl rfl ?_
    refine TextR.move rfl ?_
    refine TextR.move rfl ?_
    refine TextR.dcall rfl rfl (c_narthexref03_nodes N a0 a1 a2 y2 hy2 _) ?_
    refine TextR.not rfl ?_
    refine TextR.done (.cons rfl (.cons rfl (.cons rfl (.cons rfl (.cons rfl .nil))))) ?_
    refine Wp.condM h rfl (fun hc2 h => ?_) (fun hc2 h => ?_)
    · refine Wp.seq ?_
      refine Wp.text [6, 7] rfl rfl ?_ -- region 4
      refine TextR.build cm24 rfl ?_
      refine TextR.store1 tk24 rfl rfl rfl rfl rfl rfl (.succ .zero) ?_
      refine TextR.assign rfl ?_
      refine TextR.done (.cons rfl (.cons rfl .nil)) ?_
      refine Wp.weak (keepW (live := [6, 7] ) (.cons rfl (.cons rfl .nil))) ?_
      refine Wp.weak (nzT (e' := [(6, .c (.ptr 1 0 0 0)), (7, .c (I 31))]) (H' := [.live 0 2 [[I a0.N, .slv (a0.Edges.map eEdge)]], .live 0 2 [[I 0, .slv ([].map eEdge)]]]) (by first | rfl | simp [-List.map_set]) (by first | rfl | simp [-List.map_set])) ?_
      refine Wp.ret ?_
      obtain rfl := Option.some.inj h
      exact Ret.two rfl (resV_cellN tk24 rfl rfl) (resV_tmp rfl) rfl
    · refine Wp.skip ?_
      refine Wp.seq ?_
      refine Wp.seq ?_
      obtain ⟨y3, hy3, h⟩ := bind_some h
      refine Wp.text [1, 2, 3, 6, 25] rfl rfl ?_ -- region 5
      refine TextR.loadN (cs := [I a0.N, .slv (a0.Edges.map eEdge)]) tk24 rfl rfl ?_
      refine TextR.move rfl ?_
      refine TextR.move rfl ?_
      refine TextR.dcall rfl rfl (c_narthexref03_Has N a0 a1 a2 y3 hy3 _) ?_
      refine TextR.done (.cons rfl (.cons rfl (.cons rfl (.cons rfl (.cons rfl .nil))))) ?_
      refine Wp.condM h rfl (fun hc3 h => ?_) (fun hc3 h => ?_)
      · refine Wp.seq ?_
        refine Wp.text [6, 7] rfl rfl ?_ -- region 6
        refine TextR.build cm24 rfl ?_
        refine TextR.store1 tk24 rfl rfl rfl rfl rfl rfl (.succ .zero) ?_
        refine TextR.assign rfl ?_
        refine TextR.done (.cons rfl (.cons rfl .nil)) ?_
        refine Wp.weak (keepW (live := [6, 7] ) (.cons rfl (.cons rfl .nil))) ?_
        refine Wp.weak (nzT (e' := [(6, .c (.ptr 1 0 0 0)), (7, .c (I 32))]) (H' := [.live 0 2 [[I a0.N, .slv (a0.Edges.map eEdge)]], .live 0 2 [[I 0, .slv ([].map eEdge)]]]) (by first | rfl | simp [-List.map_set]) (by first | rfl | simp [-List.map_set])) ?_
        refine Wp.ret ?_
        obtain rfl := Option.some.inj h
        exact Ret.two rfl (resV_cellN tk24 rfl rfl) (resV_tmp rfl) rfl
      · refine Wp.skip ?_
        refine Wp.seq ?_
        refine Wp.seq ?_
        refine Wp.text [1, 2, 3, 6, 30] rfl rfl ?_ -- region 7
        refine TextR.fieldAddr fo24_1 rfl rfl rfl ?_
        refine TextR.load1 tk22 rfl rfl ?_
        refine TextR.lenM us22 rfl rfl ?_
        refine TextR.int rfl rfl rfl ?_
        refine TextR.done (.cons rfl (.cons rfl (.cons rfl (.cons rfl (.cons rfl .nil))))) ?_
        refine Wp.condM h rfl (fun hc4 h => ?_) (fun hc4 h => ?_)
        · refine Wp.seq ?_
          refine Wp.text [6, 7] rfl rfl ?_ -- region 8
          refine TextR.build cm24 rfl ?_
          refine TextR.store1 tk24 rfl rfl rfl rfl rfl rfl (.succ .zero) ?_
          refine TextR.assign rfl ?_
          refine TextR.done (.cons rfl (.cons rfl .nil)) ?_
          refine Wp.weak (keepW (live := [6, 7] ) (.cons rfl (.cons rfl .nil))) ?_
          refine Wp.weak (nzT (e' := [(6, .c (.ptr 1 0 0 0)), (7, .c (I 30))]) (H' := [.live 0 2 [[I a0.N, .slv (a0.Edges.map eEdge)]], .live 0 2 [[I 0, .slv ([].map eEdge)]]]) (by first | rfl | simp [-List.map_set]) (by first | rfl | simp [-List.map_set])) ?_
          refine Wp.ret ?_
          obtain rfl := Option.some.inj h
          exact Ret.two rfl (resV_cellN tk24 rfl rfl) (resV_tmp rfl) rfl
        · refine Wp.skip ?_
          refine Wp.seq ?_
          refine Wp.text [3, 6, 8] rfl rfl ?_ -- region 9
          refine TextR.move rfl ?_
          refine TextR.move rfl ?_
          refine TextR.minmax (.inl rfl) rfl ?_
          refine TextR.move rfl ?_
          refine TextR.move rfl ?_
          refine TextR.minmax (.inr rfl) rfl ?_
          refine TextR.build cm37 rfl ?_
          refine TextR.alloc 2 zc37 rfl rfl (.cons (.cons .nil)) ?_
          refine TextR.store1 tk37 rfl rfl rfl rfl rfl rfl (.succ (.succ .zero)) ?_
          refine TextR.done (.cons rfl (.cons rfl (.cons rfl .nil))) ?_
          refine Wp.seq ?_
          refine Wp.text [3, 6, 8, 9, 10] rfl rfl ?_ -- region 10
          refine TextR.fieldAddr fo24_0 rfl rfl rfl ?_
          refine TextR.load1 tk3 rfl rfl ?_
          refine TextR.build cm24 rfl ?_
          refine TextR.alloc 3 zc24 rfl rfl (.cons (.cons (.cons .nil))) ?_
          refine TextR.store1 tk24 rfl rfl rfl rfl rfl rfl (.succ (.succ (.succ .zero))) ?_
          refine TextR.assign rfl ?_
          refine TextR.done (.cons rfl (.cons rfl (.cons rfl (.cons rfl (.cons rfl .nil))))) ?_
          refine Wp.seq ?_
          refine Wp.seq ?_
          refine Wp.text [3, 6, 8, 9, 10, 11] rfl rfl ?_ -- region 11
          refine TextR.assign rfl ?_
          refine TextR.done (.cons rfl (.cons rfl (.cons rfl (.cons rfl (.cons rfl (.cons rfl .nil)))))) ?_
          obtain ⟨z4, hz4, h⟩ := bind_some h
          refine Wp.fragN (fun S => ∃ wz4_3, ∃ S', St.Weak ⟨Try.prog, 85, Γ⟩ S S' ∧ S' = ⟨[(6, .c (.ptr 0 0 0 0)), (8, .c (.ptr 1 0 0 0)), (9, .c (.ptr 2 0 0 0)), (10, .c (B z4.2))], [.live 0 2 [[I 0, nilS]], .live 0 2 [[I (min a1 a2), I (max a1 a2)]], .live 0 2 [[I a0.N, .sl 3 wz4_3 0 z4.1.length]], .live wz4_3 2 (z4.1.map eEdge)]⟩) ?_ ?_
          · replace h := hz4
            refine Wp.block ?_
            refine Wp.weak (St.Weak.trans (keepW (live := [3, 6, 8, 9, 10, 11]) (.cons rfl (.cons rfl (.cons rfl (.cons rfl (.cons rfl (.cons rfl .nil))))))) (St.Weak.trans (nilCellW (H := [.live 0 2 [[I a0.N, .slv (a0.Edges.map eEdge)]], .live 0 2 [[I 0, nilS]], .live 0 2 [[I (min a1 a2), I (max a1 a2)]], .live 0 2 [[I a0.N, nilS]]]) (ver := 0) (g := 3) (i := 0) (k := 1) 2 4 rfl rfl rfl rfl rfl (.cons (.cons (.cons (.cons .nil)))) (.succ (.succ (.succ .zero)))) (keepW (live := [3, 6, 8, 9, 10, 11]) (.cons rfl (.cons rfl (.cons rfl (.cons rfl (.cons rfl (.cons rfl .nil))))))))) ?_
            refine Wp.loop (fun m S => ∃ l4_1, ∃ s10_1, ∃ s11_1, ∃ wh4_1, narthexref03_Add_L1 N a0 a1 a2 m l4_1 s10_1 s11_1 = some z4 ∧ S = ⟨[(3, .c (.ptr 0 0 0 0)), (6, .c (.ptr 1 0 0 0)), (8, .c (.ptr 2 0 0 0)), (9, .c (.ptr 3 0 0 0)), (10, .c (B s10_1)), (11, .c (I s11_1))], [.live 0 2 [[I a0.N, .slv (a0.Edges.map eEdge)]], .live 0 2 [[I 0, nilS]], .live 0 2 [[I (min a1 a2), I (max a1 a2)]], .live 0 2 [[I a0.N, .sl 4 wh4_1 0 l4_1.length]], .live wh4_1 2 (l4_1.map eEdge)]⟩) N ⟨_, _, _, _, h, rfl⟩ ?_
            rintro m1 _ ⟨l4_1, s10_1, s11_1, wh4_1, h, rfl⟩
            cases m1 with
            | zero => rw [narthexref03_Add_L1.eq_1] at h; cases h
            | succ m1 =>
            rw [narthexref03_Add_L1.eq_2] at h
            refine Wp.seq ?_
            refine Wp.seq ?_
            refine Wp.text [3, 6, 8, 9, 10, 11, 46] rfl rfl ?_ -- region 12
            refine TextR.move rfl ?_
            refine TextR.fieldAddr fo24_1 rfl rfl rfl ?_
            refine TextR.load1 tk22 rfl rfl ?_
            refine TextR.lenM us22 rfl rfl ?_
            refine TextR.int rfl rfl rfl ?_
            refine TextR.done (.cons rfl (.cons rfl (.cons rfl (.cons rfl (.cons rfl (.cons rfl (.cons rfl .nil))))))) ?_
            refine Wp.condM h rfl (fun hc6 h => ?_) (fun hc6 h => ?_)
            · refine Wp.skip ?_
              refine Wp.seq ?_
              refine Wp.block ?_
              refine Wp.seq ?_
              refine Wp.seq ?_
              obtain ⟨x5, hx5, h⟩ := bind_some h
              obtain ⟨y6, hy6, h⟩ := bind_some h
              refine Wp.go true (some ⟨[], []⟩) [[], [], [], [(51, true)], [(51, true)], [(51, true)], [(51, true)], [(51, true)], [(51, true)], [(51, true)], []] [] [3, 6, 8, 9, 10, 11, 59] mixed rfl rfl (by kernel_rfl) ?_ -- region 14
              refine RunR.move rfl rfl rfl ?_
              refine RunR.not rfl rfl rfl ?_
              refine RunR.move rfl rfl rfl ?_
              refine RunR.loadN (cs := [I (min a1 a2), I (max a1 a2)]) tk37 rfl rfl rfl rfl ?_
              refine RunR.fieldAddr fo24_1 rfl rfl rfl rfl rfl ?_
              refine RunR.load1 tk22 rfl rfl rfl rfl ?_
              refine RunR.move rfl rfl rfl ?_
              refine RunR.indexAG se22 rfl rfl rfl rfl rfl (ifPos hx5 gT) (ifAt hx5 gT) rfl ?_
              refine RunR.loadNG tk37 rfl rfl rfl (ifAt hx5 gT) rfl ?_
              refine RunR.callG rfl rfl rfl (fun hb H => c_narthexref03_ahead N (⟨min a1 a2, max a1 a2⟩ : TEdge) x5 y6 (ifT hy6 gT hb) H) ?_
              refine RunR.pickAnd rfl rfl rfl rfl ?_
              refine RunR.doneQ (.cons rfl (.cons rfl (.cons rfl (.cons rfl (.cons rfl (.cons rfl (.cons rfl .nil))))))) ?_
              refine Wp.condM h rfl (fun hc7 h => ?_) (fun hc7 h => ?_)
              · obtain ⟨x7, hx7, h⟩ := bind_some h
                refine Wp.text [3, 6, 8, 9, 10, 11] rfl rfl ?_ -- region 15
                refine TextR.fieldAddr fo24_1 rfl rfl rfl ?_
                refine TextR.load1 tk22 rfl rfl ?_
                refine TextR.loadN (cs := [I (min a1 a2), I (max a1 a2)]) tk37 rfl rfl ?_
                refine TextR.buildSlice (rows := [(⟨min a1 a2, max a1 a2⟩ : TEdge)].map eEdge) 5 se22 rfl rfl rfl (.cons (.cons (.cons (.cons (.cons .nil))))) ?_
                refine TextR.appendM eEdge l4_1 [(⟨min a1 a2, max a1 a2⟩ : TEdge)] x7 (app_eq hx7) se22 rfl (obj_of rfl) rfl (view_whole (f := eEdge) (xs := [(⟨min a1 a2, max a1 a2⟩ : TEdge)]) rfl) (fun _ => rfl) rfl (app_len hx7) (.succ (.succ (.succ (.succ .zero)))) ?_
                refine TextR.fieldAddr fo24_1 rfl rfl rfl ?_
                refine TextR.storeF (r' := [I a0.N, .sl 4 (wh4_1 + 1) 0 x7.length]) tk22 rfl rfl rfl rfl rfl rfl rfl (.succ (.succ (.succ .zero))) ?_
                refine TextR.assign rfl ?_
                refine TextR.done (.cons rfl (.cons rfl (.cons rfl (.cons rfl (.cons rfl (.cons rfl .nil)))))) ?_
                obtain ⟨x8, hx8, h⟩ := bind_some h
                obtain ⟨x9, hx9, h⟩ := bind_some h
                refine Wp.go true (some ⟨[6], []⟩) [] [true, true, false, false, false, false, false, false, true, false, true] [3, 6, 8, 9, 10, 11] mixed rfl rfl (by kernel_rfl) ?_ -- region 16
                refine RunR.fieldAddr fo24_1 rfl rfl rfl rfl rfl ?_
                refine RunR.load1 tk22 rfl rfl rfl rfl ?_
                refine RunR.fieldAddr fo24_1 rfl rfl rfl rfl rfl ?_
                refine RunR.load1 tk22 rfl rfl rfl rfl ?_
                refine RunR.move rfl rfl rfl ?_
                refine RunR.indexA se22 rfl rfl rfl rfl rfl hx8 rfl ?_
                refine RunR.loadNM tk37 rfl rfl rfl (at_get hx8) rfl ?_
                refine RunR.buildSlice (rows := [x8].map eEdge) 6 se22 rfl rfl rfl rfl rfl (.cons (.cons (.cons (.cons (.cons (.cons .nil)))))) ?_
                refine RunR.appendM eEdge x7 [x8] x9 (app_eq hx9) se22 rfl rfl rfl (obj_of rfl) rfl (view_whole (f := eEdge) (xs := [x8]) rfl) (fun _ => rfl) rfl (app_len hx9) (.succ (.succ (.succ (.succ .zero)))) ?_
                refine RunR.fieldAddr fo24_1 rfl rfl rfl rfl rfl ?_
                refine RunR.storeF (r' := [I a0.N, .sl 4 ((wh4_1 + 1) + 1) 0 x9.length]) tk22 rfl rfl rfl rfl rfl rfl rfl rfl rfl (.succ (.succ (.succ .zero))) ?_
                refine RunR.doneQ (.cons rfl (.cons rfl (.cons rfl (.cons rfl (.cons rfl (.cons rfl .nil)))))) ?_
                refine Wp.text [3, 6, 8, 9, 10, 11] rfl rfl ?_ -- region 13
                refine TextR.move rfl ?_
                refine TextR.int rfl rfl rfl ?_
                refine TextR.assign rfl ?_
                refine TextR.done (.cons rfl (.cons rfl (.cons rfl (.cons rfl (.cons rfl (.cons rfl .nil)))))) ?_
                exact ⟨m1, Nat.lt_succ_self _, _, (St.Weak.trans (keepW (live := [3, 6, 8, 9, 10, 11]) (.cons rfl (.cons rfl (.cons rfl (.cons rfl (.cons rfl (.cons rfl .nil))))))) (pickT (e' := [(3, .c (.ptr 0 0 0 0)), (6, .c (.ptr 1 0 0 0)), (8, .c (.ptr 2 0 0 0)), (9, .c (.ptr 3 0 0 0)), (10, .c (B true)), (11, .c (I (w64 (s11_1 + 1))))]) (H' := [.live 0 2 [[I a0.N, .slv (a0.Edges.map eEdge)]], .live 0 2 [[I 0, nilS]], .live 0 2 [[I (min a1 a2), I (max a1 a2)]], .live 0 2 [[I a0.N, .sl 4 ((wh4_1 + 1) + 1) 0 x9.length]], .live ((wh4_1 + 1) + 1) 2 (x9.map eEdge)]) [0, 1, 2, 3, 4] [0, 1, 2, 3, 4, 0, 0] 0 hok.len.symm rfl rfl (by decide) (by first | rfl | simp [-List.map_set]) (by first | rfl | simp [-List.map_set]) (by first | rfl | simp [-List.map_set]) (by first | rfl | simp [-List.map_set]))), _, _, _, _, h, rfl⟩
              · refine Wp.skip ?_
                obtain ⟨x10, hx10, h⟩ := bind_some h
                obtain ⟨x11, hx11, h⟩ := bind_some h
                refine Wp.go true (some ⟨[5], []⟩) [] [true, true, false, false, false, false, false, false, true, false, true] [3, 6, 8, 9, 10, 11] mixed rfl rfl (by kernel_rfl) ?_ -- region 16
                refine RunR.fieldAddr fo24_1 rfl rfl rfl rfl rfl ?_
                refine RunR.load1 tk22 rfl rfl rfl rfl ?_
                refine RunR.fieldAddr fo24_1 rfl rfl rfl rfl rfl ?_
                refine RunR.load1 tk22 rfl rfl rfl rfl ?_
                refine RunR.move rfl rfl rfl ?_
                refine RunR.indexA se22 rfl rfl rfl rfl rfl hx10 rfl ?_
                refine RunR.loadNM tk37 rfl rfl rfl (at_get hx10) rfl ?_
                refine RunR.buildSlice (rows := [x10].map eEdge) 5 se22 rfl rfl rfl rfl rfl (.cons (.cons (.cons (.cons (.cons .nil))))) ?_
                refine RunR.appendM eEdge l4_1 [x10] x11 (app_eq hx11) se22 rfl rfl rfl (obj_of rfl) rfl (view_whole (f := eEdge) (xs := [x10]) rfl) (fun _ => rfl) rfl (app_len hx11) (.succ (.succ (.succ (.succ .zero)))) ?_
                refine RunR.fieldAddr fo24_1 rfl rfl rfl rfl rfl ?_
                refine RunR.storeF (r' := [I a0.N, .sl 4 (wh4_1 + 1) 0 x11.length]) tk22 rfl rfl rfl rfl rfl rfl rfl rfl rfl (.succ (.succ (.succ .zero))) ?_
                refine RunR.doneQ (.cons rfl (.cons rfl (.cons rfl (.cons rfl (.cons rfl (.cons rfl .nil)))))) ?_
                refine Wp.text [3, 6, 8, 9, 10, 11] rfl rfl ?_ -- region 13
                refine TextR.move rfl ?_
                refine TextR.int rfl rfl rfl ?_
                refine TextR.assign rfl ?_
                refine TextR.done (.cons rfl (.cons rfl (.cons rfl (.cons rfl (.cons rfl (.cons rfl .nil)))))) ?_
                exact ⟨m1, Nat.lt_succ_self _, _, (St.Weak.trans (keepW (live := [3, 6, 8, 9, 10, 11]) (.cons rfl (.cons rfl (.cons rfl (.cons rfl (.cons rfl (.cons rfl .nil))))))) (pickT (e' := [(3, .c (.ptr 0 0 0 0)), (6, .c (.ptr 1 0 0 0)), (8, .c (.ptr 2 0 0 0)), (9, .c (.ptr 3 0 0 0)), (10, .c (B s10_1)), (11, .c (I (w64 (s11_1 + 1))))]) (H' := [.live 0 2 [[I a0.N, .slv (a0.Edges.map eEdge)]], .live 0 2 [[I 0, nilS]], .live 0 2 [[I (min a1 a2), I (max a1 a2)]], .live 0 2 [[I a0.N, .sl 4 (wh4_1 + 1) 0 x11.length]], .live (wh4_1 + 1) 2 (x11.map eEdge)]) [0, 1, 2, 3, 4] [0, 1, 2, 3, 4, 0] 0 hok.len.symm rfl rfl (by decide) (by first | rfl | simp [-List.map_set]) (by first | rfl | simp [-List.map_set]) (by first | rfl | simp [-List.map_set]) (by first | rfl | simp [-List.map_set]))), _, _, _, _, h, rfl⟩
            · refine Wp.exit ?_
              obtain rfl := Option.some.inj h
              exact ⟨_, _, (St.Weak.trans (keepW (live := [6, 8, 9, 10]) (.cons rfl (.cons rfl (.cons rfl (.cons rfl .nil))))) (pickT (e' := [(6, .c (.ptr 0 0 0 0)), (8, .c (.ptr 1 0 0 0)), (9, .c (.ptr 2 0 0 0)), (10, .c (B s10_1))]) (H' := [.live 0 2 [[I 0, nilS]], .live 0 2 [[I (min a1 a2), I (max a1 a2)]], .live 0 2 [[I a0.N, .sl 3 wh4_1 0 l4_1.length]], .live wh4_1 2 (l4_1.map eEdge)]) [1, 2, 3, 4] [0, 0, 1, 2, 3] 0 hok.len.symm rfl rfl (by decide) (by first | rfl | simp [-List.map_set]) (by first | rfl | simp [-List.map_set]) (by first | rfl | simp [-List.map_set]) (by first | rfl | simp [-List.map_set]))), rfl⟩
          rintro _ ⟨wz4_3, S', hw, rfl⟩
          clear hz4
          refine Wp.weak hw ?_
          refine Wp.seq ?_
          refine Wp.seq ?_
          refine Wp.text [6, 8, 9, 77] rfl rfl ?_ -- region 17
          refine TextR.move rfl ?_
          refine TextR.not rfl ?_
          refine TextR.done (.cons rfl (.cons rfl (.cons rfl (.cons rfl .nil)))) ?_
          refine Wp.condM h rfl (fun hc5 h => ?_) (fun hc5 h => ?_)
          · obtain ⟨x12, hx12, h⟩ := bind_some h
            refine Wp.text [6, 9] rfl rfl ?_ -- region 18
            refine TextR.fieldAddr fo24_1 rfl rfl rfl ?_
            refine TextR.load1 tk22 rfl rfl ?_
            refine TextR.loadN (cs := [I (min a1 a2), I (max a1 a2)]) tk37 rfl rfl ?_
            refine TextR.buildSlice (rows := [(⟨min a1 a2, max a1 a2⟩ : TEdge)].map eEdge) 4 se22 rfl rfl rfl (.cons (.cons (.cons (.cons .nil)))) ?_
            refine TextR.appendM eEdge z4.1 [(⟨min a1 a2, max a1 a2⟩ : TEdge)] x12 (app_eq hx12) se22 rfl (obj_of rfl) rfl (view_whole (f := eEdge) (xs := [(⟨min a1 a2, max a1 a2⟩ : TEdge)]) rfl) (fun _ => rfl) rfl (app_len hx12) (.succ (.succ (.succ .zero))) ?_
            refine TextR.fieldAddr fo24_1 rfl rfl rfl ?_
            refine TextR.storeF (r' := [I a0.N, .sl 3 (wz4_3 + 1) 0 x12.length]) tk22 rfl rfl rfl rfl rfl rfl rfl (.succ (.succ .zero)) ?_
            refine TextR.done (.cons rfl (.cons rfl .nil)) ?_
            refine Wp.seq ?_
            refine Wp.text [6, 7] rfl rfl ?_ -- region 19
            refine TextR.loadN (cs := [I a0.N, .sl 3 (wz4_3 + 1) 0 x12.length]) tk24 rfl rfl ?_
            refine TextR.store1 tk24 rfl rfl rfl rfl rfl rfl .zero ?_
            refine TextR.assign rfl ?_
            refine TextR.done (.cons rfl (.cons rfl .nil)) ?_
            refine Wp.weak (keepW (live := [6, 7] ) (.cons rfl (.cons rfl .nil))) ?_
            refine Wp.weak (freezeW (h := 3) (ver := (wz4_3 + 1)) (rows := x12.map eEdge) (e' := [(6, .c (.ptr 0 0 0 0)), (7, .c (I 0))]) (H' := [.live 0 2 [[I a0.N, .slv (x12.map eEdge)]], .live 0 2 [[I (min a1 a2), I (max a1 a2)]], .live 0 2 [[I a0.N, .slv (x12.map eEdge)]], .dead, .live 0 2 ([(⟨min a1 a2, max a1 a2⟩ : TEdge)].map eEdge)]) (obj_of rfl) (by first | rfl | simp [-List.map_set]) (by first | rfl | simp [-List.map_set])) ?_
            refine Wp.ret ?_
            obtain rfl := Option.some.inj h
            exact Ret.two rfl (resV_cellN tk24 rfl rfl) (resV_tmp rfl) rfl
          · refine Wp.skip ?_
            refine Wp.seq ?_
            refine Wp.text [6, 7] rfl rfl ?_ -- region 19
            refine TextR.loadN (cs := [I a0.N, .sl 3 wz4_3 0 z4.1.length]) tk24 rfl rfl ?_
            refine TextR.store1 tk24 rfl rfl rfl rfl rfl rfl .zero ?_
            refine TextR.assign rfl ?_
            refine TextR.done (.cons rfl (.cons rfl .nil)) ?_
            refine Wp.weak (keepW (live := [6, 7] ) (.cons rfl (.cons rfl .nil))) ?_
            refine Wp.weak (freezeW (h := 3) (ver := wz4_3) (rows := z4.1.map eEdge) (e' := [(6, .c (.ptr 0 0 0 0)), (7, .c (I 0))]) (H' := [.live 0 2 [[I a0.N, .slv (z4.1.map eEdge)]], .live 0 2 [[I (min a1 a2), I (max a1 a2)]], .live 0 2 [[I a0.N, .slv (z4.1.map eEdge)]], .dead]) (obj_of rfl) (by first | rfl | simp [-List.map_set]) (by first | rfl | simp [-List.map_set])) ?_
            refine Wp.ret ?_
            obtain rfl := Option.some.inj h
            exact Ret.two rfl (resV_cellN tk24 rfl rfl) (resV_tmp rfl) rfl
theorem c_narthexref03_Add (N : Nat) (a0 : TGraph) (a1 : Int) (a2 : Int) (r : TGraph × Int) (h : narthexref03_Add N a0 a1 a2 = some r) (H : List Ob) : DCall Try.prog 11 [.agg (eGraph a0), .c (I a1), .c (I a2)] H (.tup [.agg (eGraph r.1), .c (I r.2)]) := DCall.lift (by first | rfl | simp [-List.map_set]) (by first | rfl | simp [-List.map_set]) (fun _ => by simp [-List.map_set]) (w_narthexref03_Add N a0 a1 a2 r h) H
-- narthex/narthexref03.Remove
theorem w_narthexref03_Remove (N : Nat) (a0 : TGraph) (a1 : Int) (a2 : Int) (r : TGraph × Int) (h : narthexref03_Remove N a0 a1 a2 = some r) : Nx.Call Try.prog 13 [.agg (eGraph a0), .c (I a1), .c (I a2)] [] fun r' _ => r' = .tup [.agg (eGraph r.1), .c (I r.2)] := by
  refine Nx.Call.of_body Try.func13 rfl en13 Try.ntmps13 rfl (fun Γ hok => ?_)
  unfold narthexref03_Remove at h
  refine Wp.seq ?_
  refine Wp.text [1, 2, 3, 6] rfl rfl ?_ -- region 0
  refine TextR.box (cs := [I a0.N, .slv (a0.Edges.map eEdge)]) 0 rfl rfl rfl rfl .nil ?_
  refine TextR.alloc 1 zc24 rfl rfl (.cons .nil) ?_
  refine TextR.assign rfl ?_
  refine TextR.done (.cons rfl (.cons rfl (.cons rfl (.cons rfl .nil)))) ?_
  refine Wp.seq ?_
  refine Wp.seq ?_
  obtain ⟨y1, hy1, h⟩ := bind_some h
  refine Wp.text [1, 2, 3, 6, 13] rfl rfl ?_ -- region 1
  refine TextR.loadN (cs := [I a0.N, .slv (a0.Edges.map eEdge)]) tk24 rfl rfl ?_
  refine TextR.dcall rfl rfl (c_narthexref03_Check N a0 y1 hy1 _) ?_
  refine TextR.not rfl ?_
  refine TextR.done (.cons rfl (.cons rfl (.cons rfl (.cons rfl (.cons rfl .nil))))) ?_
  refine Wp.condM h rfl (fun hc1 h => ?_) (fun hc1 h => ?_)
  · refine Wp.seq ?_
    refine Wp.text [6, 7] rfl rfl ?_ -- region 2
    refine TextR.build cm24 rfl ?_
    refine TextR.store1 tk24 rfl rfl rfl rfl rfl rfl (.succ .zero) ?_
    refine TextR.assign rfl ?_
    refine TextR.done (.cons rfl (.cons rfl .nil)) ?_
    refine Wp.weak (keepW (live := [6, 7] ) (.cons rfl (.cons rfl .nil))) ?_
    refine Wp.weak (nzT (e' := [(6, .c (.ptr 1 0 0 0)), (7, .c (I 30))]) (H' := [.live 0 2 [[I a0.N, .slv (a0.Edges.map eEdge)]], .live 0 2 [[I 0, .slv ([].map eEdge)]]]) (by first | rfl | simp [-List.map_set]) (by first | rfl | simp [-List.map_set])) ?_
    refine Wp.ret ?_
    obtain rfl := Option.some.inj h
    exact Ret.two rfl (resV_cellN tk24 rfl rfl) (resV_tmp rfl) rfl
  · refine Wp.skip ?_
    refine Wp.seq ?_
    refine Wp.seq ?_
    obtain ⟨y2, hy2, h⟩ := bind_some h
    refine Wp.text [1, 2, 3, 6, 19] rfl rfl ?_ -- region 3
    refine TextR.loadN (cs := [I a0.N, .slv (a0.Edges.map eEdge)]) tk24 rfl rfl ?_
    refine TextR.move rfl ?_
    refine TextR.move rfl ?_
    refine TextR.dcall rfl rfl (c_narthexref03_nodes N a0 a1 a2 y2 hy2 _) ?_
    refine TextR.not rfl ?_
    refine TextR.done (.cons rfl (.cons rfl (.cons rfl (.cons rfl (.cons rfl .nil))))) ?_
    refine Wp.condM h rfl (fun hc2 h => ?_) (fun hc2 h => ?_)
    · refine Wp.seq ?_
      refine Wp.text [6, 7] rfl rfl ?_ -- region 4
      refine TextR.build cm24 rfl ?_
      refine TextR.store1 tk24 rfl rfl rfl rfl rfl rfl (.succ .zero) ?_
      refine TextR.assign rfl ?_
      refine TextR.done (.cons rfl (.cons rfl .nil)) ?_
      refine Wp.weak (keepW (live := [6, 7] ) (.cons rfl (.cons rfl .nil))) ?_
      refine Wp.weak (nzT (e' := [(6, .c (.ptr 1 0 0 0)), (7, .c (I 31))]) (H' := [.live 0 2 [[I a0.N, .slv (a0.Edges.map eEdge)]], .live 0 2 [[I 0, .slv ([].map eEdge)]]]) (by first | rfl | simp [-List.map_set]) (by first | rfl | simp [-List.map_set])) ?_
      refine Wp.ret ?_
      obtain rfl := Option.some.inj h
      exact Ret.two rfl (resV_cellN tk24 rfl rfl) (resV_tmp rfl) rfl
    · refine Wp.skip ?_
      refine Wp.seq ?_
      refine Wp.seq ?_
      obtain ⟨y3, hy3, h⟩ := bind_some h
      refine Wp.text [1, 2, 3, 6, 25] rfl rfl ?_ -- region 5
      refine TextR.loadN (cs := [I a0.N, .slv (a0.Edges.map eEdge)]) tk24 rfl rfl ?_
      refine TextR.move rfl ?_
      refine TextR.move rfl ?_
      refine TextR.dcall rfl rfl (c_narthexref03_Has N a0 a1 a2 y3 hy3 _) ?_
      refine TextR.not rfl ?_
      refine TextR.done (.cons rfl (.cons rfl (.cons rfl (.cons rfl (.cons rfl .nil))))) ?_
      refine Wp.condM h rfl (fun hc3 h => ?_) (fun hc3 h => ?_)
      · refine Wp.seq ?_
        refine Wp.text [6, 7] rfl rfl ?_ -- region 6
        refine TextR.build cm24 rfl ?_
        refine TextR.store1 tk24 rfl rfl rfl rfl rfl rfl (.succ .zero) ?_
        refine TextR.assign rfl ?_
        refine TextR.done (.cons rfl (.cons rfl .nil)) ?_
        refine Wp.weak (keepW (live := [6, 7] ) (.cons rfl (.cons rfl .nil))) ?_
        refine Wp.weak (nzT (e' := [(6, .c (.ptr 1 0 0 0)), (7, .c (I 33))]) (H' := [.live 0 2 [[I a0.N, .slv (a0.Edges.map eEdge)]], .live 0 2 [[I 0, .slv ([].map eEdge)]]]) (by first | rfl | simp [-List.map_set]) (by first | rfl | simp [-List.map_set])) ?_
        refine Wp.ret ?_
        obtain rfl := Option.some.inj h
        exact Ret.two rfl (resV_cellN tk24 rfl rfl) (resV_tmp rfl) rfl
      · refine Wp.skip ?_
        refine Wp.seq ?_
        refine Wp.text [1, 2, 3, 6, 8] rfl rfl ?_ -- region 7
        refine TextR.fieldAddr fo24_0 rfl rfl rfl ?_
        refine TextR.load1 tk3 rfl rfl ?_
        refine TextR.build cm24 rfl ?_
        refine TextR.alloc 2 zc24 rfl rfl (.cons (.cons .nil)) ?_
        refine TextR.store1 tk24 rfl rfl rfl rfl rfl rfl (.succ (.succ .zero)) ?_
        refine TextR.done (.cons rfl (.cons rfl (.cons rfl (.cons rfl (.cons rfl .nil))))) ?_
        refine Wp.seq ?_
        refine Wp.seq ?_
        refine Wp.text [1, 2, 3, 6, 8, 9] rfl rfl ?_ -- region 8
        refine TextR.assign rfl ?_
        refine TextR.done (.cons rfl (.cons rfl (.cons rfl (.cons rfl (.cons rfl (.cons rfl .nil)))))) ?_
        obtain ⟨z4, hz4, h⟩ := bind_some h
        refine Wp.fragN (fun S => ∃ wz4_2, ∃ S', St.Weak ⟨Try.prog, 63, Γ⟩ S S' ∧ S' = ⟨[(6, .c (.ptr 0 0 0 0)), (8, .c (.ptr 1 0 0 0))], [.live 0 2 [[I 0, nilS]], .live 0 2 [[I a0.N, .sl 2 wz4_2 0 z4.length]], .live wz4_2 2 (z4.map eEdge)]⟩) ?_ ?_
        · replace h := hz4
          refine Wp.block ?_
          refine Wp.weak (St.Weak.trans (keepW (live := [1, 2, 3, 6, 8, 9]) (.cons rfl (.cons rfl (.cons rfl (.cons rfl (.cons rfl (.cons rfl .nil))))))) (St.Weak.trans (nilCellW (H := [.live 0 2 [[I a0.N, .slv (a0.Edges.map eEdge)]], .live 0 2 [[I 0, nilS]], .live 0 2 [[I a0.N, nilS]]]) (ver := 0) (g := 2) (i := 0) (k := 1) 2 3 rfl rfl rfl rfl rfl (.cons (.cons (.cons .nil))) (.succ (.succ .zero))) (keepW (live := [1, 2, 3, 6, 8, 9]) (.cons rfl (.cons rfl (.cons rfl (.cons rfl (.cons rfl (.cons rfl .nil))))))))) ?_
          refine Wp.loop (fun m S => ∃ l3_1, ∃ s9_1, ∃ wh3_1, narthexref03_Remove_L1 N a0 a1 a2 m l3_1 s9_1 = some z4 ∧ S = ⟨[(1, .c (I a1)), (2, .c (I a2)), (3, .c (.ptr 0 0 0 0)), (6, .c (.ptr 1 0 0 0)), (8, .c (.ptr 2 0 0 0)), (9, .c (I s9_1))], [.live 0 2 [[I a0.N, .slv (a0.Edges.map eEdge)]], .live 0 2 [[I 0, nilS]], .live 0 2 [[I a0.N, .sl 3 wh3_1 0 l3_1.length]], .live wh3_1 2 (l3_1.map eEdge)]⟩) N ⟨_, _, _, h, rfl⟩ ?_
          rintro m1 _ ⟨l3_1, s9_1, wh3_1, h, rfl⟩
          cases m1 with
          | zero => rw [narthexref03_Remove_L1.eq_1] at h; cases h
          | succ m1 =>
          rw [narthexref03_Remove_L1.eq_2] at h
          refine Wp.seq ?_
          refine Wp.seq ?_
          refine Wp.text [1, 2, 3, 6, 8, 9, 34] rfl rfl ?_ -- region 9
          refine TextR.move rfl ?_
          refine TextR.fieldAddr fo24_1 rfl rfl rfl ?_
          refine TextR.load1 tk22 rfl rfl ?_
          refine TextR.lenM us22 rfl rfl ?_
          refine TextR.int rfl rfl rfl ?_
          refine TextR.done (.cons rfl (.cons rfl (.cons rfl (.cons rfl (.cons rfl (.cons rfl (.cons rfl .nil))))))) ?_
          refine Wp.condM h rfl (fun hc5 h => ?_) (fun hc5 h => ?_)
          · refine Wp.skip ?_
            refine Wp.seq ?_
            refine Wp.block ?_
            refine Wp.seq ?_
            obtain ⟨x5, hx5, h⟩ := bind_some h
            refine Wp.text [1, 2, 3, 6, 8, 9, 10] rfl rfl ?_ -- region 11
            refine TextR.fieldAddr fo24_1 rfl rfl rfl ?_
            refine TextR.load1 tk22 rfl rfl ?_
            refine TextR.move rfl ?_
            refine TextR.indexA se22 rfl rfl rfl hx5 rfl ?_
            refine TextR.loadNM tk37 rfl (at_get hx5) rfl ?_
            refine TextR.alloc 4 zc37 rfl rfl (.cons (.cons (.cons (.cons .nil)))) ?_
            refine TextR.store1 tk37 rfl rfl rfl rfl rfl rfl (.succ (.succ (.succ (.succ .zero)))) ?_
            refine TextR.done (.cons rfl (.cons rfl (.cons rfl (.cons rfl (.cons rfl (.cons rfl (.cons rfl .nil))))))) ?_
            refine Wp.seq ?_
            refine Wp.go false none [[], [], [], [], [], [], [], [(48, false)], [(48, false)], [(48, false)], [(48, false)], [(48, false)], [(48, false)], []] [] [1, 2, 3, 6, 8, 9, 10, 55] mixed rfl rfl (by kernel_rfl) ?_ -- region 12
            refine RunR.fieldAddr fo37_0 rfl rfl rfl rfl rfl ?_
            refine RunR.load1 tk3 rfl rfl rfl rfl ?_
            refine RunR.move rfl rfl rfl ?_
            refine RunR.move rfl rfl rfl ?_
            refine RunR.minmax (.inl rfl) rfl rfl rfl ?_
            refine RunR.int rfl rfl rfl rfl rfl ?_
            refine RunR.move rfl rfl rfl ?_
            refine RunR.fieldAddr fo37_1 rfl rfl rfl rfl rfl ?_
            refine RunR.load1 tk3 rfl rfl rfl rfl ?_
            refine RunR.move rfl rfl rfl ?_
            refine RunR.move rfl rfl rfl ?_
            refine RunR.minmax (.inr rfl) rfl rfl rfl ?_
            refine RunR.int rfl rfl rfl rfl rfl ?_
            refine RunR.pickOr rfl rfl rfl rfl ?_
            refine RunR.doneQ (.cons rfl (.cons rfl (.cons rfl (.cons rfl (.cons rfl (.cons rfl (.cons rfl (.cons rfl .nil)))))))) ?_
            refine Wp.condM h rfl (fun hc6 h => ?_) (fun hc6 h => ?_)
            · obtain ⟨x6, hx6, h⟩ := bind_some h
              refine Wp.text [1, 2, 3, 6, 8, 9] rfl rfl ?_ -- region 13
              refine TextR.fieldAddr fo24_1 rfl rfl rfl ?_
              refine TextR.load1 tk22 rfl rfl ?_
              refine TextR.loadN (cs := [I x5.A, I x5.B]) tk37 rfl rfl ?_
              refine TextR.buildSlice (rows := [x5].map eEdge) 5 se22 rfl rfl rfl (.cons (.cons (.cons (.cons (.cons .nil))))) ?_
              refine TextR.appendM eEdge l3_1 [x5] x6 (app_eq hx6) se22 rfl (obj_of rfl) rfl (view_whole (f := eEdge) (xs := [x5]) rfl) (fun _ => rfl) rfl (app_len hx6) (.succ (.succ (.succ .zero))) ?_
              refine TextR.fieldAddr fo24_1 rfl rfl rfl ?_
              refine TextR.storeF (r' := [I a0.N, .sl 3 (wh3_1 + 1) 0 x6.length]) tk22 rfl rfl rfl rfl rfl rfl rfl (.succ (.succ .zero)) ?_
              refine TextR.done (.cons rfl (.cons rfl (.cons rfl (.cons rfl (.cons rfl (.cons rfl .nil)))))) ?_
              refine Wp.text [1, 2, 3, 6, 8, 9] rfl rfl ?_ -- region 10
              refine TextR.move rfl ?_
              refine TextR.int rfl rfl rfl ?_
              refine TextR.assign rfl ?_
              refine TextR.done (.cons rfl (.cons rfl (.cons rfl (.cons rfl (.cons rfl (.cons rfl .nil)))))) ?_
              exact ⟨m1, Nat.lt_succ_self _, _, (St.Weak.trans (keepW (live := [1, 2, 3, 6, 8, 9]) (.cons rfl (.cons rfl (.cons rfl (.cons rfl (.cons rfl (.cons rfl .nil))))))) (pickT (e' := [(1, .c (I a1)), (2, .c (I a2)), (3, .c (.ptr 0 0 0 0)), (6, .c (.ptr 1 0 0 0)), (8, .c (.ptr 2 0 0 0)), (9, .c (I (w64 (s9_1 + 1))))]) (H' := [.live 0 2 [[I a0.N, .slv (a0.Edges.map eEdge)]], .live 0 2 [[I 0, nilS]], .live 0 2 [[I a0.N, .sl 3 (wh3_1 + 1) 0 x6.length]], .live (wh3_1 + 1) 2 (x6.map eEdge)]) [0, 1, 2, 3] [0, 1, 2, 3, 0, 0] 0 hok.len.symm rfl rfl (by decide) (by first | rfl | simp [-List.map_set]) (by first | rfl | simp [-List.map_set]) (by first | rfl | simp [-List.map_set]) (by first | rfl | simp [-List.map_set]))), _, _, _, h, rfl⟩
            · refine Wp.skip ?_
              refine Wp.text [1, 2, 3, 6, 8, 9] rfl rfl ?_ -- region 10
              refine TextR.move rfl ?_
              refine TextR.int rfl rfl rfl ?_
              refine TextR.assign rfl ?_
              refine TextR.done (.cons rfl (.cons rfl (.cons rfl (.cons rfl (.cons rfl (.cons rfl .nil)))))) ?_
              exact ⟨m1, Nat.lt_succ_self _, _, (St.Weak.trans (keepW (live := [1, 2, 3, 6, 8, 9]) (.cons rfl (.cons rfl (.cons rfl (.cons rfl (.cons rfl (.cons rfl .nil))))))) (pickT (e' := [(1, .c (I a1)), (2, .c (I a2)), (3, .c (.ptr 0 0 0 0)), (6, .c (.ptr 1 0 0 0)), (8, .c (.ptr 2 0 0 0)), (9, .c (I (w64 (s9_1 + 1))))]) (H' := [.live 0 2 [[I a0.N, .slv (a0.Edges.map eEdge)]], .live 0 2 [[I 0, nilS]], .live 0 2 [[I a0.N, .sl 3 wh3_1 0 l3_1.length]], .live wh3_1 2 (l3_1.map eEdge)]) [0, 1, 2, 3] [0, 1, 2, 3, 0] 0 hok.len.symm rfl rfl (by decide) (by first | rfl | simp [-List.map_set]) (by first | rfl | simp [-List.map_set]) (by first | rfl | simp [-List.map_set]) (by first | rfl | simp [-List.map_set]))), _, _, _, h, rfl⟩
          · refine Wp.exit ?_
            obtain rfl := Option.some.inj h
            exact ⟨_, _, (St.Weak.trans (keepW (live := [6, 8]) (.cons rfl (.cons rfl .nil))) (pickT (e' := [(6, .c (.ptr 0 0 0 0)), (8, .c (.ptr 1 0 0 0))]) (H' := [.live 0 2 [[I 0, nilS]], .live 0 2 [[I a0.N, .sl 2 wh3_1 0 l3_1.length]], .live wh3_1 2 (l3_1.map eEdge)]) [1, 2, 3] [0, 0, 1, 2] 0 hok.len.symm rfl rfl (by decide) (by first | rfl | simp [-List.map_set]) (by first | rfl | simp [-List.map_set]) (by first | rfl | simp [-List.map_set]) (by first | rfl | simp [-List.map_set]))), rfl⟩
        rintro _ ⟨wz4_2, S', hw, rfl⟩
        clear hz4
        refine Wp.weak hw ?_
        refine Wp.seq ?_
        refine Wp.text [6, 7] rfl rfl ?_ -- region 14
        refine TextR.loadN (cs := [I a0.N, .sl 2 wz4_2 0 z4.length]) tk24 rfl rfl ?_
        refine TextR.store1 tk24 rfl rfl rfl rfl rfl rfl .zero ?_
        refine TextR.assign rfl ?_
        refine TextR.done (.cons rfl (.cons rfl .nil)) ?_
        refine Wp.weak (keepW (live := [6, 7] ) (.cons rfl (.cons rfl .nil))) ?_
        refine Wp.weak (freezeW (h := 2) (ver := wz4_2) (rows := z4.map eEdge) (e' := [(6, .c (.ptr 0 0 0 0)), (7, .c (I 0))]) (H' := [.live 0 2 [[I a0.N, .slv (z4.map eEdge)]], .live 0 2 [[I a0.N, .slv (z4.map eEdge)]], .dead]) (obj_of rfl) (by first | rfl | simp [-List.map_set]) (by first | rfl | simp [-List.map_set])) ?_
        refine Wp.ret ?_
        obtain rfl := Option.some.inj h
        exact Ret.two rfl (resV_cellN tk24 rfl rfl) (resV_tmp rfl) rfl
theorem c_narthexref03_Remove (N : Nat) (a0 : TGraph) (a1 : Int) (a2 : Int) (r : TGraph × Int) (h : narthexref03_Remove N a0 a1 a2 = some r) (H : List Ob) : DCall Try.prog 13 [.agg (eGraph a0), .c (I a1), .c (I a2)] H (.tup [.agg (eGraph r.1), .c (I r.2)]) := DCall.lift (by first | rfl | simp [-List.map_set]) (by first | rfl | simp [-List.map_set]) (fun _ => by simp [-List.map_set]) (w_narthexref03_Remove N a0 a1 a2 r h) H
-- narthex/narthexref03.Same
theorem w_narthexref03_Same (N : Nat) (a0 : TGraph) (a1 : TGraph) (r : Bool) (h : narthexref03_Same N a0 a1 = some r) : Nx.Call Try.prog 14 [.agg (eGraph a0), .agg (eGraph a1)] [] fun r' _ => r' = .c (B r) := by
  refine Nx.Call.of_body Try.func14 rfl en14 Try.ntmps14 rfl (fun Γ hok => ?_)
  unfold narthexref03_Same at h
  refine Wp.seq ?_
  refine Wp.text [2, 3] rfl rfl ?_ -- region 0
  refine TextR.box (cs := [I a0.N, .slv (a0.Edges.map eEdge)]) 0 rfl rfl rfl rfl .nil ?_
  refine TextR.box (cs := [I a1.N, .slv (a1.Edges.map eEdge)]) 1 rfl rfl rfl rfl (.cons .nil) ?_
  refine TextR.assign rfl ?_
  refine TextR.done (.cons rfl (.cons rfl .nil)) ?_
  refine Wp.seq ?_
  refine Wp.seq ?_
  refine Wp.go false none [[], [], [], [], [], [], [(11, false)], [(11, false)], [(11, false)], [(11, false)], [(11, false)], [(11, false)], [(11, false)], []] [] [2, 3, 19] mixed rfl rfl (by kernel_rfl) ?_ -- region 1
  refine RunR.fieldAddr fo24_0 rfl rfl rfl rfl rfl ?_
  refine RunR.load1 tk3 rfl rfl rfl rfl ?_
  refine RunR.fieldAddr fo24_0 rfl rfl rfl rfl rfl ?_
  refine RunR.load1 tk3 rfl rfl rfl rfl ?_
  refine RunR.int rfl rfl rfl rfl rfl ?_
  refine RunR.move rfl rfl rfl ?_
  refine RunR.fieldAddr fo24_1 rfl rfl rfl rfl rfl ?_
  refine RunR.load1 tk22 rfl rfl rfl rfl ?_
  refine RunR.lenM us22 rfl rfl rfl rfl ?_
  refine RunR.fieldAddr fo24_1 rfl rfl rfl rfl rfl ?_
  refine RunR.load1 tk22 rfl rfl rfl rfl ?_
  refine RunR.lenM us22 rfl rfl rfl rfl ?_
  refine RunR.int rfl rfl rfl rfl rfl ?_
  refine RunR.pickOr rfl rfl rfl rfl ?_
  refine RunR.doneQ (.cons rfl (.cons rfl (.cons rfl .nil))) ?_
  refine Wp.condM h rfl (fun hc1 h => ?_) (fun hc1 h => ?_)
  · refine Wp.seq ?_
    refine Wp.text [4] rfl rfl ?_ -- region 2
    refine TextR.assign rfl ?_
    refine TextR.done (.cons rfl .nil) ?_
    refine Wp.ret ?_
    obtain rfl := Option.some.inj h
    exact Ret.one rfl (resV_tmp rfl) rfl
  · refine Wp.skip ?_
    refine Wp.seq ?_
    refine Wp.seq ?_
    refine Wp.text [2, 3, 5] rfl rfl ?_ -- region 3
    refine TextR.assign rfl ?_
    refine TextR.done (.cons rfl (.cons rfl (.cons rfl .nil))) ?_
    obtain ⟨z1, hz1, h⟩ := bind_some h
    refine Wp.fragR (fun S => ∃ z3, z1 = .inr z3 ∧ ∃ S', St.Weak ⟨Try.prog, 38, Γ⟩ S S' ∧ S' = ⟨[], []⟩) (fun S => ∃ v, z1 = .inl v ∧ Ret Try.prog Try.f14 (fun r' _ => r' = .c (B v)) .ret S) ?_ ?_ ?_
    · replace h := hz1
      refine Wp.block ?_
      refine Wp.weak (keepW (live := [2, 3, 5]) (.cons rfl (.cons rfl (.cons rfl .nil)))) ?_
      refine Wp.loop (fun m S => ∃ s5_1, narthexref03_Same_L1 N a0 a1 m s5_1 = some z1 ∧ S = ⟨[(2, .c (.ptr 0 0 0 0)), (3, .c (.ptr 1 0 0 0)), (5, .c (I s5_1))], [.live 0 2 [[I a0.N, .slv (a0.Edges.map eEdge)]], .live 0 2 [[I a1.N, .slv (a1.Edges.map eEdge)]]]⟩) N ⟨_, h, rfl⟩ ?_
      rintro m1 _ ⟨s5_1, h, rfl⟩
      cases m1 with
      | zero => rw [narthexref03_Same_L1.eq_1] at h; cases h
      | succ m1 =>
      rw [narthexref03_Same_L1.eq_2] at h
      refine Wp.seq ?_
      refine Wp.seq ?_
      refine Wp.text [2, 3, 5, 24] rfl rfl ?_ -- region 4
      refine TextR.move rfl ?_
      refine TextR.fieldAddr fo24_1 rfl rfl rfl ?_
      refine TextR.load1 tk22 rfl rfl ?_
      refine TextR.lenM us22 rfl rfl ?_
      refine TextR.int rfl rfl rfl ?_
      refine TextR.done (.cons rfl (.cons rfl (.cons rfl (.cons rfl .nil)))) ?_
      refine Wp.condM h rfl (fun hc3 h => ?_) (fun hc3 h => ?_)
      · refine Wp.skip ?_
        refine Wp.seq ?_
        refine Wp.block ?_
        refine Wp.seq ?_
        obtain ⟨x4, hx4, h⟩ := bind_some h
        obtain ⟨x5, hx5, h⟩ := bind_some h
        refine Wp.go true (some ⟨[], []⟩) [] [] [2, 3, 5, 37] mixed rfl rfl (by kernel_rfl) ?_ -- region 6
        refine RunR.fieldAddr fo24_1 rfl rfl rfl rfl rfl ?_
        refine RunR.load1 tk22 rfl rfl rfl rfl ?_
        refine RunR.move rfl rfl rfl ?_
        refine RunR.indexA se22 rfl rfl rfl rfl rfl hx4 rfl ?_
        refine RunR.loadNM tk37 rfl rfl rfl (at_get hx4) rfl ?_
        refine RunR.fieldAddr fo24_1 rfl rfl rfl rfl rfl ?_
        refine RunR.load1 tk22 rfl rfl rfl rfl ?_
        refine RunR.move rfl rfl rfl ?_
        refine RunR.indexA se22 rfl rfl rfl rfl rfl hx5 rfl ?_
        refine RunR.loadNM tk37 rfl rfl rfl (at_get hx5) rfl ?_
        refine RunR.neAgg eqs37 rfl rfl rfl rfl (q_Edge x4 x5) ?_
        refine RunR.doneQ (.cons rfl (.cons rfl (.cons rfl (.cons rfl .nil)))) ?_
        refine Wp.condM h rfl (fun hc4 h => ?_) (fun hc4 h => ?_)
        · refine Wp.seq ?_
          refine Wp.text [4] rfl rfl ?_ -- region 7
          refine TextR.assign rfl ?_
          refine TextR.done (.cons rfl .nil) ?_
          refine Wp.ret ?_
          exact ⟨_, (Option.some.inj h).symm, Ret.one rfl (resV_tmp rfl) rfl⟩
        · refine Wp.skip ?_
          refine Wp.text [2, 3, 5] rfl rfl ?_ -- region 5
          refine TextR.move rfl ?_
          refine TextR.int rfl rfl rfl ?_
          refine TextR.assign rfl ?_
          refine TextR.done (.cons rfl (.cons rfl (.cons rfl .nil))) ?_
          exact ⟨m1, Nat.lt_succ_self _, _, (keepW (live := [2, 3, 5]) (.cons rfl (.cons rfl (.cons rfl .nil)))), _, h, rfl⟩
      · refine Wp.exit ?_
        exact ⟨_, (Option.some.inj h).symm, _, (St.Weak.trans (keepW (live := []) .nil) (pickT (e' := []) (H' := []) [] [0, 0] 0 hok.len.symm rfl rfl (by decide) (by first | rfl | simp [-List.map_set]) (by first | rfl | simp [-List.map_set]) (by first | rfl | simp [-List.map_set]) (by first | rfl | simp [-List.map_set]))), rfl⟩
    · rintro _ ⟨z3, rfl, _, hw, rfl⟩
      dsimp only at h
      clear hz1
      refine Wp.weak hw ?_
      refine Wp.seq ?_
      refine Wp.text [4] rfl rfl ?_ -- region 8
      refine TextR.assign rfl ?_
      refine TextR.done (.cons rfl .nil) ?_
      refine Wp.ret ?_
      obtain rfl := Option.some.inj h
      exact Ret.one rfl (resV_tmp rfl) rfl
    · rintro S' ⟨r2, rfl, hR⟩
      dsimp only at h
      obtain rfl := Option.some.inj h
      exact hR
theorem c_narthexref03_Same (N : Nat) (a0 : TGraph) (a1 : TGraph) (r : Bool) (h : narthexref03_Same N a0 a1 = some r) (H : List Ob) : DCall Try.prog 14 [.agg (eGraph a0), .agg (eGraph a1)] H (.c (B r)) := DCall.lift (by first | rfl | simp [-List.map_set]) (by first | rfl | simp [-List.map_set]) (fun _ => by simp [-List.map_set]) (w_narthexref03_Same N a0 a1 r h) H
-- narthex/narthexlaw03.GraphChanges
theorem w_narthexlaw03_GraphChanges (N : Nat) (a0 : TGraph) (a1 : Int) (a2 : Int) (r : Bool) (h : narthexlaw03_GraphChanges N a0 a1 a2 = some r) : Nx.Call Try.prog 3 [.agg (eGraph a0), .c (I a1), .c (I a2)] [] fun r' _ => r' = .c (B r) := by
  refine Nx.Call.of_body Try.func3 rfl en3 Try.ntmps3 rfl (fun Γ hok => ?_)
  unfold narthexlaw03_GraphChanges at h
  refine Wp.seq ?_
  refine Wp.text [1, 2, 3] rfl rfl ?_ -- region 0
  refine TextR.box (cs := [I a0.N, .slv (a0.Edges.map eEdge)]) 0 rfl rfl rfl rfl .nil ?_
  refine TextR.assign rfl ?_
  refine TextR.done (.cons rfl (.cons rfl (.cons rfl .nil))) ?_
  refine Wp.seq ?_
  refine Wp.seq ?_
  obtain ⟨y1, hy1, h⟩ := bind_some h
  refine Wp.go false none [[], [], [], [(17, false)], [(17, false)], [(17, false)], [(17, false)], []] [] [1, 2, 3, 22] mixed rfl rfl (by kernel_rfl) ?_ -- region 1
  refine RunR.call rfl rfl rfl (fun H => c_narthexlaw03_awake N y1 hy1 H) ?_
  refine RunR.not rfl rfl rfl ?_
  refine RunR.move rfl rfl rfl ?_
  refine RunR.fieldAddr fo24_1 rfl rfl rfl rfl rfl ?_
  refine RunR.load1 tk22 rfl rfl rfl rfl ?_
  refine RunR.lenM us22 rfl rfl rfl rfl ?_
  refine RunR.int rfl rfl rfl rfl rfl ?_
  refine RunR.pickOr rfl rfl rfl rfl ?_
  refine RunR.doneQ (.cons rfl (.cons rfl (.cons rfl (.cons rfl .nil)))) ?_
  refine Wp.condM h rfl (fun hc1 h => ?_) (fun hc1 h => ?_)
  · refine Wp.seq ?_
    obtain ⟨y2, hy2, h⟩ := bind_some h
    refine Wp.text [6] rfl rfl ?_ -- region 2
    refine TextR.dcall rfl rfl (c_narthexlaw03_awake N y2 hy2 _) ?_
    refine TextR.assign rfl ?_
    refine TextR.done (.cons rfl .nil) ?_
    refine Wp.ret ?_
    obtain rfl := Option.some.inj h
    exact Ret.one rfl (resV_tmp rfl) rfl
  · refine Wp.skip ?_
    refine Wp.seq ?_
    obtain ⟨y3, hy3, h⟩ := bind_some h
    obtain ⟨y4, hy4, h⟩ := bind_some h
    refine Wp.text [1, 2, 3, 7, 8] rfl rfl ?_ -- region 3
    refine TextR.loadN (cs := [I a0.N, .slv (a0.Edges.map eEdge)]) tk24 rfl rfl ?_
    refine TextR.dcall rfl rfl (c_narthexlaw03_Own N a0 y3 hy3 _) ?_
    refine TextR.move rfl ?_
    refine TextR.move rfl ?_
    refine TextR.dcall rfl rfl (c_graph_Add N y3 a1 a2 y4 hy4 _) ?_
    refine TextR.move rfl ?_
    refine TextR.extract rfl rfl ?_
    refine TextR.extract rfl rfl ?_
    refine TextR.alloc 1 zc24 rfl rfl (.cons .nil) ?_
    refine TextR.store1 tk24 rfl rfl rfl rfl rfl rfl (.succ .zero) ?_
    refine TextR.assign rfl ?_
    refine TextR.done (.cons rfl (.cons rfl (.cons rfl (.cons rfl (.cons rfl .nil))))) ?_
    refine Wp.seq ?_
    obtain ⟨y5, hy5, h⟩ := bind_some h
    refine Wp.text [1, 2, 3, 7, 8, 9, 10] rfl rfl ?_ -- region 4
    refine TextR.loadN (cs := [I a0.N, .slv (a0.Edges.map eEdge)]) tk24 rfl rfl ?_
    refine TextR.move rfl ?_
    refine TextR.move rfl ?_
    refine TextR.dcall rfl rfl (c_narthexref03_Add N a0 a1 a2 y5 hy5 _) ?_
    refine TextR.move rfl ?_
    refine TextR.extract rfl rfl ?_
    refine TextR.extract rfl rfl ?_
    refine TextR.alloc 2 zc24 rfl rfl (.cons (.cons .nil)) ?_
    refine TextR.store1 tk24 rfl rfl rfl rfl rfl rfl (.succ (.succ .zero)) ?_
    refine TextR.assign rfl ?_
    refine TextR.done (.cons rfl (.cons rfl (.cons rfl (.cons rfl (.cons rfl (.cons rfl (.cons rfl .nil))))))) ?_
    refine Wp.seq ?_
    obtain ⟨y6, hy6, h⟩ := bind_some h
    obtain ⟨y7, hy7, h⟩ := bind_some h
    refine Wp.text [1, 2, 3, 7, 8, 9, 10, 11, 12] rfl rfl ?_ -- region 5
    refine TextR.loadN (cs := [I a0.N, .slv (a0.Edges.map eEdge)]) tk24 rfl rfl ?_
    refine TextR.dcall rfl rfl (c_narthexlaw03_Own N a0 y6 hy6 _) ?_
    refine TextR.move rfl ?_
    refine TextR.move rfl ?_
    refine TextR.dcall rfl rfl (c_graph_Remove N y6 a1 a2 y7 hy7 _) ?_
    refine TextR.move rfl ?_
    refine TextR.extract rfl rfl ?_
    refine TextR.extract rfl rfl ?_
    refine TextR.alloc 3 zc24 rfl rfl (.cons (.cons (.cons .nil))) ?_
    refine TextR.store1 tk24 rfl rfl rfl rfl rfl rfl (.succ (.succ (.succ .zero))) ?_
    refine TextR.assign rfl ?_
    refine TextR.done (.cons rfl (.cons rfl (.cons rfl (.cons rfl (.cons rfl (.cons rfl (.cons rfl (.cons rfl (.cons rfl .nil))))))))) ?_
    refine Wp.seq ?_
    obtain ⟨y8, hy8, h⟩ := bind_some h
    refine Wp.text [7, 8, 9, 10, 11, 12, 13, 14] rfl rfl ?_ -- region 6
    refine TextR.loadN (cs := [I a0.N, .slv (a0.Edges.map eEdge)]) tk24 rfl rfl ?_
    refine TextR.move rfl ?_
    refine TextR.move rfl ?_
    refine TextR.dcall rfl rfl (c_narthexref03_Remove N a0 a1 a2 y8 hy8 _) ?_
    refine TextR.move rfl ?_
    refine TextR.extract rfl rfl ?_
    refine TextR.extract rfl rfl ?_
    refine TextR.alloc 4 zc24 rfl rfl (.cons (.cons (.cons (.cons .nil)))) ?_
    refine TextR.store1 tk24 rfl rfl rfl rfl rfl rfl (.succ (.succ (.succ (.succ .zero)))) ?_
    refine TextR.assign rfl ?_
    refine TextR.done (.cons rfl (.cons rfl (.cons rfl (.cons rfl (.cons rfl (.cons rfl (.cons rfl (.cons rfl .nil)))))))) ?_
    refine Wp.seq ?_
    obtain ⟨y9, hy9, h⟩ := bind_some h
    obtain ⟨y10, hy10, h⟩ := bind_some h
    refine Wp.go false none [[], [], [], [], [(57, true)], [(57, true)], [(57, true)], [], [], [(62, true)], [(62, true)], [(62, true)], [], [], [(67, true)], [(67, true)], [(67, true)], [], []] [] [6] mixed rfl rfl (by kernel_rfl) ?_ -- region 7
    refine RunR.loadN (cs := [I y4.1.N, .slv (y4.1.Edges.map eEdge)]) tk24 rfl rfl rfl rfl ?_
    refine RunR.loadN (cs := [I y5.1.N, .slv (y5.1.Edges.map eEdge)]) tk24 rfl rfl rfl rfl ?_
    refine RunR.call rfl rfl rfl (fun H => c_narthexref03_Same N y4.1 y5.1 y9 hy9 H) ?_
    refine RunR.move rfl rfl rfl ?_
    refine RunR.move rfl rfl rfl ?_
    refine RunR.move rfl rfl rfl ?_
    refine RunR.int rfl rfl rfl rfl rfl ?_
    refine RunR.pickAnd rfl rfl rfl rfl ?_
    refine RunR.move rfl rfl rfl ?_
    refine RunR.loadN (cs := [I y7.1.N, .slv (y7.1.Edges.map eEdge)]) tk24 rfl rfl rfl rfl ?_
    refine RunR.loadN (cs := [I y8.1.N, .slv (y8.1.Edges.map eEdge)]) tk24 rfl rfl rfl rfl ?_
    refine RunR.callG rfl rfl rfl (fun hb H => c_narthexref03_Same N y7.1 y8.1 y10 (ifT hy10 gT hb) H) ?_
    refine RunR.pickAnd rfl rfl rfl rfl ?_
    refine RunR.move rfl rfl rfl ?_
    refine RunR.move rfl rfl rfl ?_
    refine RunR.move rfl rfl rfl ?_
    refine RunR.int rfl rfl rfl rfl rfl ?_
    refine RunR.pickAnd rfl rfl rfl rfl ?_
    refine RunR.assign rfl rfl rfl ?_
    refine RunR.doneQ (.cons rfl .nil) ?_
    refine Wp.ret ?_
    obtain rfl := Option.some.inj h
    exact Ret.one rfl (resV_tmp rfl) rfl
end Go.Proofs.Ytdhhkpjbfkbcjaa
