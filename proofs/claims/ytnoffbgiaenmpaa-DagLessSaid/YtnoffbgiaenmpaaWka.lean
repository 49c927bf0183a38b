/- The functions do what their models say. -/
import Derived.Test.YtnoffbgiaenmpaaEnc
import Derived.Test.YtnoffbgiaenmpaaLaid
namespace Go.Proofs.Ytnoffbgiaenmpaa
open Go Go.Nx
set_option linter.unusedVariables false
set_option linter.unusedSimpArgs false
set_option linter.unnecessarySimpa false
set_option maxRecDepth 8000
attribute [local simp] putSeg List.map_take List.map_drop rvL rvK bwL hfVs hfV hfL hfAll hfRows mvV mvL mv0 sh0 mvO mpE mpV mpVs mpO fzL rnL rn0 ok0 nzI nzB nzN nzF nzP nzO nzQ nzC shL shV shO okV okL okO List.take_of_length_le h_Arc hm_Arc ok_eArc okR_eArc fx_eArc fxR_eArc h_I hm_I ok_eI okR_eI fx_eI fxR_eI h_B hm_B ok_eB okR_eB fx_eB fxR_eB h_L_I hm_L_I ok_eL_I okR_eL_I fx_eL_I fxR_eL_I
-- narthex/dag.Check$1
theorem w_dag_Check_1 (N : Nat) (a0 : Int) (c0_0 : Int) (c1_0 : Int) (c1_1 : Int) (r : Bool) (h : dag_Check_1 N a0 c0_0 c1_0 c1_1 = some r) : Nx.Call Try.prog 35 [.c (I a0), .c (.ptr 0 0 0 0)] [.live 0 1 [[I c0_0]], .live 0 2 [[I c1_0, I c1_1]]] fun r' H' => r' = .c (B r) ∧ ∃ junk, H' = [.live 0 1 [[I c0_0]], .live 0 2 [[I c1_0, I c1_1]]] ++ junk := by
  refine Nx.Call.of_body Try.func35 rfl en35 Try.ntmps35 rfl (fun Γ hok => ?_)
  unfold dag_Check_1 at h
  refine Wp.seq ?_
  refine Wp.text [0, 1] rfl rfl ?_ -- region 0
  refine TextR.assign rfl ?_
  refine TextR.done (.cons rfl (.cons rfl .nil)) ?_
  refine Wp.seq ?_
  refine Wp.go false none [[], [], [], [(6, true)], [(6, true)], [(6, true)], [], []] [] [3] mixed rfl rfl (by kernel_rfl) ?_ -- region 1
  refine RunR.move rfl rfl rfl ?_
  refine RunR.int rfl rfl rfl rfl rfl ?_
  refine RunR.move rfl rfl rfl ?_
  refine RunR.move rfl rfl rfl ?_
  refine RunR.load1 tk3 rfl rfl rfl rfl ?_
  refine RunR.int rfl rfl rfl rfl rfl ?_
  refine RunR.pickAnd rfl rfl rfl rfl ?_
  refine RunR.assign rfl rfl rfl ?_
  refine RunR.doneQ (.cons rfl .nil) ?_
  refine Wp.ret ?_
  obtain rfl := Option.some.inj h
  exact Ret.one rfl (resV_tmp rfl) ⟨rfl, _, rfl⟩
theorem c_dag_Check_1 (N : Nat) (a0 : Int) (c0_0 : Int) (c1_0 : Int) (c1_1 : Int) (r : Bool) (h : dag_Check_1 N a0 c0_0 c1_0 c1_1 = some r) : DCall Try.prog 35 [.c (I a0), .c (.ptr 0 0 0 0)] [.live 0 1 [[I c0_0]], .live 0 2 [[I c1_0, I c1_1]]] (.c (B r)) := Call.trim (by simp) (by first | rfl | simp [-List.map_set]) (by first | rfl | simp [-List.map_set]) (w_dag_Check_1 N a0 c0_0 c1_0 c1_1 r h)
-- slices.Index[[]narthex/api.Arc,narthex/api.Arc]
theorem w_slices_Index_Arc (N : Nat) (a0 : List TArc) (a1 : TArc) (r : Int) (h : slices_Index_Arc N a0 a1 = some r) : Nx.Call Try.prog 54 [.c (.slv (a0.map eArc)), .agg (eArc a1)] [] fun r' _ => r' = .c (I r) := by
  refine Nx.Call.of_body Try.func54 rfl en54 Try.ntmps54 rfl (fun Γ hok => ?_)
  unfold slices_Index_Arc at h
  refine Wp.seq ?_
  refine Wp.text [0, 3] rfl rfl ?_ -- region 0
  refine TextR.box (cs := [I a1.From, I a1.To]) 0 rfl rfl rfl rfl .nil ?_
  refine TextR.assign rfl ?_
  refine TextR.done (.cons rfl (.cons rfl .nil)) ?_
  refine Wp.seq ?_
  refine Wp.seq ?_
  refine Wp.text [0, 3, 7, 8] rfl rfl ?_ -- region 1
  refine TextR.move rfl ?_
  refine TextR.lenM us22 rfl rfl ?_
  refine TextR.move rfl ?_
  refine TextR.done (.cons rfl (.cons rfl (.cons rfl (.cons rfl .nil)))) ?_
  obtain ⟨z1, hz1, h⟩ := bind_some h
  refine Wp.fragR (fun S => ∃ z3, z1 = .inr z3 ∧ ∃ S', St.Weak ⟨Try.prog, 19, Γ⟩ S S' ∧ S' = ⟨[], []⟩) (fun S => ∃ v, z1 = .inl v ∧ Ret Try.prog Try.f54 (fun r' _ => r' = .c (I v)) .ret S) ?_ ?_ ?_
  · replace h := hz1
    refine Wp.block ?_
    refine Wp.weak (keepW (live := [0, 3, 7, 8]) (.cons rfl (.cons rfl (.cons rfl (.cons rfl .nil))))) ?_
    refine Wp.loop (fun m S => ∃ s8_1, slices_Index_Arc_L1 N a0 a1 m s8_1 = some z1 ∧ S = ⟨[(0, .c (.slv (a0.map eArc))), (3, .c (.ptr 0 0 0 0)), (7, .c (I (a0.length : Int))), (8, .c (I s8_1))], [.live 0 2 [[I a1.From, I a1.To]]]⟩) N ⟨_, h, rfl⟩ ?_
    rintro m1 _ ⟨s8_1, h, rfl⟩
    cases m1 with
    | zero => rw [slices_Index_Arc_L1.eq_1] at h; cases h
    | succ m1 =>
    rw [slices_Index_Arc_L1.eq_2] at h
    refine Wp.seq ?_
    refine Wp.text [0, 3, 7, 8, 9] rfl rfl ?_ -- region 2
    refine TextR.int rfl rfl rfl ?_
    refine TextR.done (.cons rfl (.cons rfl (.cons rfl (.cons rfl (.cons rfl .nil))))) ?_
    refine Wp.seq ?_
    refine Wp.condM h rfl (fun hc2 h => ?_) (fun hc2 h => ?_)
    · refine Wp.skip ?_
      refine Wp.seq ?_
      refine Wp.block ?_
      refine Wp.seq ?_
      refine Wp.text [0, 3, 5, 7, 8] rfl rfl ?_ -- region 3
      refine TextR.move rfl ?_
      refine TextR.assign rfl ?_
      refine TextR.done (.cons rfl (.cons rfl (.cons rfl (.cons rfl (.cons rfl .nil))))) ?_
      refine Wp.seq ?_
      obtain ⟨x4, hx4, h⟩ := bind_some h
      refine Wp.go true (some ⟨[], []⟩) [] [] [0, 3, 5, 7, 8, 16] mixed rfl rfl (by kernel_rfl) ?_ -- region 4
      refine RunR.loadN (cs := [I a1.From, I a1.To]) tk37 rfl rfl rfl rfl ?_
      refine RunR.move rfl rfl rfl ?_
      refine RunR.move rfl rfl rfl ?_
      refine RunR.indexA se22 rfl rfl rfl rfl rfl hx4 rfl ?_
      refine RunR.loadNM tk37 rfl rfl rfl (at_get hx4) rfl ?_
      refine RunR.eqAgg eqs37 rfl rfl rfl rfl (q_Arc a1 x4) ?_
      refine RunR.doneQ (.cons rfl (.cons rfl (.cons rfl (.cons rfl (.cons rfl (.cons rfl .nil)))))) ?_
      refine Wp.condM h rfl (fun hc3 h => ?_) (fun hc3 h => ?_)
      · refine Wp.seq ?_
        refine Wp.text [4] rfl rfl ?_ -- region 5
        refine TextR.move rfl ?_
        refine TextR.assign rfl ?_
        refine TextR.done (.cons rfl .nil) ?_
        refine Wp.ret ?_
        exact ⟨_, (Option.some.inj h).symm, Ret.one rfl (resV_tmp rfl) rfl⟩
      · refine Wp.skip ?_
        refine Wp.text [0, 3, 7, 8] rfl rfl ?_ -- region 6
        refine TextR.int rfl rfl rfl ?_
        refine TextR.move rfl ?_
        refine TextR.done (.cons rfl (.cons rfl (.cons rfl (.cons rfl .nil)))) ?_
        exact ⟨m1, Nat.lt_succ_self _, _, (keepW (live := [0, 3, 7, 8]) (.cons rfl (.cons rfl (.cons rfl (.cons rfl .nil))))), _, h, rfl⟩
    · refine Wp.exit ?_
      exact ⟨_, (Option.some.inj h).symm, _, (St.Weak.trans (keepW (live := []) .nil) (pickT (e' := []) (H' := []) [] [0] 0 hok.len.symm rfl rfl (by decide) (by first | rfl | simp [-List.map_set]) (by first | rfl | simp [-List.map_set]) (by first | rfl | simp [-List.map_set]) (by first | rfl | simp [-List.map_set]))), rfl⟩
  · rintro _ ⟨z3, rfl, _, hw, rfl⟩
    dsimp only at h
    clear hz1
    refine Wp.weak hw ?_
    refine Wp.seq ?_
    refine Wp.text [4] rfl rfl ?_ -- region 7
    refine TextR.assign rfl ?_
    refine TextR.done (.cons rfl .nil) ?_
    refine Wp.ret ?_
    obtain rfl := Option.some.inj h
    exact Ret.one rfl (resV_tmp rfl) rfl
  · rintro S' ⟨r2, rfl, hR⟩
    dsimp only at h
    obtain rfl := Option.some.inj h
    exact hR
theorem c_slices_Index_Arc (N : Nat) (a0 : List TArc) (a1 : TArc) (r : Int) (h : slices_Index_Arc N a0 a1 = some r) (H : List Ob) : DCall Try.prog 54 [.c (.slv (a0.map eArc)), .agg (eArc a1)] H (.c (I r)) := DCall.lift (by first | rfl | simp [-List.map_set]) (by first | rfl | simp [-List.map_set]) (fun _ => by simp [-List.map_set]) (w_slices_Index_Arc N a0 a1 r h) H
-- slices.Contains[[]narthex/api.Arc,narthex/api.Arc]
theorem w_slices_Contains_Arc (N : Nat) (a0 : List TArc) (a1 : TArc) (r : Bool) (h : slices_Contains_Arc N a0 a1 = some r) : Nx.Call Try.prog 36 [.c (.slv (a0.map eArc)), .agg (eArc a1)] [] fun r' _ => r' = .c (B r) := by
  refine Nx.Call.of_body Try.func36 rfl en36 Try.ntmps36 rfl (fun Γ hok => ?_)
  unfold slices_Contains_Arc at h
  refine Wp.seq ?_
  refine Wp.text [0, 3] rfl rfl ?_ -- region 0
  refine TextR.box (cs := [I a1.From, I a1.To]) 0 rfl rfl rfl rfl .nil ?_
  refine TextR.assign rfl ?_
  refine TextR.done (.cons rfl (.cons rfl .nil)) ?_
  refine Wp.seq ?_
  obtain ⟨y1, hy1, h⟩ := bind_some h
  refine Wp.text [4] rfl rfl ?_ -- region 1
  refine TextR.move rfl ?_
  refine TextR.loadN (cs := [I a1.From, I a1.To]) tk37 rfl rfl ?_
  refine TextR.dcall rfl rfl (c_slices_Index_Arc N a0 a1 y1 hy1 _) ?_
  refine TextR.int rfl rfl rfl ?_
  refine TextR.assign rfl ?_
  refine TextR.done (.cons rfl .nil) ?_
  refine Wp.ret ?_
  obtain rfl := Option.some.inj h
  exact Ret.one rfl (resV_tmp rfl) rfl
theorem c_slices_Contains_Arc (N : Nat) (a0 : List TArc) (a1 : TArc) (r : Bool) (h : slices_Contains_Arc N a0 a1 = some r) (H : List Ob) : DCall Try.prog 36 [.c (.slv (a0.map eArc)), .agg (eArc a1)] H (.c (B r)) := DCall.lift (by first | rfl | simp [-List.map_set]) (by first | rfl | simp [-List.map_set]) (fun _ => by simp [-List.map_set]) (w_slices_Contains_Arc N a0 a1 r h) H
-- narthex/dag.Check
theorem w_dag_Check (N : Nat) (a0 : Int) (a1 : List TArc) (r : Int) (h : dag_Check N a0 a1 = some r) : Nx.Call Try.prog 18 [.c (I a0), .c (.slv (a1.map eArc))] [] fun r' _ => r' = .c (I r) := by
  refine Nx.Call.of_body Try.func18 rfl en18 Try.ntmps18 rfl (fun Γ hok => ?_)
  unfold dag_Check at h
  refine Wp.seq ?_
  refine Wp.text [1, 2] rfl rfl ?_ -- region 0
  refine TextR.box (cs := [I a0]) 0 rfl rfl rfl rfl .nil ?_
  refine TextR.assign rfl ?_
  refine TextR.done (.cons rfl (.cons rfl .nil)) ?_
  refine Wp.seq ?_
  refine Wp.text [1, 2, 5] rfl rfl ?_ -- region 1
  refine TextR.makeFunc rfl ?_
  refine TextR.assign rfl ?_
  refine TextR.done (.cons rfl (.cons rfl (.cons rfl .nil))) ?_
  refine Wp.seq ?_
  refine Wp.seq ?_
  refine Wp.go false none [[], [], [], [(11, false)], [(11, false)], [], [], [(15, false)], [(15, false)], [(15, false)], []] [] [1, 5, 19] mixed rfl rfl (by kernel_rfl) ?_ -- region 2
  refine RunR.load1 tk3 rfl rfl rfl rfl ?_
  refine RunR.int rfl rfl rfl rfl rfl ?_
  refine RunR.move rfl rfl rfl ?_
  refine RunR.load1 tk3 rfl rfl rfl rfl ?_
  refine RunR.int rfl rfl rfl rfl rfl ?_
  refine RunR.pickOr rfl rfl rfl rfl ?_
  refine RunR.move rfl rfl rfl ?_
  refine RunR.move rfl rfl rfl ?_
  refine RunR.lenM us22 rfl rfl rfl rfl ?_
  refine RunR.int rfl rfl rfl rfl rfl ?_
  refine RunR.pickOr rfl rfl rfl rfl ?_
  refine RunR.doneQ (.cons rfl (.cons rfl (.cons rfl .nil))) ?_
  refine Wp.condM h rfl (fun hc1 h => ?_) (fun hc1 h => ?_)
  · refine Wp.seq ?_
    refine Wp.text [4] rfl rfl ?_ -- region 3
    refine TextR.assign rfl ?_
    refine TextR.done (.cons rfl .nil) ?_
    refine Wp.ret ?_
    obtain rfl := Option.some.inj h
    exact Ret.one rfl (resV_tmp rfl) rfl
  · refine Wp.skip ?_
    refine Wp.seq ?_
    refine Wp.seq ?_
    refine Wp.text [1, 5, 20, 21, 22] rfl rfl ?_ -- region 4
    refine TextR.move rfl ?_
    refine TextR.lenM us22 rfl rfl ?_
    refine TextR.move rfl ?_
    refine TextR.done (.cons rfl (.cons rfl (.cons rfl (.cons rfl (.cons rfl .nil))))) ?_
    obtain ⟨z1, hz1, h⟩ := bind_some h
    refine Wp.fragR (fun S => ∃ z3, z1 = .inr z3 ∧ ∃ S', St.Weak ⟨Try.prog, 54, Γ⟩ S S' ∧ S' = ⟨[], []⟩) (fun S => ∃ v, z1 = .inl v ∧ Ret Try.prog Try.f18 (fun r' _ => r' = .c (I v)) .ret S) ?_ ?_ ?_
    · replace h := hz1
      refine Wp.block ?_
      refine Wp.weak (keepW (live := [1, 5, 20, 21, 22]) (.cons rfl (.cons rfl (.cons rfl (.cons rfl (.cons rfl .nil)))))) ?_
      refine Wp.loop (fun m S => ∃ s22_1, dag_Check_L1 N a0 a1 m s22_1 = some z1 ∧ S = ⟨[(1, .c (.slv (a1.map eArc))), (5, .c (.clo 35 [.ptr 0 0 0 0])), (20, .c (.slv (a1.map eArc))), (21, .c (I (a1.length : Int))), (22, .c (I s22_1))], [.live 0 1 [[I a0]]]⟩) N ⟨_, h, rfl⟩ ?_
      rintro m1 _ ⟨s22_1, h, rfl⟩
      cases m1 with
      | zero => rw [dag_Check_L1.eq_1] at h; cases h
      | succ m1 =>
      rw [dag_Check_L1.eq_2] at h
      refine Wp.seq ?_
      refine Wp.text [1, 5, 20, 21, 22, 23] rfl rfl ?_ -- region 5
      refine TextR.int rfl rfl rfl ?_
      refine TextR.done (.cons rfl (.cons rfl (.cons rfl (.cons rfl (.cons rfl (.cons rfl .nil)))))) ?_
      refine Wp.seq ?_
      refine Wp.condM h rfl (fun hc3 h => ?_) (fun hc3 h => ?_)
      · refine Wp.skip ?_
        refine Wp.seq ?_
        refine Wp.block ?_
        refine Wp.seq ?_
        obtain ⟨x4, hx4, h⟩ := bind_some h
        refine Wp.text [1, 5, 6, 7, 20, 21, 22] rfl rfl ?_ -- region 6
        refine TextR.move rfl ?_
        refine TextR.indexA se22 rfl rfl rfl hx4 rfl ?_
        refine TextR.loadNM tk37 rfl (at_get hx4) rfl ?_
        refine TextR.alloc 1 zc37 rfl rfl (.cons .nil) ?_
        refine TextR.assign rfl ?_
        refine TextR.store1 tk37 rfl rfl rfl rfl rfl rfl (.succ .zero) ?_
        refine TextR.done (.cons rfl (.cons rfl (.cons rfl (.cons rfl (.cons rfl (.cons rfl (.cons rfl .nil))))))) ?_
        refine Wp.seq ?_
        obtain ⟨y5, hy5, h⟩ := bind_some h
        obtain ⟨y6, hy6, h⟩ := bind_some h
        obtain ⟨x7, hx7, h⟩ := bind_some h
        obtain ⟨y8, hy8, h⟩ := bind_some h
        refine Wp.go true (some ⟨[], []⟩) [[], [], [], [], [], [], [(32, false)], [(32, false)], [(32, false)], [(32, false)], [(32, false)], [], [], [(39, false)], [(39, false)], [(39, false)], [(39, false)], [(39, false)], [], [], [(46, false)], [(46, false)], [(46, false)], [(46, false)], [(46, false)], []] [] [1, 5, 20, 21, 22, 52] mixed rfl rfl (by kernel_rfl) ?_ -- region 7
        refine RunR.move rfl rfl rfl ?_
        refine RunR.fieldAddr fo37_0 rfl rfl rfl rfl rfl ?_
        refine RunR.load1 tk3 rfl rfl rfl rfl ?_
        refine RunR.callH rfl rfl rfl rfl (fun hb => c_dag_Check_1 N x4.From a0 x4.From x4.To y5 hy5) ?_
        refine RunR.not rfl rfl rfl ?_
        refine RunR.move rfl rfl rfl ?_
        refine RunR.move rfl rfl rfl ?_
        refine RunR.fieldAddr fo37_1 rfl rfl rfl rfl rfl ?_
        refine RunR.load1 tk3 rfl rfl rfl rfl ?_
        refine RunR.callH rfl rfl rfl rfl (fun hb => c_dag_Check_1 N x4.To a0 x4.From x4.To y6 (ifT hy6 gF hb)) ?_
        refine RunR.not rfl rfl rfl ?_
        refine RunR.pickOr rfl rfl rfl rfl ?_
        refine RunR.move rfl rfl rfl ?_
        refine RunR.fieldAddr fo37_0 rfl rfl rfl rfl rfl ?_
        refine RunR.load1 tk3 rfl rfl rfl rfl ?_
        refine RunR.fieldAddr fo37_1 rfl rfl rfl rfl rfl ?_
        refine RunR.load1 tk3 rfl rfl rfl rfl ?_
        refine RunR.int rfl rfl rfl rfl rfl ?_
        refine RunR.pickOr rfl rfl rfl rfl ?_
        refine RunR.move rfl rfl rfl ?_
        refine RunR.move rfl rfl rfl ?_
        refine RunR.move rfl rfl rfl ?_
        refine RunR.sliceMG se22 rfl rfl rfl rfl rfl rfl rfl (ifT hx7 gF) (fun _ => rfl) ?_
        refine RunR.loadN (cs := [I x4.From, I x4.To]) tk37 rfl rfl rfl rfl ?_
        refine RunR.callG rfl rfl rfl (fun hb H => c_slices_Contains_Arc N x7 x4 y8 (ifT hy8 gF hb) H) ?_
        refine RunR.pickOr rfl rfl rfl rfl ?_
        refine RunR.doneQ (.cons rfl (.cons rfl (.cons rfl (.cons rfl (.cons rfl (.cons rfl .nil)))))) ?_
        refine Wp.condM h rfl (fun hc4 h => ?_) (fun hc4 h => ?_)
        · refine Wp.seq ?_
          refine Wp.text [4] rfl rfl ?_ -- region 8
          refine TextR.assign rfl ?_
          refine TextR.done (.cons rfl .nil) ?_
          refine Wp.ret ?_
          exact ⟨_, (Option.some.inj h).symm, Ret.one rfl (resV_tmp rfl) rfl⟩
        · refine Wp.skip ?_
          refine Wp.text [1, 5, 20, 21, 22] rfl rfl ?_ -- region 9
          refine TextR.int rfl rfl rfl ?_
          refine TextR.move rfl ?_
          refine TextR.done (.cons rfl (.cons rfl (.cons rfl (.cons rfl (.cons rfl .nil))))) ?_
          exact ⟨m1, Nat.lt_succ_self _, _, (St.Weak.trans (keepW (live := [1, 5, 20, 21, 22]) (.cons rfl (.cons rfl (.cons rfl (.cons rfl (.cons rfl .nil)))))) (pickT (e' := [(1, .c (.slv (a1.map eArc))), (5, .c (.clo 35 [.ptr 0 0 0 0])), (20, .c (.slv (a1.map eArc))), (21, .c (I (a1.length : Int))), (22, .c (I (w64 (s22_1 + 1))))]) (H' := [.live 0 1 [[I a0]]]) [0] [0, 0] 0 hok.len.symm rfl rfl (by decide) (by first | rfl | simp [-List.map_set]) (by first | rfl | simp [-List.map_set]) (by first | rfl | simp [-List.map_set]) (by first | rfl | simp [-List.map_set]))), _, h, rfl⟩
      · refine Wp.exit ?_
        exact ⟨_, (Option.some.inj h).symm, _, (St.Weak.trans (keepW (live := []) .nil) (pickT (e' := []) (H' := []) [] [0] 0 hok.len.symm rfl rfl (by decide) (by first | rfl | simp [-List.map_set]) (by first | rfl | simp [-List.map_set]) (by first | rfl | simp [-List.map_set]) (by first | rfl | simp [-List.map_set]))), rfl⟩
    · rintro _ ⟨z3, rfl, _, hw, rfl⟩
      dsimp only at h
      clear hz1
      refine Wp.weak hw ?_
      refine Wp.seq ?_
      refine Wp.text [4] rfl rfl ?_ -- region 10
      refine TextR.assign rfl ?_
      refine TextR.done (.cons rfl .nil) ?_
      refine Wp.ret ?_
      obtain rfl := Option.some.inj h
      exact Ret.one rfl (resV_tmp rfl) rfl
    · rintro S' ⟨r2, rfl, hR⟩
      dsimp only at h
      obtain rfl := Option.some.inj h
      exact hR
theorem c_dag_Check (N : Nat) (a0 : Int) (a1 : List TArc) (r : Int) (h : dag_Check N a0 a1 = some r) (H : List Ob) : DCall Try.prog 18 [.c (I a0), .c (.slv (a1.map eArc))] H (.c (I r)) := DCall.lift (by first | rfl | simp [-List.map_set]) (by first | rfl | simp [-List.map_set]) (fun _ => by simp [-List.map_set]) (w_dag_Check N a0 a1 r h) H
-- math/bits.Mul64
theorem w_math_bits_Mul64 (N : Nat) (a0 : Int) (a1 : Int) (r : Int × Int) (h : math_bits_Mul64 N a0 a1 = some r) : Nx.Call Try.prog 72 [.c (.v (.int .u64 a0)), .c (.v (.int .u64 a1))] [] fun r' _ => r' = .tup [.c (.v (.int .u64 r.1)), .c (.v (.int .u64 r.2))] := by
  refine Nx.Call.of_body Try.func72 rfl en72 Try.ntmps72 rfl (fun Γ hok => ?_)
  unfold math_bits_Mul64 at h
  refine Wp.seq ?_
  refine Wp.text [0, 1] rfl rfl ?_ -- region 0
  refine TextR.assign rfl ?_
  refine TextR.assign rfl ?_
  refine TextR.done (.cons rfl (.cons rfl .nil)) ?_
  refine Wp.seq ?_
  refine Wp.text [0, 1, 6] rfl rfl ?_ -- region 1
  refine TextR.move rfl ?_
  refine TextR.int rfl rfl rfl ?_
  refine TextR.assign rfl ?_
  refine TextR.done (.cons rfl (.cons rfl (.cons rfl .nil))) ?_
  refine Wp.seq ?_
  refine Wp.text [0, 1, 6, 7] rfl rfl ?_ -- region 2
  refine TextR.move rfl ?_
  refine TextR.int rfl rfl rfl ?_
  refine TextR.assign rfl ?_
  refine TextR.done (.cons rfl (.cons rfl (.cons rfl (.cons rfl .nil)))) ?_
  refine Wp.seq ?_
  refine Wp.text [0, 1, 6, 7, 8] rfl rfl ?_ -- region 3
  refine TextR.move rfl ?_
  refine TextR.int rfl rfl rfl ?_
  refine TextR.assign rfl ?_
  refine TextR.done (.cons rfl (.cons rfl (.cons rfl (.cons rfl (.cons rfl .nil))))) ?_
  refine Wp.seq ?_
  refine Wp.text [0, 1, 6, 7, 8, 9] rfl rfl ?_ -- region 4
  refine TextR.move rfl ?_
  refine TextR.int rfl rfl rfl ?_
  refine TextR.assign rfl ?_
  refine TextR.done (.cons rfl (.cons rfl (.cons rfl (.cons rfl (.cons rfl (.cons rfl .nil)))))) ?_
  refine Wp.seq ?_
  refine Wp.text [0, 1, 6, 7, 8, 9, 10] rfl rfl ?_ -- region 5
  refine TextR.move rfl ?_
  refine TextR.move rfl ?_
  refine TextR.int rfl rfl rfl ?_
  refine TextR.assign rfl ?_
  refine TextR.done (.cons rfl (.cons rfl (.cons rfl (.cons rfl (.cons rfl (.cons rfl (.cons rfl .nil))))))) ?_
  refine Wp.seq ?_
  refine Wp.text [0, 1, 6, 7, 9, 11] rfl rfl ?_ -- region 6
  refine TextR.move rfl ?_
  refine TextR.move rfl ?_
  refine TextR.int rfl rfl rfl ?_
  refine TextR.move rfl ?_
  refine TextR.int rfl rfl rfl ?_
  refine TextR.int rfl rfl rfl ?_
  refine TextR.assign rfl ?_
  refine TextR.done (.cons rfl (.cons rfl (.cons rfl (.cons rfl (.cons rfl (.cons rfl .nil)))))) ?_
  refine Wp.seq ?_
  refine Wp.text [0, 1, 6, 7, 9, 11, 12] rfl rfl ?_ -- region 7
  refine TextR.move rfl ?_
  refine TextR.int rfl rfl rfl ?_
  refine TextR.assign rfl ?_
  refine TextR.done (.cons rfl (.cons rfl (.cons rfl (.cons rfl (.cons rfl (.cons rfl (.cons rfl .nil))))))) ?_
  refine Wp.seq ?_
  refine Wp.text [0, 1, 6, 7, 9, 12, 13] rfl rfl ?_ -- region 8
  refine TextR.move rfl ?_
  refine TextR.int rfl rfl rfl ?_
  refine TextR.assign rfl ?_
  refine TextR.done (.cons rfl (.cons rfl (.cons rfl (.cons rfl (.cons rfl (.cons rfl (.cons rfl .nil))))))) ?_
  refine Wp.seq ?_
  refine Wp.text [0, 1, 7, 9, 12, 13] rfl rfl ?_ -- region 9
  refine TextR.move rfl ?_
  refine TextR.move rfl ?_
  refine TextR.move rfl ?_
  refine TextR.int rfl rfl rfl ?_
  refine TextR.int rfl rfl rfl ?_
  refine TextR.assign rfl ?_
  refine TextR.done (.cons rfl (.cons rfl (.cons rfl (.cons rfl (.cons rfl (.cons rfl .nil)))))) ?_
  refine Wp.seq ?_
  refine Wp.text [0, 1, 4] rfl rfl ?_ -- region 10
  refine TextR.move rfl ?_
  refine TextR.move rfl ?_
  refine TextR.int rfl rfl rfl ?_
  refine TextR.move rfl ?_
  refine TextR.int rfl rfl rfl ?_
  refine TextR.move rfl ?_
  refine TextR.int rfl rfl rfl ?_
  refine TextR.int rfl rfl rfl ?_
  refine TextR.assign rfl ?_
  refine TextR.done (.cons rfl (.cons rfl (.cons rfl .nil))) ?_
  refine Wp.seq ?_
  refine Wp.text [4, 5] rfl rfl ?_ -- region 11
  refine TextR.move rfl ?_
  refine TextR.move rfl ?_
  refine TextR.int rfl rfl rfl ?_
  refine TextR.assign rfl ?_
  refine TextR.done (.cons rfl (.cons rfl .nil)) ?_
  refine Wp.ret ?_
  obtain rfl := Option.some.inj h
  exact Ret.two rfl (resV_tmp rfl) (resV_tmp rfl) rfl
theorem c_math_bits_Mul64 (N : Nat) (a0 : Int) (a1 : Int) (r : Int × Int) (h : math_bits_Mul64 N a0 a1 = some r) (H : List Ob) : DCall Try.prog 72 [.c (.v (.int .u64 a0)), .c (.v (.int .u64 a1))] H (.tup [.c (.v (.int .u64 r.1)), .c (.v (.int .u64 r.2))]) := DCall.lift (by first | rfl | simp [-List.map_set]) (by first | rfl | simp [-List.map_set]) (fun _ => by simp [-List.map_set]) (w_math_bits_Mul64 N a0 a1 r h) H
-- math/bits.Mul
theorem w_math_bits_Mul (N : Nat) (a0 : Int) (a1 : Int) (r : Int × Int) (h : math_bits_Mul N a0 a1 = some r) : Nx.Call Try.prog 58 [.c (.v (.int .u64 a0)), .c (.v (.int .u64 a1))] [] fun r' _ => r' = .tup [.c (.v (.int .u64 r.1)), .c (.v (.int .u64 r.2))] := by
  refine Nx.Call.of_body Try.func58 rfl en58 Try.ntmps58 rfl (fun Γ hok => ?_)
  unfold math_bits_Mul at h
  refine Wp.seq ?_
  refine Wp.text [0, 1] rfl rfl ?_ -- region 0
  refine TextR.assign rfl ?_
  refine TextR.assign rfl ?_
  refine TextR.done (.cons rfl (.cons rfl .nil)) ?_
  refine Wp.seq ?_
  refine Wp.condF ?_
  refine Wp.skip ?_
  refine Wp.seq ?_
  obtain ⟨y1, hy1, h⟩ := bind_some h
  refine Wp.text [8, 9] rfl rfl ?_ -- region 3
  refine TextR.move rfl ?_
  refine TextR.move rfl ?_
  refine TextR.dcall rfl rfl (c_math_bits_Mul64 N a0 a1 y1 hy1 _) ?_
  refine TextR.move rfl ?_
  refine TextR.extract rfl rfl ?_
  refine TextR.extract rfl rfl ?_
  refine TextR.assign rfl ?_
  refine TextR.assign rfl ?_
  refine TextR.done (.cons rfl (.cons rfl .nil)) ?_
  refine Wp.seq ?_
  refine Wp.text [4, 5] rfl rfl ?_ -- region 4
  refine TextR.move rfl ?_
  refine TextR.move rfl ?_
  refine TextR.assign rfl ?_
  refine TextR.assign rfl ?_
  refine TextR.done (.cons rfl (.cons rfl .nil)) ?_
  refine Wp.ret ?_
  obtain rfl := Option.some.inj h
  exact Ret.two rfl (resV_tmp rfl) (resV_tmp rfl) rfl
theorem c_math_bits_Mul (N : Nat) (a0 : Int) (a1 : Int) (r : Int × Int) (h : math_bits_Mul N a0 a1 = some r) (H : List Ob) : DCall Try.prog 58 [.c (.v (.int .u64 a0)), .c (.v (.int .u64 a1))] H (.tup [.c (.v (.int .u64 r.1)), .c (.v (.int .u64 r.2))]) := DCall.lift (by first | rfl | simp [-List.map_set]) (by first | rfl | simp [-List.map_set]) (fun _ => by simp [-List.map_set]) (w_math_bits_Mul N a0 a1 r h) H
-- slices.Repeat[[]bool,bool]
theorem w_slices_Repeat_bool (N : Nat) (a0 : List Bool) (a1 : Int) (r : (List Bool)) (h : slices_Repeat_bool N a0 a1 = some r) : Nx.Call Try.prog 50 [.c (.slv (a0.map eB)), .c (I a1)] [] fun r' _ => r' = .c (.slv (r.map eB)) := by
  refine Nx.Call.of_body Try.func50 rfl en50 Try.ntmps50 rfl (fun Γ hok => ?_)
  unfold slices_Repeat_bool at h
  refine Wp.seq ?_
  refine Wp.text [0, 1] rfl rfl ?_ -- region 0
  refine TextR.assign rfl ?_
  refine TextR.done (.cons rfl (.cons rfl .nil)) ?_
  refine Wp.seq ?_
  refine Wp.seq ?_
  refine Wp.text [0, 1, 10] rfl rfl ?_ -- region 1
  refine TextR.move rfl ?_
  refine TextR.int rfl rfl rfl ?_
  refine TextR.done (.cons rfl (.cons rfl (.cons rfl .nil))) ?_
  refine Wp.condM h rfl (fun hc1 h => ?_) (fun hc1 h => ?_)
  · cases h
  · refine Wp.skip ?_
    refine Wp.seq ?_
    obtain ⟨y1, hy1, h⟩ := bind_some h
    refine Wp.text [0, 5, 6] rfl rfl ?_ -- region 3
    refine TextR.move rfl ?_
    refine TextR.lenM us45 rfl rfl ?_
    refine TextR.convert ik3 ik64 rfl ?_
    refine TextR.move rfl ?_
    refine TextR.convert ik3 ik64 rfl ?_
    refine TextR.dcall rfl rfl (c_math_bits_Mul N (IntKind.u64.wrap (a0.length : Int)) (IntKind.u64.wrap a1) y1 hy1 _) ?_
    refine TextR.move rfl ?_
    refine TextR.extract rfl rfl ?_
    refine TextR.extract rfl rfl ?_
    refine TextR.assign rfl ?_
    refine TextR.assign rfl ?_
    refine TextR.done (.cons rfl (.cons rfl (.cons rfl .nil))) ?_
    refine Wp.seq ?_
    refine Wp.seq ?_
    refine Wp.go false none [[], [], [], [(23, false)], [(23, false)], []] [] [0, 6, 26] mixed rfl rfl (by kernel_rfl) ?_ -- region 4
    refine RunR.move rfl rfl rfl ?_
    refine RunR.int rfl rfl rfl rfl rfl ?_
    refine RunR.move rfl rfl rfl ?_
    refine RunR.move rfl rfl rfl ?_
    refine RunR.int rfl rfl rfl rfl rfl ?_
    refine RunR.pickOr rfl rfl rfl rfl ?_
    refine RunR.doneQ (.cons rfl (.cons rfl (.cons rfl .nil))) ?_
    refine Wp.condM h rfl (fun hc2 h => ?_) (fun hc2 h => ?_)
    · cases h
    · refine Wp.skip ?_
      refine Wp.seq ?_
      obtain ⟨x2, hx2, h⟩ := bind_some h
      refine Wp.text [0, 7] rfl rfl ?_ -- region 6
      refine TextR.move rfl ?_
      refine TextR.convert ik64 ik3 rfl ?_
      refine TextR.makeM (f := eB) 0 se45 rfl rfl rfl rfl hx2 rfl .nil ?_
      refine TextR.assign rfl ?_
      refine TextR.done (.cons rfl (.cons rfl .nil)) ?_
      refine Wp.seq ?_
      refine Wp.text [7, 8] rfl rfl ?_ -- region 7
      refine TextR.move rfl ?_
      refine TextR.move rfl ?_
      refine TextR.copyM eB x2 a0 se45 rfl rfl (by simp) rfl rfl (fun _ => rfl) .zero ?_
      refine TextR.assign rfl ?_
      refine TextR.done (.cons rfl (.cons rfl .nil)) ?_
      refine Wp.weak (eqW (S' := ⟨[(7, .c (.sl 0 0 0 (cpy x2 0 x2.length a0).length)), (8, .c (I ((min a0.length x2.length : Nat) : Int)))], [.live 0 1 ((cpy x2 0 x2.length a0).map eB)]⟩) (by have e0 := length_cpy x2 0 x2.length a0 (by simp); first | rfl | (simp only [List.length_set]; done) | (simp only [List.length_set]; rfl) | (simp only [List.length_set, e0]; done) | (simp only [List.length_set, e0]; rfl))) ?_
      refine Wp.seq ?_
      obtain ⟨z3, hz3, h⟩ := bind_some h
      refine Wp.fragN (fun S => ∃ S', St.Weak ⟨Try.prog, 48, Γ⟩ S S' ∧ S' = ⟨[(7, .c (.sl 0 0 0 z3.length))], [.live 0 1 (z3.map eB)]⟩) ?_ ?_
      · replace h := hz3
        refine Wp.block ?_
        refine Wp.weak (keepW (live := [7, 8]) (.cons rfl (.cons rfl .nil))) ?_
        refine Wp.loop (fun m S => ∃ l0_1, ∃ s8_1, slices_Repeat_bool_L1 N m l0_1 s8_1 = some z3 ∧ S = ⟨[(7, .c (.sl 0 0 0 l0_1.length)), (8, .c (I s8_1))], [.live 0 1 (l0_1.map eB)]⟩) N ⟨_, _, h, rfl⟩ ?_
        rintro m1 _ ⟨l0_1, s8_1, h, rfl⟩
        cases m1 with
        | zero => rw [slices_Repeat_bool_L1.eq_1] at h; cases h
        | succ m1 =>
        rw [slices_Repeat_bool_L1.eq_2] at h
        refine Wp.seq ?_
        refine Wp.seq ?_
        refine Wp.text [7, 8, 37] rfl rfl ?_ -- region 8
        refine TextR.move rfl ?_
        refine TextR.move rfl ?_
        refine TextR.len us45 rfl rfl ?_
        refine TextR.int rfl rfl rfl ?_
        refine TextR.done (.cons rfl (.cons rfl (.cons rfl .nil))) ?_
        refine Wp.condM h rfl (fun hc4 h => ?_) (fun hc4 h => ?_)
        · refine Wp.skip ?_
          refine Wp.block ?_
          obtain ⟨x4, hx4, h⟩ := bind_some h
          obtain ⟨x5, hx5, h⟩ := bind_some h
          refine Wp.go true (some ⟨[0], []⟩) [] [true, false, false, false, false, false, false, false, false, false] [7, 8] mixed rfl rfl (by kernel_rfl) ?_ -- region 9
          refine RunR.move rfl rfl rfl ?_
          refine RunR.move rfl rfl rfl ?_
          refine RunR.move rfl rfl rfl ?_
          refine RunR.sliceOM se45 rfl rfl rfl rfl rfl rfl rfl rfl hx4 ?_
          refine RunR.move rfl rfl rfl ?_
          refine RunR.move rfl rfl rfl ?_
          refine RunR.sliceOM se45 rfl rfl rfl rfl rfl rfl rfl rfl hx5 ?_
          refine RunR.copyM eB l0_1 ((l0_1.drop 0).take x5.length) se45 rfl rfl rfl rfl (by have q0 := sub_le hx4; first | exact q0 | (simp only [List.length_set, List.length_take, List.length_drop, length_cpy, length_clr] at *; omega)) rfl (view_piece (f := eB) (xs := l0_1) rfl (by have q0 := sub_le hx5; first | exact q0 | (simp only [List.length_set, List.length_take, List.length_drop, length_cpy, length_clr] at *; omega))) (fun _ => rfl) .zero ?_
          refine RunR.int rfl rfl rfl rfl rfl ?_
          refine RunR.assign rfl rfl rfl ?_
          refine RunR.doneQ (.cons rfl (.cons rfl .nil)) ?_
          exact ⟨m1, Nat.lt_succ_self _, _, (St.Weak.trans (eqW (S' := ⟨[(7, .c (.sl 0 0 0 (cpy l0_1 (Int.toNat s8_1) x4.length ((l0_1.drop 0).take x5.length)).length)), (8, .c (I (w64 (s8_1 + ((min ((l0_1.drop 0).take x5.length).length x4.length : Nat) : Int)))))], [.live 0 1 ((cpy l0_1 (Int.toNat s8_1) x4.length ((l0_1.drop 0).take x5.length)).map eB)]⟩) (by have e0 := length_cpy l0_1 (Int.toNat s8_1) x4.length ((l0_1.drop 0).take x5.length) (by have q0 := sub_le hx4; first | exact q0 | (simp only [List.length_set, List.length_take, List.length_drop, length_cpy, length_clr] at *; omega)); first | rfl | (simp only [List.length_set]; done) | (simp only [List.length_set]; rfl) | (simp only [List.length_set, e0]; done) | (simp only [List.length_set, e0]; rfl))) (keepW (live := [7, 8]) (.cons rfl (.cons rfl .nil)))), _, _, h, rfl⟩
        · refine Wp.exit ?_
          obtain rfl := Option.some.inj h
          exact ⟨_, (keepW (live := [7]) (.cons rfl .nil)), rfl⟩
      rintro _ ⟨S', hw, rfl⟩
      clear hz3
      refine Wp.weak hw ?_
      refine Wp.seq ?_
      refine Wp.text [4] rfl rfl ?_ -- region 10
      refine TextR.move rfl ?_
      refine TextR.assign rfl ?_
      refine TextR.done (.cons rfl .nil) ?_
      refine Wp.weak (keepW (live := [4] ) (.cons rfl .nil)) ?_
      refine Wp.weak (freezeW (h := 0) (ver := 0) (rows := z3.map eB) (e' := [(4, .c (.slv (z3.map eB)))]) (H' := [.dead]) rfl (by first | rfl | simp [-List.map_set]) (by first | rfl | simp [-List.map_set])) ?_
      refine Wp.ret ?_
      obtain rfl := Option.some.inj h
      exact Ret.one rfl (resV_tmp rfl) rfl
theorem c_slices_Repeat_bool (N : Nat) (a0 : List Bool) (a1 : Int) (r : (List Bool)) (h : slices_Repeat_bool N a0 a1 = some r) (H : List Ob) : DCall Try.prog 50 [.c (.slv (a0.map eB)), .c (I a1)] H (.c (.slv (r.map eB))) := DCall.lift (by first | rfl | simp [-List.map_set]) (by first | rfl | simp [-List.map_set]) (fun _ => by simp [-List.map_set]) (w_slices_Repeat_bool N a0 a1 r h) H
theorem b_slices_Repeat_bool (N : Nat) (a0 : List Bool) (a1 : Int) (r : (List Bool)) (h : slices_Repeat_bool N a0 a1 = some r) : Nx.Call Try.prog 50 [.c (.slv (a0.map eB)), .c (I a1)] [] fun r' H' => r' = .c (.sl 0 0 0 r.length) ∧ ∃ junk, H' = [.live 0 1 (r.map eB)] ++ junk := by
  refine Nx.Call.of_body Try.func50 rfl en50 Try.ntmps50 rfl (fun Γ hok => ?_)
  unfold slices_Repeat_bool at h
  refine Wp.seq ?_
  refine Wp.text [0, 1] rfl rfl ?_ -- region 0
  refine TextR.assign rfl ?_
  refine TextR.done (.cons rfl (.cons rfl .nil)) ?_
  refine Wp.seq ?_
  refine Wp.seq ?_
  refine Wp.text [0, 1, 10] rfl rfl ?_ -- region 1
  refine TextR.move rfl ?_
  refine TextR.int rfl rfl rfl ?_
  refine TextR.done (.cons rfl (.cons rfl (.cons rfl .nil))) ?_
  refine Wp.condM h rfl (fun hc1 h => ?_) (fun hc1 h => ?_)
  · cases h
  · refine Wp.skip ?_
    refine Wp.seq ?_
    obtain ⟨y1, hy1, h⟩ := bind_some h
    refine Wp.text [0, 5, 6] rfl rfl ?_ -- region 3
    refine TextR.move rfl ?_
    refine TextR.lenM us45 rfl rfl ?_
    refine TextR.convert ik3 ik64 rfl ?_
    refine TextR.move rfl ?_
    refine TextR.convert ik3 ik64 rfl ?_
    refine TextR.dcall rfl rfl (c_math_bits_Mul N (IntKind.u64.wrap (a0.length : Int)) (IntKind.u64.wrap a1) y1 hy1 _) ?_
    refine TextR.move rfl ?_
    refine TextR.extract rfl rfl ?_
    refine TextR.extract rfl rfl ?_
    refine TextR.assign rfl ?_
    refine TextR.assign rfl ?_
    refine TextR.done (.cons rfl (.cons rfl (.cons rfl .nil))) ?_
    refine Wp.seq ?_
    refine Wp.seq ?_
    refine Wp.go false none [[], [], [], [(23, false)], [(23, false)], []] [] [0, 6, 26] mixed rfl rfl (by kernel_rfl) ?_ -- region 4
    refine RunR.move rfl rfl rfl ?_
    refine RunR.int rfl rfl rfl rfl rfl ?_
    refine RunR.move rfl rfl rfl ?_
    refine RunR.move rfl rfl rfl ?_
    refine RunR.int rfl rfl rfl rfl rfl ?_
    refine RunR.pickOr rfl rfl rfl rfl ?_
    refine RunR.doneQ (.cons rfl (.cons rfl (.cons rfl .nil))) ?_
    refine Wp.condM h rfl (fun hc2 h => ?_) (fun hc2 h => ?_)
    · cases h
    · refine Wp.skip ?_
      refine Wp.seq ?_
      obtain ⟨x2, hx2, h⟩ := bind_some h
      refine Wp.text [0, 7] rfl rfl ?_ -- region 6
      refine TextR.move rfl ?_
      refine TextR.convert ik64 ik3 rfl ?_
      refine TextR.makeM (f := eB) 0 se45 rfl rfl rfl rfl hx2 rfl .nil ?_
      refine TextR.assign rfl ?_
      refine TextR.done (.cons rfl (.cons rfl .nil)) ?_
      refine Wp.seq ?_
      refine Wp.text [7, 8] rfl rfl ?_ -- region 7
      refine TextR.move rfl ?_
      refine TextR.move rfl ?_
      refine TextR.copyM eB x2 a0 se45 rfl rfl (by simp) rfl rfl (fun _ => rfl) .zero ?_
      refine TextR.assign rfl ?_
      refine TextR.done (.cons rfl (.cons rfl .nil)) ?_
      refine Wp.weak (eqW (S' := ⟨[(7, .c (.sl 0 0 0 (cpy x2 0 x2.length a0).length)), (8, .c (I ((min a0.length x2.length : Nat) : Int)))], [.live 0 1 ((cpy x2 0 x2.length a0).map eB)]⟩) (by have e0 := length_cpy x2 0 x2.length a0 (by simp); first | rfl | (simp only [List.length_set]; done) | (simp only [List.length_set]; rfl) | (simp only [List.length_set, e0]; done) | (simp only [List.length_set, e0]; rfl))) ?_
      refine Wp.seq ?_
      obtain ⟨z3, hz3, h⟩ := bind_some h
      refine Wp.fragN (fun S => ∃ S', St.Weak ⟨Try.prog, 48, Γ⟩ S S' ∧ S' = ⟨[(7, .c (.sl 0 0 0 z3.length))], [.live 0 1 (z3.map eB)]⟩) ?_ ?_
      · replace h := hz3
        refine Wp.block ?_
        refine Wp.weak (keepW (live := [7, 8]) (.cons rfl (.cons rfl .nil))) ?_
        refine Wp.loop (fun m S => ∃ l0_1, ∃ s8_1, slices_Repeat_bool_L1 N m l0_1 s8_1 = some z3 ∧ S = ⟨[(7, .c (.sl 0 0 0 l0_1.length)), (8, .c (I s8_1))], [.live 0 1 (l0_1.map eB)]⟩) N ⟨_, _, h, rfl⟩ ?_
        rintro m1 _ ⟨l0_1, s8_1, h, rfl⟩
        cases m1 with
        | zero => rw [slices_Repeat_bool_L1.eq_1] at h; cases h
        | succ m1 =>
        rw [slices_Repeat_bool_L1.eq_2] at h
        refine Wp.seq ?_
        refine Wp.seq ?_
        refine Wp.text [7, 8, 37] rfl rfl ?_ -- region 8
        refine TextR.move rfl ?_
        refine TextR.move rfl ?_
        refine TextR.len us45 rfl rfl ?_
        refine TextR.int rfl rfl rfl ?_
        refine TextR.done (.cons rfl (.cons rfl (.cons rfl .nil))) ?_
        refine Wp.condM h rfl (fun hc4 h => ?_) (fun hc4 h => ?_)
        · refine Wp.skip ?_
          refine Wp.block ?_
          obtain ⟨x4, hx4, h⟩ := bind_some h
          obtain ⟨x5, hx5, h⟩ := bind_some h
          refine Wp.go true (some ⟨[0], []⟩) [] [true, false, false, false, false, false, false, false, false, false] [7, 8] mixed rfl rfl (by kernel_rfl) ?_ -- region 9
          refine RunR.move rfl rfl rfl ?_
          refine RunR.move rfl rfl rfl ?_
          refine RunR.move rfl rfl rfl ?_
          refine RunR.sliceOM se45 rfl rfl rfl rfl rfl rfl rfl rfl hx4 ?_
          refine RunR.move rfl rfl rfl ?_
          refine RunR.move rfl rfl rfl ?_
          refine RunR.sliceOM se45 rfl rfl rfl rfl rfl rfl rfl rfl hx5 ?_
          refine RunR.copyM eB l0_1 ((l0_1.drop 0).take x5.length) se45 rfl rfl rfl rfl (by have q0 := sub_le hx4; first | exact q0 | (simp only [List.length_set, List.length_take, List.length_drop, length_cpy, length_clr] at *; omega)) rfl (view_piece (f := eB) (xs := l0_1) rfl (by have q0 := sub_le hx5; first | exact q0 | (simp only [List.length_set, List.length_take, List.length_drop, length_cpy, length_clr] at *; omega))) (fun _ => rfl) .zero ?_
          refine RunR.int rfl rfl rfl rfl rfl ?_
          refine RunR.assign rfl rfl rfl ?_
          refine RunR.doneQ (.cons rfl (.cons rfl .nil)) ?_
          exact ⟨m1, Nat.lt_succ_self _, _, (St.Weak.trans (eqW (S' := ⟨[(7, .c (.sl 0 0 0 (cpy l0_1 (Int.toNat s8_1) x4.length ((l0_1.drop 0).take x5.length)).length)), (8, .c (I (w64 (s8_1 + ((min ((l0_1.drop 0).take x5.length).length x4.length : Nat) : Int)))))], [.live 0 1 ((cpy l0_1 (Int.toNat s8_1) x4.length ((l0_1.drop 0).take x5.length)).map eB)]⟩) (by have e0 := length_cpy l0_1 (Int.toNat s8_1) x4.length ((l0_1.drop 0).take x5.length) (by have q0 := sub_le hx4; first | exact q0 | (simp only [List.length_set, List.length_take, List.length_drop, length_cpy, length_clr] at *; omega)); first | rfl | (simp only [List.length_set]; done) | (simp only [List.length_set]; rfl) | (simp only [List.length_set, e0]; done) | (simp only [List.length_set, e0]; rfl))) (keepW (live := [7, 8]) (.cons rfl (.cons rfl .nil)))), _, _, h, rfl⟩
        · refine Wp.exit ?_
          obtain rfl := Option.some.inj h
          exact ⟨_, (keepW (live := [7]) (.cons rfl .nil)), rfl⟩
      rintro _ ⟨S', hw, rfl⟩
      clear hz3
      refine Wp.weak hw ?_
      refine Wp.seq ?_
      refine Wp.text [4] rfl rfl ?_ -- region 10
      refine TextR.move rfl ?_
      refine TextR.assign rfl ?_
      refine TextR.done (.cons rfl .nil) ?_
      refine Wp.weak (keepW (live := [4] ) (.cons rfl .nil)) ?_
      refine Wp.ret ?_
      obtain rfl := Option.some.inj h
      exact Ret.one rfl (resV_tmp rfl) ⟨rfl, _, rfl⟩
theorem o_slices_Repeat_bool (N : Nat) (a0 : List Bool) (a1 : Int) (r : (List Bool)) (h : slices_Repeat_bool N a0 a1 = some r) {H H1 : List Ob} (k : Nat) (hh : H.length = k) (hs : Snoc (.live 0 1 (r.map eB)) H H1) : Nx.Call Try.prog 50 [.c (.slv (a0.map eB)), .c (I a1)] H fun r' H' => r' = .c (.sl k 0 0 r.length) ∧ H' = H1 := by
  have hc := Call.lift (objs := [.live 0 1 (r.map eB)]) (by first | rfl | simp [-List.map_set]) rfl (by have := okR_eB (p := mvL 1) r; simpa [mvO] using this) (b_slices_Repeat_bool N a0 a1 r h) H
  refine Call.mono hc fun r' H' ⟨h1, h2⟩ => ⟨by subst hh; simpa [shV, shL] using h1, ?_⟩
  rw [h2, ← hs.eq]
  simp [shO, fx_eB]
-- narthex/dag.run$1
theorem w_dag_run_1_3 (N : Nat) (a0 : TArc) (l0 : List Int) (l2 : List Bool) (c3_0 : Int) {w0 : Nat} {w2 : Nat} (r : Bool) (h : dag_run_1_3 N a0 l0 l2 c3_0 = some r) : Nx.Call Try.prog 51 [.agg (eArc a0), .c (.ptr 3 0 0 0), .c (.ptr 1 0 0 0)] [.live w0 1 (l0.map eI), .live 0 1 [[.sl 2 w2 0 l2.length]], .live w2 1 (l2.map eB), .live 0 1 [[I c3_0]]] fun r' H' => r' = .c (B r) ∧ ∃ junk, H' = [.live w0 1 (l0.map eI), .live 0 1 [[.sl 2 w2 0 l2.length]], .live w2 1 (l2.map eB), .live 0 1 [[I c3_0]]] ++ junk := by
  refine Nx.Call.of_body Try.func51 rfl en51 Try.ntmps51 rfl (fun Γ hok => ?_)
  unfold dag_run_1_3 at h
  refine Wp.seq ?_
  refine Wp.text [1, 2, 3] rfl rfl ?_ -- region 0
  refine TextR.box (cs := [I a0.From, I a0.To]) 4 rfl rfl rfl rfl (.cons (.cons (.cons (.cons .nil)))) ?_
  refine TextR.assign rfl ?_
  refine TextR.done (.cons rfl (.cons rfl (.cons rfl .nil))) ?_
  refine Wp.seq ?_
  obtain ⟨x1, hx1, h⟩ := bind_some h
  refine Wp.go false none [[], [], [], [], [], [(9, true)], [(9, true)], [(9, true)], [(9, true)], [(9, true)], [], []] [] [4] mixed rfl rfl (by kernel_rfl) ?_ -- region 1
  refine RunR.fieldAddr fo37_1 rfl rfl rfl rfl rfl ?_
  refine RunR.load1 tk3 rfl rfl rfl rfl ?_
  refine RunR.load1 tk3 rfl rfl rfl rfl ?_
  refine RunR.int rfl rfl rfl rfl rfl ?_
  refine RunR.move rfl rfl rfl ?_
  refine RunR.load1 tk45 rfl rfl rfl rfl ?_
  refine RunR.fieldAddr fo37_0 rfl rfl rfl rfl rfl ?_
  refine RunR.load1 tk3 rfl rfl rfl rfl ?_
  refine RunR.indexOAG se45 rfl rfl rfl rfl (obj_of rfl) (ifPos hx1 gT) (ifAt hx1 gT) ?_
  refine RunR.load1OG tk4 rfl rfl rfl (obj_of rfl) (ifAt hx1 gT) rfl ?_
  refine RunR.pickAnd rfl rfl rfl rfl ?_
  refine RunR.assign rfl rfl rfl ?_
  refine RunR.doneQ (.cons rfl .nil) ?_
  refine Wp.ret ?_
  obtain rfl := Option.some.inj h
  exact Ret.one rfl (resV_tmp rfl) ⟨rfl, _, rfl⟩
theorem c_dag_run_1_3 (N : Nat) (a0 : TArc) (l0 : List Int) (l2 : List Bool) (c3_0 : Int) {w0 : Nat} {w2 : Nat} (r : Bool) (h : dag_run_1_3 N a0 l0 l2 c3_0 = some r) : DCall Try.prog 51 [.agg (eArc a0), .c (.ptr 3 0 0 0), .c (.ptr 1 0 0 0)] [.live w0 1 (l0.map eI), .live 0 1 [[.sl 2 w2 0 l2.length]], .live w2 1 (l2.map eB), .live 0 1 [[I c3_0]]] (.c (B r)) := Call.trim (by simp) (by first | rfl | simp [-List.map_set]) (by first | rfl | simp [-List.map_set]) (w_dag_run_1_3 N a0 l0 l2 c3_0 r h)
-- slices.IndexFunc[[]narthex/api.Arc,narthex/api.Arc]
theorem w_slices_IndexFunc_Arc_3 (N : Nat) (a0 : List TArc) (l0 : List Int) (l2 : List Bool) (c3_0 : Int) {w0 : Nat} {w2 : Nat} (r : Int) (h : slices_IndexFunc_Arc_3 N a0 l0 l2 c3_0 = some r) : Nx.Call Try.prog 59 [.c (.slv (a0.map eArc)), .c (.clo 51 [.ptr 3 0 0 0, .ptr 1 0 0 0])] [.live w0 1 (l0.map eI), .live 0 1 [[.sl 2 w2 0 l2.length]], .live w2 1 (l2.map eB), .live 0 1 [[I c3_0]]] fun r' H' => r' = .c (I r) ∧ ∃ junk, H' = [.live w0 1 (l0.map eI), .live 0 1 [[.sl 2 w2 0 l2.length]], .live w2 1 (l2.map eB), .live 0 1 [[I c3_0]]] ++ junk := by
  refine Nx.Call.of_body Try.func59 rfl en59 Try.ntmps59 rfl (fun Γ hok => ?_)
  unfold slices_IndexFunc_Arc_3 at h
  refine Wp.seq ?_
  refine Wp.text [0, 1] rfl rfl ?_ -- region 0
  refine TextR.assign rfl ?_
  refine TextR.done (.cons rfl (.cons rfl .nil)) ?_
  refine Wp.seq ?_
  refine Wp.seq ?_
  refine Wp.text [0, 1, 7, 8] rfl rfl ?_ -- region 1
  refine TextR.move rfl ?_
  refine TextR.lenM us22 rfl rfl ?_
  refine TextR.move rfl ?_
  refine TextR.done (.cons rfl (.cons rfl (.cons rfl (.cons rfl .nil)))) ?_
  obtain ⟨z1, hz1, h⟩ := bind_some h
  refine Wp.fragR (fun S => ∃ z3, z1 = .inr z3 ∧ ∃ S', St.Weak ⟨Try.prog, 19, Γ⟩ S S' ∧ S' = ⟨[], [.live w0 1 (l0.map eI), .live 0 1 [[.sl 2 w2 0 l2.length]], .live w2 1 (l2.map eB), .live 0 1 [[I c3_0]]]⟩) (fun S => ∃ v, z1 = .inl v ∧ Ret Try.prog Try.f59 (fun r' H' => r' = .c (I v) ∧ ∃ junk, H' = [.live w0 1 (l0.map eI), .live 0 1 [[.sl 2 w2 0 l2.length]], .live w2 1 (l2.map eB), .live 0 1 [[I c3_0]]] ++ junk) .ret S) ?_ ?_ ?_
  · replace h := hz1
    refine Wp.block ?_
    refine Wp.weak (keepW (live := [0, 1, 7, 8]) (.cons rfl (.cons rfl (.cons rfl (.cons rfl .nil))))) ?_
    refine Wp.loop (fun m S => ∃ s8_1, slices_IndexFunc_Arc_3_L1 N a0 l0 l2 c3_0 m s8_1 = some z1 ∧ S = ⟨[(0, .c (.slv (a0.map eArc))), (1, .c (.clo 51 [.ptr 3 0 0 0, .ptr 1 0 0 0])), (7, .c (I (a0.length : Int))), (8, .c (I s8_1))], [.live w0 1 (l0.map eI), .live 0 1 [[.sl 2 w2 0 l2.length]], .live w2 1 (l2.map eB), .live 0 1 [[I c3_0]]]⟩) N ⟨_, h, rfl⟩ ?_
    rintro m1 _ ⟨s8_1, h, rfl⟩
    cases m1 with
    | zero => rw [slices_IndexFunc_Arc_3_L1.eq_1] at h; cases h
    | succ m1 =>
    rw [slices_IndexFunc_Arc_3_L1.eq_2] at h
    refine Wp.seq ?_
    refine Wp.text [0, 1, 7, 8, 9] rfl rfl ?_ -- region 2
    refine TextR.int rfl rfl rfl ?_
    refine TextR.done (.cons rfl (.cons rfl (.cons rfl (.cons rfl (.cons rfl .nil))))) ?_
    refine Wp.seq ?_
    refine Wp.condM h rfl (fun hc2 h => ?_) (fun hc2 h => ?_)
    · refine Wp.skip ?_
      refine Wp.seq ?_
      refine Wp.block ?_
      refine Wp.seq ?_
      refine Wp.text [0, 1, 5, 7, 8] rfl rfl ?_ -- region 3
      refine TextR.move rfl ?_
      refine TextR.assign rfl ?_
      refine TextR.done (.cons rfl (.cons rfl (.cons rfl (.cons rfl (.cons rfl .nil))))) ?_
      refine Wp.seq ?_
      obtain ⟨x4, hx4, h⟩ := bind_some h
      obtain ⟨y5, hy5, h⟩ := bind_some h
      refine Wp.text [0, 1, 5, 7, 8, 16] rfl rfl ?_ -- region 4
      refine TextR.move rfl ?_
      refine TextR.move rfl ?_
      refine TextR.move rfl ?_
      refine TextR.indexA se22 rfl rfl rfl hx4 rfl ?_
      refine TextR.loadNM tk37 rfl (at_get hx4) rfl ?_
      refine TextR.dcall rfl rfl (c_dag_run_1_3 N x4 l0 l2 c3_0 y5 hy5) ?_
      refine TextR.done (.cons rfl (.cons rfl (.cons rfl (.cons rfl (.cons rfl (.cons rfl .nil)))))) ?_
      refine Wp.condM h rfl (fun hc3 h => ?_) (fun hc3 h => ?_)
      · refine Wp.seq ?_
        refine Wp.text [4] rfl rfl ?_ -- region 5
        refine TextR.move rfl ?_
        refine TextR.assign rfl ?_
        refine TextR.done (.cons rfl .nil) ?_
        refine Wp.ret ?_
        exact ⟨_, (Option.some.inj h).symm, Ret.one rfl (resV_tmp rfl) ⟨rfl, _, rfl⟩⟩
      · refine Wp.skip ?_
        refine Wp.text [0, 1, 7, 8] rfl rfl ?_ -- region 6
        refine TextR.int rfl rfl rfl ?_
        refine TextR.move rfl ?_
        refine TextR.done (.cons rfl (.cons rfl (.cons rfl (.cons rfl .nil)))) ?_
        exact ⟨m1, Nat.lt_succ_self _, _, (keepW (live := [0, 1, 7, 8]) (.cons rfl (.cons rfl (.cons rfl (.cons rfl .nil))))), _, h, rfl⟩
    · refine Wp.exit ?_
      exact ⟨_, (Option.some.inj h).symm, _, (keepW (live := []) .nil), rfl⟩
  · rintro _ ⟨z3, rfl, _, hw, rfl⟩
    dsimp only at h
    clear hz1
    refine Wp.weak hw ?_
    refine Wp.seq ?_
    refine Wp.text [4] rfl rfl ?_ -- region 7
    refine TextR.assign rfl ?_
    refine TextR.done (.cons rfl .nil) ?_
    refine Wp.ret ?_
    obtain rfl := Option.some.inj h
    exact Ret.one rfl (resV_tmp rfl) ⟨rfl, _, rfl⟩
  · rintro S' ⟨r2, rfl, hR⟩
    dsimp only at h
    obtain rfl := Option.some.inj h
    exact hR
theorem c_slices_IndexFunc_Arc_3 (N : Nat) (a0 : List TArc) (l0 : List Int) (l2 : List Bool) (c3_0 : Int) {w0 : Nat} {w2 : Nat} (r : Int) (h : slices_IndexFunc_Arc_3 N a0 l0 l2 c3_0 = some r) : DCall Try.prog 59 [.c (.slv (a0.map eArc)), .c (.clo 51 [.ptr 3 0 0 0, .ptr 1 0 0 0])] [.live w0 1 (l0.map eI), .live 0 1 [[.sl 2 w2 0 l2.length]], .live w2 1 (l2.map eB), .live 0 1 [[I c3_0]]] (.c (I r)) := Call.trim (by simp) (by first | rfl | simp [-List.map_set]) (by first | rfl | simp [-List.map_set]) (w_slices_IndexFunc_Arc_3 N a0 l0 l2 c3_0 r h)
-- slices.ContainsFunc[[]narthex/api.Arc,narthex/api.Arc]
theorem w_slices_ContainsFunc_Arc_3 (N : Nat) (a0 : List TArc) (l0 : List Int) (l2 : List Bool) (c3_0 : Int) {w0 : Nat} {w2 : Nat} (r : Bool) (h : slices_ContainsFunc_Arc_3 N a0 l0 l2 c3_0 = some r) : Nx.Call Try.prog 52 [.c (.slv (a0.map eArc)), .c (.clo 51 [.ptr 3 0 0 0, .ptr 1 0 0 0])] [.live w0 1 (l0.map eI), .live 0 1 [[.sl 2 w2 0 l2.length]], .live w2 1 (l2.map eB), .live 0 1 [[I c3_0]]] fun r' H' => r' = .c (B r) ∧ ∃ junk, H' = [.live w0 1 (l0.map eI), .live 0 1 [[.sl 2 w2 0 l2.length]], .live w2 1 (l2.map eB), .live 0 1 [[I c3_0]]] ++ junk := by
  refine Nx.Call.of_body Try.func52 rfl en52 Try.ntmps52 rfl (fun Γ hok => ?_)
  unfold slices_ContainsFunc_Arc_3 at h
  refine Wp.seq ?_
  refine Wp.text [0, 1] rfl rfl ?_ -- region 0
  refine TextR.assign rfl ?_
  refine TextR.done (.cons rfl (.cons rfl .nil)) ?_
  refine Wp.seq ?_
  obtain ⟨y1, hy1, h⟩ := bind_some h
  refine Wp.text [4] rfl rfl ?_ -- region 1
  refine TextR.move rfl ?_
  refine TextR.move rfl ?_
  refine TextR.dcall rfl rfl (c_slices_IndexFunc_Arc_3 N a0 l0 l2 c3_0 y1 hy1) ?_
  refine TextR.int rfl rfl rfl ?_
  refine TextR.assign rfl ?_
  refine TextR.done (.cons rfl .nil) ?_
  refine Wp.ret ?_
  obtain rfl := Option.some.inj h
  exact Ret.one rfl (resV_tmp rfl) ⟨rfl, _, rfl⟩
theorem c_slices_ContainsFunc_Arc_3 (N : Nat) (a0 : List TArc) (l0 : List Int) (l2 : List Bool) (c3_0 : Int) {w0 : Nat} {w2 : Nat} (r : Bool) (h : slices_ContainsFunc_Arc_3 N a0 l0 l2 c3_0 = some r) : DCall Try.prog 52 [.c (.slv (a0.map eArc)), .c (.clo 51 [.ptr 3 0 0 0, .ptr 1 0 0 0])] [.live w0 1 (l0.map eI), .live 0 1 [[.sl 2 w2 0 l2.length]], .live w2 1 (l2.map eB), .live 0 1 [[I c3_0]]] (.c (B r)) := Call.trim (by simp) (by first | rfl | simp [-List.map_set]) (by first | rfl | simp [-List.map_set]) (w_slices_ContainsFunc_Arc_3 N a0 l0 l2 c3_0 r h)
-- narthex/dag.run
theorem w_dag_run (N : Nat) (a0 : Int) (a1 : List TArc) (r : (List Int) × (List Bool)) (h : dag_run N a0 a1 = some r) : Nx.Call Try.prog 33 [.c (I a0), .c (.slv (a1.map eArc))] [] fun r' _ => r' = .tup [.c (.slv (r.1.map eI)), .c (.slv (r.2.map eB))] := by
  refine Nx.Call.of_body Try.func33 rfl en33 Try.ntmps33 rfl (fun Γ hok => ?_)
  unfold dag_run at h
  refine Wp.seq ?_
  refine Wp.text [0, 1, 4, 5] rfl rfl ?_ -- region 0
  refine TextR.assign rfl ?_
  refine TextR.alloc 0 zc45 rfl rfl .nil ?_
  refine TextR.done (.cons rfl (.cons rfl (.cons rfl (.cons rfl .nil)))) ?_
  obtain ⟨z1, hz1, h⟩ := bind_some h
  refine Wp.fragR (fun _ => False) (fun S => ∃ v, z1 = v ∧ Ret Try.prog Try.f33 (fun r' _ => r' = .tup [.c (.slv (v.1.map eI)), .c (.slv (v.2.map eB))]) .ret S) ?_ ?_ ?_
  · replace h := hz1
    refine Wp.scopeJ 0 rfl (fun m S => ∃ l0_1, ∃ l2_1, ∃ wh0_1, dag_run_J1 N a0 a1 m l0_1 l2_1 = some z1 ∧ S = ⟨[(0, .c (I a0)), (1, .c (.slv (a1.map eArc))), (4, .c (.sl 0 wh0_1 0 l0_1.length)), (5, .c (.ptr 1 0 0 0))], [.live wh0_1 1 (l0_1.map eI), .live 0 1 [[.sl 2 0 0 l2_1.length]], .live 0 1 (l2_1.map eB)]⟩) ?_ ?_
    · rintro m1 _ ⟨l0_1, l2_1, wh0_1, h, rfl⟩
      cases m1 with
      | zero => rw [dag_run_J1.eq_1] at h; cases h
      | succ m1 =>
      rw [dag_run_J1.eq_2] at h
      refine Wp.seq ?_
      refine Wp.seq ?_
      refine Wp.text [0, 1, 4, 5, 11, 12] rfl rfl ?_ -- region 2
      refine TextR.move rfl ?_
      refine TextR.move rfl ?_
      refine TextR.done (.cons rfl (.cons rfl (.cons rfl (.cons rfl (.cons rfl (.cons rfl .nil)))))) ?_
      obtain ⟨z2, hz2, h⟩ := bind_some h
      refine Wp.fragG (fun S => ∃ z4, z2 = .inr z4 ∧ ∃ S', St.Weak ⟨Try.prog, 36, Γ⟩ S S' ∧ S' = ⟨[(4, .c (.sl 0 wh0_1 0 l0_1.length)), (5, .c (.ptr 1 0 0 0))], [.live wh0_1 1 (l0_1.map eI), .live 0 1 [[.sl 2 0 0 l2_1.length]], .live 0 1 (l2_1.map eB)]⟩) (fun _ => False) (fun _ _ => False) (fun k S => (k = 0 ∧ ∃ z3, z2 = .inl z3 ∧ ∃ S', St.Weak ⟨Try.prog, 36, Γ⟩ S S' ∧ S' = ⟨[(0, .c (I a0)), (1, .c (.slv (a1.map eArc))), (4, .c (.sl 0 (wh0_1 + 1) 0 z3.1.length)), (5, .c (.ptr 1 0 0 0))], [.live (wh0_1 + 1) 1 (z3.1.map eI), .live 0 1 [[.sl 2 0 0 z3.2.length]], .live 0 1 (z3.2.map eB)]⟩)) ?_ ?_ ?_ ?_ ?_
      · replace h := hz2
        refine Wp.block ?_
        refine Wp.weak (keepW (live := [0, 1, 4, 5, 11, 12]) (.cons rfl (.cons rfl (.cons rfl (.cons rfl (.cons rfl (.cons rfl .nil))))))) ?_
        refine Wp.loop (fun m S => ∃ s12_2, dag_run_L2 N a0 a1 l0_1 l2_1 m s12_2 = some z2 ∧ S = ⟨[(0, .c (I a0)), (1, .c (.slv (a1.map eArc))), (4, .c (.sl 0 wh0_1 0 l0_1.length)), (5, .c (.ptr 1 0 0 0)), (11, .c (I a0)), (12, .c (I s12_2))], [.live wh0_1 1 (l0_1.map eI), .live 0 1 [[.sl 2 0 0 l2_1.length]], .live 0 1 (l2_1.map eB)]⟩) N ⟨_, h, rfl⟩ ?_
        rintro m2 _ ⟨s12_2, h, rfl⟩
        cases m2 with
        | zero => rw [dag_run_L2.eq_1] at h; cases h
        | succ m2 =>
        rw [dag_run_L2.eq_2] at h
        refine Wp.seq ?_
        refine Wp.text [0, 1, 4, 5, 11, 12, 13] rfl rfl ?_ -- region 3
        refine TextR.int rfl rfl rfl ?_
        refine TextR.done (.cons rfl (.cons rfl (.cons rfl (.cons rfl (.cons rfl (.cons rfl (.cons rfl .nil))))))) ?_
        refine Wp.seq ?_
        refine Wp.condM h rfl (fun hc4 h => ?_) (fun hc4 h => ?_)
        · refine Wp.skip ?_
          refine Wp.seq ?_
          refine Wp.block ?_
          refine Wp.seq ?_
          refine Wp.text [0, 1, 4, 5, 6, 11, 12] rfl rfl ?_ -- region 4
          refine TextR.move rfl ?_
          refine TextR.alloc 3 zc3 rfl rfl (.cons (.cons (.cons .nil))) ?_
          refine TextR.store1 tk3 rfl rfl rfl rfl rfl rfl (.succ (.succ (.succ .zero))) ?_
          refine TextR.done (.cons rfl (.cons rfl (.cons rfl (.cons rfl (.cons rfl (.cons rfl (.cons rfl .nil))))))) ?_
          refine Wp.seq ?_
          refine Wp.text [0, 1, 4, 5, 6, 7, 11, 12] rfl rfl ?_ -- region 5
          refine TextR.makeFunc rfl ?_
          refine TextR.assign rfl ?_
          refine TextR.done (.cons rfl (.cons rfl (.cons rfl (.cons rfl (.cons rfl (.cons rfl (.cons rfl (.cons rfl .nil)))))))) ?_
          refine Wp.seq ?_
          obtain ⟨x5, hx5, h⟩ := bind_some h
          obtain ⟨y6, hy6, h⟩ := bind_some h
          refine Wp.go false none [[], [], [], [], [], [(20, true)], [(20, true)], [(20, true)], [(20, true)], []] [] [0, 1, 4, 5, 6, 11, 12, 25] mixed rfl rfl (by kernel_rfl) ?_ -- region 6
          refine RunR.load1 tk45 rfl rfl rfl rfl ?_
          refine RunR.load1 tk3 rfl rfl rfl rfl ?_
          refine RunR.indexOA se45 rfl rfl rfl rfl rfl hx5 ?_
          refine RunR.load1O tk4 rfl rfl rfl rfl (at_get hx5) rfl ?_
          refine RunR.move rfl rfl rfl ?_
          refine RunR.move rfl rfl rfl ?_
          refine RunR.move rfl rfl rfl ?_
          refine RunR.callH rfl rfl rfl rfl (fun hb => c_slices_ContainsFunc_Arc_3 N a1 l0_1 l2_1 s12_2 y6 (ifT hy6 gT hb)) ?_
          refine RunR.not rfl rfl rfl ?_
          refine RunR.pickAnd rfl rfl rfl rfl ?_
          refine RunR.doneQ (.cons rfl (.cons rfl (.cons rfl (.cons rfl (.cons rfl (.cons rfl (.cons rfl (.cons rfl .nil)))))))) ?_
          refine Wp.condM h rfl (fun hc5 h => ?_) (fun hc5 h => ?_)
          · refine Wp.seq ?_
            obtain ⟨x7, hx7, h⟩ := bind_some h
            refine Wp.text [0, 1, 4, 5, 6] rfl rfl ?_ -- region 7
            refine TextR.load1 tk45 rfl rfl ?_
            refine TextR.load1 tk3 rfl rfl ?_
            refine TextR.indexOA se45 rfl rfl rfl hx7 ?_
            refine TextR.storeO false tk4 rfl rfl rfl rfl rfl (at_get hx7) rfl rfl (.succ (.succ .zero)) ?_
            refine TextR.done (.cons rfl (.cons rfl (.cons rfl (.cons rfl (.cons rfl .nil))))) ?_
            refine Wp.weak (eqW (S' := ⟨[(0, .c (I a0)), (1, .c (.slv (a1.map eArc))), (4, .c (.sl 0 wh0_1 0 l0_1.length)), (5, .c (.ptr 1 0 0 0)), (6, .c (.ptr 3 0 0 0))], [.live wh0_1 1 (l0_1.map eI), .live 0 1 [[.sl 2 0 0 (l2_1.set s12_2.toNat false).length]], .live 0 1 ((l2_1.set s12_2.toNat false).map eB), .live 0 1 [[I s12_2]]]⟩) (by first | rfl | (simp only [List.length_set]; done) | (simp only [List.length_set]; rfl))) ?_
            refine Wp.seq ?_
            obtain ⟨x8, hx8, h⟩ := bind_some h
            refine Wp.text [0, 1, 4, 5] rfl rfl ?_ -- region 8
            refine TextR.move rfl ?_
            refine TextR.load1 tk3 rfl rfl ?_
            refine TextR.buildSlice (rows := [s12_2].map eI) 4 se25 rfl rfl rfl (.cons (.cons (.cons (.cons .nil)))) ?_
            refine TextR.appendM eI l0_1 [s12_2] x8 (app_eq hx8) se25 rfl (obj_of rfl) rfl (view_whole (f := eI) (xs := [s12_2]) rfl) (fun _ => rfl) rfl (app_len hx8) .zero ?_
            refine TextR.assign rfl ?_
            refine TextR.done (.cons rfl (.cons rfl (.cons rfl (.cons rfl .nil)))) ?_
            refine Wp.goto ?_
            exact ⟨rfl, _, (Option.some.inj h).symm, _, (St.Weak.trans (keepW (live := [0, 1, 4, 5]) (.cons rfl (.cons rfl (.cons rfl (.cons rfl .nil))))) (pickT (e' := [(0, .c (I a0)), (1, .c (.slv (a1.map eArc))), (4, .c (.sl 0 (wh0_1 + 1) 0 x8.length)), (5, .c (.ptr 1 0 0 0))]) (H' := [.live (wh0_1 + 1) 1 (x8.map eI), .live 0 1 [[.sl 2 0 0 (l2_1.set s12_2.toNat false).length]], .live 0 1 ((l2_1.set s12_2.toNat false).map eB)]) [0, 1, 2] [0, 1, 2, 0, 0] 0 hok.len.symm rfl rfl (by decide) (by first | rfl | simp [-List.map_set]) (by first | rfl | simp [-List.map_set]) (by first | rfl | simp [-List.map_set]) (by first | rfl | simp [-List.map_set]))), rfl⟩
          · refine Wp.skip ?_
            refine Wp.text [0, 1, 4, 5, 11, 12] rfl rfl ?_ -- region 9
            refine TextR.int rfl rfl rfl ?_
            refine TextR.move rfl ?_
            refine TextR.done (.cons rfl (.cons rfl (.cons rfl (.cons rfl (.cons rfl (.cons rfl .nil)))))) ?_
            exact ⟨m2, Nat.lt_succ_self _, _, (St.Weak.trans (keepW (live := [0, 1, 4, 5, 11, 12]) (.cons rfl (.cons rfl (.cons rfl (.cons rfl (.cons rfl (.cons rfl .nil))))))) (pickT (e' := [(0, .c (I a0)), (1, .c (.slv (a1.map eArc))), (4, .c (.sl 0 wh0_1 0 l0_1.length)), (5, .c (.ptr 1 0 0 0)), (11, .c (I a0)), (12, .c (I (w64 (s12_2 + 1))))]) (H' := [.live wh0_1 1 (l0_1.map eI), .live 0 1 [[.sl 2 0 0 l2_1.length]], .live 0 1 (l2_1.map eB)]) [0, 1, 2] [0, 1, 2, 0] 0 hok.len.symm rfl rfl (by decide) (by first | rfl | simp [-List.map_set]) (by first | rfl | simp [-List.map_set]) (by first | rfl | simp [-List.map_set]) (by first | rfl | simp [-List.map_set]))), _, h, rfl⟩
        · refine Wp.exit ?_
          exact ⟨_, (Option.some.inj h).symm, _, (keepW (live := [4, 5]) (.cons rfl (.cons rfl .nil))), rfl⟩
      · rintro _ ⟨z4, rfl, _, hw, rfl⟩
        dsimp only at h
        clear hz2
        refine Wp.weak hw ?_
        refine Wp.seq ?_
        refine Wp.go true (some ⟨[1], []⟩) [] [] [4, 5] mixed rfl rfl (by kernel_rfl) ?_ -- region 10
        refine RunR.move rfl rfl rfl ?_
        refine RunR.load1 tk45 rfl rfl rfl rfl ?_
        refine RunR.assign rfl rfl rfl ?_
        refine RunR.store1 tk45 rfl rfl rfl rfl rfl rfl rfl rfl (.succ .zero) ?_
        refine RunR.doneQ (.cons rfl (.cons rfl .nil)) ?_
        refine Wp.weak (keepW (live := [4, 5] ) (.cons rfl (.cons rfl .nil))) ?_
        refine Wp.weak (freezeW (h := 0) (ver := wh0_1) (rows := l0_1.map eI) (e' := [(4, .c (.slv (l0_1.map eI))), (5, .c (.ptr 1 0 0 0))]) (H' := [.dead, .live 0 1 [[.sl 2 0 0 l2_1.length]], .live 0 1 (l2_1.map eB)]) (obj_of rfl) (by first | rfl | simp [-List.map_set]) (by first | rfl | simp [-List.map_set])) ?_
        refine Wp.weak (freezeW (h := 2) (ver := 0) (rows := l2_1.map eB) (e' := [(4, .c (.slv (l0_1.map eI))), (5, .c (.ptr 1 0 0 0))]) (H' := [.dead, .live 0 1 [[.slv (l2_1.map eB)]], .dead]) rfl (by first | rfl | simp [-List.map_set]) (by first | rfl | simp [-List.map_set])) ?_
        refine Wp.ret ?_
        exact ⟨_, (Option.some.inj h).symm, Ret.two rfl (resV_tmp rfl) (resV_cell1 tk45 rfl rfl) rfl⟩
      · exact fun _ h => h.elim
      · exact fun _ _ h => h.elim
      · rintro k _ (⟨rfl, z3, rfl, _, hw, rfl⟩)
        dsimp only at h
        clear hz2
        exact ⟨rfl, m1, Nat.lt_succ_self _, _, (St.Weak.trans hw (keepW (live := [0, 1, 4, 5]) (.cons rfl (.cons rfl (.cons rfl (.cons rfl .nil)))))), _, _, _, h, rfl⟩
    · intro hX
      refine Wp.seq ?_
      obtain ⟨y9, hy9, h⟩ := bind_some h
      refine Wp.text [0, 1, 4, 5] rfl rfl ?_ -- region 1
      refine TextR.buildSlice (rows := [true].map eB) 1 se45 rfl rfl rfl (.cons .nil) ?_
      refine TextR.move rfl ?_
      refine TextR.weak (keepW (F := ⟨Try.prog, 36, Γ⟩) (live := [0, 1, 4, 5, 8, 9]) (.cons rfl (.cons rfl (.cons rfl (.cons rfl (.cons rfl (.cons rfl .nil))))))) ?_
      refine TextR.weak (freezeW (F := ⟨Try.prog, 36, Γ⟩) (h := 1) (ver := 0) (rows := [true].map eB) (e' := [(0, .c (I a0)), (1, .c (.slv (a1.map eArc))), (4, .c (nilS)), (5, .c (.ptr 0 0 0 0)), (8, .c (.slv ([true].map eB))), (9, .c (I a0))]) (H' := [.live 0 1 [[nilS]], .dead]) rfl (by first | rfl | simp [-List.map_set]) (by first | rfl | simp [-List.map_set])) ?_
      refine TextR.call rfl rfl (by exact o_slices_Repeat_bool N [true] a0 y9 hy9 2 rfl (.cons (.cons .nil))) (fun x H' hk => ?_)
      obtain ⟨rfl, rfl⟩ := hk
      refine TextR.store1 tk45 rfl rfl rfl rfl rfl rfl .zero ?_
      refine TextR.done (.cons rfl (.cons rfl (.cons rfl (.cons rfl .nil)))) ?_
      refine Wp.seq ?_
      refine Wp.label ?_
      refine Wp.weak (St.Weak.trans (keepW (live := [0, 1, 4, 5]) (.cons rfl (.cons rfl (.cons rfl (.cons rfl .nil))))) (St.Weak.trans (pickT (e' := [(0, .c (I a0)), (1, .c (.slv (a1.map eArc))), (4, .c (nilS)), (5, .c (.ptr 0 0 0 0))]) (H' := [.live 0 1 [[.sl 1 0 0 y9.length]], .live 0 1 (y9.map eB)]) [0, 2] [0, 0, 1] 0 hok.len.symm rfl rfl (by decide) (by first | rfl | simp [-List.map_set]) (by first | rfl | simp [-List.map_set]) (by first | rfl | simp [-List.map_set]) (by first | rfl | simp [-List.map_set])) (St.Weak.trans (nilW (e := [(0, .c (I a0)), (1, .c (.slv (a1.map eArc))), (4, .c (nilS)), (5, .c (.ptr 0 0 0 0))]) (H := [.live 0 1 [[.sl 1 0 0 y9.length]], .live 0 1 (y9.map eB)]) (t := 4) 0 1 2 rfl rfl (.cons (.cons .nil))) (St.Weak.trans (keepW (live := [0, 1, 4, 5]) (.cons rfl (.cons rfl (.cons rfl (.cons rfl .nil))))) (pickT (e' := [(0, .c (I a0)), (1, .c (.slv (a1.map eArc))), (4, .c (.sl 0 0 0 ([] : List Int).length)), (5, .c (.ptr 1 0 0 0))]) (H' := [.live 0 1 (([] : List Int).map eI), .live 0 1 [[.sl 2 0 0 y9.length]], .live 0 1 (y9.map eB)]) [2, 0, 1] [1, 2, 0] 0 hok.len.symm rfl rfl (by decide) (by first | rfl | simp [-List.map_set]) (by first | rfl | simp [-List.map_set]) (by first | rfl | simp [-List.map_set]) (by first | rfl | simp [-List.map_set])))))) ?_
      exact hX N _ ⟨_, _, _, h, rfl⟩
  · exact fun _ h => h.elim
  · rintro S' ⟨z1, rfl, hR⟩
    obtain rfl := Option.some.inj h
    exact hR
theorem c_dag_run (N : Nat) (a0 : Int) (a1 : List TArc) (r : (List Int) × (List Bool)) (h : dag_run N a0 a1 = some r) (H : List Ob) : DCall Try.prog 33 [.c (I a0), .c (.slv (a1.map eArc))] H (.tup [.c (.slv (r.1.map eI)), .c (.slv (r.2.map eB))]) := DCall.lift (by first | rfl | simp [-List.map_set]) (by first | rfl | simp [-List.map_set]) (fun _ => by simp [-List.map_set]) (w_dag_run N a0 a1 r h) H
-- narthex/dag.Order
theorem w_dag_Order (N : Nat) (a0 : Int) (a1 : List TArc) (r : (List Int) × Bool) (h : dag_Order N a0 a1 = some r) : Nx.Call Try.prog 12 [.c (I a0), .c (.slv (a1.map eArc))] [] fun r' _ => r' = .tup [.c (.slv (r.1.map eI)), .c (B r.2)] := by
  refine Nx.Call.of_body Try.func12 rfl en12 Try.ntmps12 rfl (fun Γ hok => ?_)
  unfold dag_Order at h
  refine Wp.seq ?_
  refine Wp.text [0, 1] rfl rfl ?_ -- region 0
  refine TextR.assign rfl ?_
  refine TextR.assign rfl ?_
  refine TextR.done (.cons rfl (.cons rfl .nil)) ?_
  refine Wp.seq ?_
  refine Wp.seq ?_
  obtain ⟨y1, hy1, h⟩ := bind_some h
  refine Wp.text [0, 1, 11] rfl rfl ?_ -- region 1
  refine TextR.move rfl ?_
  refine TextR.move rfl ?_
  refine TextR.dcall rfl rfl (c_dag_Check N a0 a1 y1 hy1 _) ?_
  refine TextR.int rfl rfl rfl ?_
  refine TextR.done (.cons rfl (.cons rfl (.cons rfl .nil))) ?_
  refine Wp.condM h rfl (fun hc1 h => ?_) (fun hc1 h => ?_)
  · refine Wp.seq ?_
    refine Wp.text [4, 5] rfl rfl ?_ -- region 2
    refine TextR.assign rfl ?_
    refine TextR.assign rfl ?_
    refine TextR.done (.cons rfl (.cons rfl .nil)) ?_
    refine Wp.weak (keepW (live := [4, 5] ) (.cons rfl (.cons rfl .nil))) ?_
    refine Wp.weak (nzT (e' := [(4, .c (.slv ([].map eI))), (5, .c (B false))]) (H' := []) (by first | rfl | simp [-List.map_set]) (by first | rfl | simp [-List.map_set])) ?_
    refine Wp.ret ?_
    obtain rfl := Option.some.inj h
    exact Ret.two rfl (resV_tmp rfl) (resV_tmp rfl) rfl
  · refine Wp.skip ?_
    refine Wp.seq ?_
    obtain ⟨y2, hy2, h⟩ := bind_some h
    refine Wp.text [0, 6] rfl rfl ?_ -- region 3
    refine TextR.move rfl ?_
    refine TextR.move rfl ?_
    refine TextR.dcall rfl rfl (c_dag_run N a0 a1 y2 hy2 _) ?_
    refine TextR.move rfl ?_
    refine TextR.extract rfl rfl ?_
    refine TextR.extract rfl rfl ?_
    refine TextR.assign rfl ?_
    refine TextR.assign rfl ?_
    refine TextR.done (.cons rfl (.cons rfl .nil)) ?_
    refine Wp.seq ?_
    refine Wp.seq ?_
    refine Wp.text [6, 21] rfl rfl ?_ -- region 4
    refine TextR.move rfl ?_
    refine TextR.lenM us25 rfl rfl ?_
    refine TextR.move rfl ?_
    refine TextR.int rfl rfl rfl ?_
    refine TextR.done (.cons rfl (.cons rfl .nil)) ?_
    refine Wp.condM h rfl (fun hc2 h => ?_) (fun hc2 h => ?_)
    · refine Wp.seq ?_
      refine Wp.text [4, 5] rfl rfl ?_ -- region 5
      refine TextR.assign rfl ?_
      refine TextR.assign rfl ?_
      refine TextR.done (.cons rfl (.cons rfl .nil)) ?_
      refine Wp.weak (keepW (live := [4, 5] ) (.cons rfl (.cons rfl .nil))) ?_
      refine Wp.weak (nzT (e' := [(4, .c (.slv ([].map eI))), (5, .c (B false))]) (H' := []) (by first | rfl | simp [-List.map_set]) (by first | rfl | simp [-List.map_set])) ?_
      refine Wp.ret ?_
      obtain rfl := Option.some.inj h
      exact Ret.two rfl (resV_tmp rfl) (resV_tmp rfl) rfl
    · refine Wp.skip ?_
      refine Wp.seq ?_
      refine Wp.text [4, 5] rfl rfl ?_ -- region 6
      refine TextR.move rfl ?_
      refine TextR.assign rfl ?_
      refine TextR.assign rfl ?_
      refine TextR.done (.cons rfl (.cons rfl .nil)) ?_
      refine Wp.ret ?_
      obtain rfl := Option.some.inj h
      exact Ret.two rfl (resV_tmp rfl) (resV_tmp rfl) rfl
theorem c_dag_Order (N : Nat) (a0 : Int) (a1 : List TArc) (r : (List Int) × Bool) (h : dag_Order N a0 a1 = some r) (H : List Ob) : DCall Try.prog 12 [.c (I a0), .c (.slv (a1.map eArc))] H (.tup [.c (.slv (r.1.map eI)), .c (B r.2)]) := DCall.lift (by first | rfl | simp [-List.map_set]) (by first | rfl | simp [-List.map_set]) (fun _ => by simp [-List.map_set]) (w_dag_Order N a0 a1 r h) H
-- narthex/dag.Depths
theorem w_dag_Depths (N : Nat) (a0 : Int) (a1 : List TArc) (r : (List Int) × Bool) (h : dag_Depths N a0 a1 = some r) : Nx.Call Try.prog 15 [.c (I a0), .c (.slv (a1.map eArc))] [] fun r' _ => r' = .tup [.c (.slv (r.1.map eI)), .c (B r.2)] := by
  refine Nx.Call.of_body Try.func15 rfl en15 Try.ntmps15 rfl (fun Γ hok => ?_)
  unfold dag_Depths at h
  refine Wp.seq ?_
  refine Wp.text [0, 1] rfl rfl ?_ -- region 0
  refine TextR.assign rfl ?_
  refine TextR.assign rfl ?_
  refine TextR.done (.cons rfl (.cons rfl .nil)) ?_
  refine Wp.seq ?_
  obtain ⟨y1, hy1, h⟩ := bind_some h
  refine Wp.text [0, 1, 6, 7] rfl rfl ?_ -- region 1
  refine TextR.move rfl ?_
  refine TextR.move rfl ?_
  refine TextR.dcall rfl rfl (c_dag_Order N a0 a1 y1 hy1 _) ?_
  refine TextR.move rfl ?_
  refine TextR.extract rfl rfl ?_
  refine TextR.extract rfl rfl ?_
  refine TextR.assign rfl ?_
  refine TextR.assign rfl ?_
  refine TextR.done (.cons rfl (.cons rfl (.cons rfl (.cons rfl .nil)))) ?_
  refine Wp.seq ?_
  refine Wp.seq ?_
  refine Wp.text [0, 1, 6, 20] rfl rfl ?_ -- region 2
  refine TextR.move rfl ?_
  refine TextR.not rfl ?_
  refine TextR.done (.cons rfl (.cons rfl (.cons rfl (.cons rfl .nil)))) ?_
  refine Wp.condM h rfl (fun hc1 h => ?_) (fun hc1 h => ?_)
  · refine Wp.seq ?_
    refine Wp.text [4, 5] rfl rfl ?_ -- region 3
    refine TextR.assign rfl ?_
    refine TextR.assign rfl ?_
    refine TextR.done (.cons rfl (.cons rfl .nil)) ?_
    refine Wp.weak (keepW (live := [4, 5] ) (.cons rfl (.cons rfl .nil))) ?_
    refine Wp.weak (nzT (e' := [(4, .c (.slv ([].map eI))), (5, .c (B false))]) (H' := []) (by first | rfl | simp [-List.map_set]) (by first | rfl | simp [-List.map_set])) ?_
    refine Wp.ret ?_
    obtain rfl := Option.some.inj h
    exact Ret.two rfl (resV_tmp rfl) (resV_tmp rfl) rfl
  · refine Wp.skip ?_
    refine Wp.seq ?_
    obtain ⟨x2, hx2, h⟩ := bind_some h
    refine Wp.text [1, 6, 8] rfl rfl ?_ -- region 4
    refine TextR.move rfl ?_
    refine TextR.makeM (f := eI) 0 se25 rfl rfl rfl rfl hx2 rfl .nil ?_
    refine TextR.assign rfl ?_
    refine TextR.done (.cons rfl (.cons rfl (.cons rfl .nil))) ?_
    refine Wp.seq ?_
    refine Wp.seq ?_
    refine Wp.text [1, 8, 23, 24, 25] rfl rfl ?_ -- region 5
    refine TextR.move rfl ?_
    refine TextR.lenM us25 rfl rfl ?_
    refine TextR.move rfl ?_
    refine TextR.done (.cons rfl (.cons rfl (.cons rfl (.cons rfl (.cons rfl .nil))))) ?_
    obtain ⟨z3, hz3, h⟩ := bind_some h
    refine Wp.fragN (fun S => ∃ S', St.Weak ⟨Try.prog, 57, Γ⟩ S S' ∧ S' = ⟨[(8, .c (.sl 0 0 0 z3.length))], [.live 0 1 (z3.map eI)]⟩) ?_ ?_
    · replace h := hz3
      refine Wp.block ?_
      refine Wp.weak (keepW (live := [1, 8, 23, 24, 25]) (.cons rfl (.cons rfl (.cons rfl (.cons rfl (.cons rfl .nil)))))) ?_
      refine Wp.loop (fun m S => ∃ l0_1, ∃ s25_1, dag_Depths_L1 N a1 y1 m l0_1 s25_1 = some z3 ∧ S = ⟨[(1, .c (.slv (a1.map eArc))), (8, .c (.sl 0 0 0 l0_1.length)), (23, .c (.slv (y1.1.map eI))), (24, .c (I (y1.1.length : Int))), (25, .c (I s25_1))], [.live 0 1 (l0_1.map eI)]⟩) N ⟨_, _, h, rfl⟩ ?_
      rintro m1 _ ⟨l0_1, s25_1, h, rfl⟩
      cases m1 with
      | zero => rw [dag_Depths_L1.eq_1] at h; cases h
      | succ m1 =>
      rw [dag_Depths_L1.eq_2] at h
      refine Wp.seq ?_
      refine Wp.text [1, 8, 23, 24, 25, 26] rfl rfl ?_ -- region 6
      refine TextR.int rfl rfl rfl ?_
      refine TextR.done (.cons rfl (.cons rfl (.cons rfl (.cons rfl (.cons rfl (.cons rfl .nil)))))) ?_
      refine Wp.seq ?_
      refine Wp.condM h rfl (fun hc3 h => ?_) (fun hc3 h => ?_)
      · refine Wp.skip ?_
        refine Wp.seq ?_
        refine Wp.block ?_
        refine Wp.seq ?_
        obtain ⟨x4, hx4, h⟩ := bind_some h
        refine Wp.text [1, 8, 10, 23, 24, 25] rfl rfl ?_ -- region 7
        refine TextR.indexA se25 rfl rfl rfl hx4 rfl ?_
        refine TextR.load1M tk3 rfl (at_get hx4) rfl ?_
        refine TextR.assign rfl ?_
        refine TextR.done (.cons rfl (.cons rfl (.cons rfl (.cons rfl (.cons rfl (.cons rfl .nil)))))) ?_
        refine Wp.seq ?_
        refine Wp.text [1, 8, 10, 23, 24, 25, 29, 30, 31] rfl rfl ?_ -- region 8
        refine TextR.move rfl ?_
        refine TextR.lenM us22 rfl rfl ?_
        refine TextR.move rfl ?_
        refine TextR.done (.cons rfl (.cons rfl (.cons rfl (.cons rfl (.cons rfl (.cons rfl (.cons rfl (.cons rfl (.cons rfl .nil))))))))) ?_
        obtain ⟨z5, hz5, h⟩ := bind_some h
        refine Wp.fragN (fun S => ∃ S', St.Weak ⟨Try.prog, 57, Γ⟩ S S' ∧ S' = ⟨[(1, .c (.slv (a1.map eArc))), (8, .c (.sl 0 0 0 z5.length)), (23, .c (.slv (y1.1.map eI))), (24, .c (I (y1.1.length : Int))), (25, .c (I s25_1))], [.live 0 1 (z5.map eI)]⟩) ?_ ?_
        · replace h := hz5
          refine Wp.block ?_
          refine Wp.weak (keepW (live := [1, 8, 10, 23, 24, 25, 29, 30, 31]) (.cons rfl (.cons rfl (.cons rfl (.cons rfl (.cons rfl (.cons rfl (.cons rfl (.cons rfl (.cons rfl .nil)))))))))) ?_
          refine Wp.loop (fun m S => ∃ l0_2, ∃ s31_2, dag_Depths_L2 N a1 x4 m l0_2 s31_2 = some z5 ∧ S = ⟨[(1, .c (.slv (a1.map eArc))), (8, .c (.sl 0 0 0 l0_2.length)), (10, .c (I x4)), (23, .c (.slv (y1.1.map eI))), (24, .c (I (y1.1.length : Int))), (25, .c (I s25_1)), (29, .c (.slv (a1.map eArc))), (30, .c (I (a1.length : Int))), (31, .c (I s31_2))], [.live 0 1 (l0_2.map eI)]⟩) N ⟨_, _, h, rfl⟩ ?_
          rintro m2 _ ⟨l0_2, s31_2, h, rfl⟩
          cases m2 with
          | zero => rw [dag_Depths_L2.eq_1] at h; cases h
          | succ m2 =>
          rw [dag_Depths_L2.eq_2] at h
          refine Wp.seq ?_
          refine Wp.text [1, 8, 10, 23, 24, 25, 29, 30, 31, 32] rfl rfl ?_ -- region 9
          refine TextR.int rfl rfl rfl ?_
          refine TextR.done (.cons rfl (.cons rfl (.cons rfl (.cons rfl (.cons rfl (.cons rfl (.cons rfl (.cons rfl (.cons rfl (.cons rfl .nil)))))))))) ?_
          refine Wp.seq ?_
          refine Wp.condM h rfl (fun hc5 h => ?_) (fun hc5 h => ?_)
          · refine Wp.skip ?_
            refine Wp.seq ?_
            refine Wp.block ?_
            refine Wp.seq ?_
            obtain ⟨x6, hx6, h⟩ := bind_some h
            refine Wp.text [1, 8, 10, 12, 23, 24, 25, 29, 30, 31] rfl rfl ?_ -- region 10
            refine TextR.indexA se22 rfl rfl rfl hx6 rfl ?_
            refine TextR.loadNM tk37 rfl (at_get hx6) rfl ?_
            refine TextR.alloc 1 zc37 rfl rfl (.cons .nil) ?_
            refine TextR.store1 tk37 rfl rfl rfl rfl rfl rfl (.succ .zero) ?_
            refine TextR.done (.cons rfl (.cons rfl (.cons rfl (.cons rfl (.cons rfl (.cons rfl (.cons rfl (.cons rfl (.cons rfl (.cons rfl .nil)))))))))) ?_
            refine Wp.seq ?_
            refine Wp.text [1, 8, 10, 12, 23, 24, 25, 29, 30, 31, 38] rfl rfl ?_ -- region 11
            refine TextR.fieldAddr fo37_0 rfl rfl rfl ?_
            refine TextR.load1 tk3 rfl rfl ?_
            refine TextR.move rfl ?_
            refine TextR.int rfl rfl rfl ?_
            refine TextR.done (.cons rfl (.cons rfl (.cons rfl (.cons rfl (.cons rfl (.cons rfl (.cons rfl (.cons rfl (.cons rfl (.cons rfl (.cons rfl .nil))))))))))) ?_
            refine Wp.condM h rfl (fun hc6 h => ?_) (fun hc6 h => ?_)
            · obtain ⟨x7, hx7, h⟩ := bind_some h
              obtain ⟨x8, hx8, h⟩ := bind_some h
              obtain ⟨x9, hx9, h⟩ := bind_some h
              refine Wp.go true (some ⟨[0], []⟩) [] [] [1, 8, 10, 23, 24, 25, 29, 30, 31] mixed rfl rfl (by kernel_rfl) ?_ -- region 12
              refine RunR.move rfl rfl rfl ?_
              refine RunR.fieldAddr fo37_1 rfl rfl rfl rfl rfl ?_
              refine RunR.load1 tk3 rfl rfl rfl rfl ?_
              refine RunR.move rfl rfl rfl ?_
              refine RunR.fieldAddr fo37_1 rfl rfl rfl rfl rfl ?_
              refine RunR.load1 tk3 rfl rfl rfl rfl ?_
              refine RunR.indexOA se25 rfl rfl rfl rfl rfl hx7 ?_
              refine RunR.load1O tk3 rfl rfl rfl rfl (at_get hx7) rfl ?_
              refine RunR.move rfl rfl rfl ?_
              refine RunR.move rfl rfl rfl ?_
              refine RunR.indexOA se25 rfl rfl rfl rfl rfl hx8 ?_
              refine RunR.load1O tk3 rfl rfl rfl rfl (at_get hx8) rfl ?_
              refine RunR.int rfl rfl rfl rfl rfl ?_
              refine RunR.minmax (.inr rfl) rfl rfl rfl ?_
              refine RunR.indexOA se25 rfl rfl rfl rfl rfl hx9 ?_
              refine RunR.storeO (max x7 (w64 (x8 + 1))) tk3 rfl rfl rfl rfl rfl rfl rfl (at_get hx9) rfl rfl .zero ?_
              refine RunR.doneQ (.cons rfl (.cons rfl (.cons rfl (.cons rfl (.cons rfl (.cons rfl (.cons rfl (.cons rfl (.cons rfl .nil))))))))) ?_
              refine Wp.weak (eqW (S' := ⟨[(1, .c (.slv (a1.map eArc))), (8, .c (.sl 0 0 0 (l0_2.set x6.To.toNat (max x7 (w64 (x8 + 1)))).length)), (10, .c (I x4)), (23, .c (.slv (y1.1.map eI))), (24, .c (I (y1.1.length : Int))), (25, .c (I s25_1)), (29, .c (.slv (a1.map eArc))), (30, .c (I (a1.length : Int))), (31, .c (I s31_2))], [.live 0 1 ((l0_2.set x6.To.toNat (max x7 (w64 (x8 + 1)))).map eI), .live 0 2 [[I x6.From, I x6.To]]]⟩) (by first | rfl | (simp only [List.length_set]; done) | (simp only [List.length_set]; rfl))) ?_
              refine Wp.text [1, 8, 10, 23, 24, 25, 29, 30, 31] rfl rfl ?_ -- region 13
              refine TextR.int rfl rfl rfl ?_
              refine TextR.move rfl ?_
              refine TextR.done (.cons rfl (.cons rfl (.cons rfl (.cons rfl (.cons rfl (.cons rfl (.cons rfl (.cons rfl (.cons rfl .nil))))))))) ?_
              exact ⟨m2, Nat.lt_succ_self _, _, (St.Weak.trans (keepW (live := [1, 8, 10, 23, 24, 25, 29, 30, 31]) (.cons rfl (.cons rfl (.cons rfl (.cons rfl (.cons rfl (.cons rfl (.cons rfl (.cons rfl (.cons rfl .nil)))))))))) (pickT (e' := [(1, .c (.slv (a1.map eArc))), (8, .c (.sl 0 0 0 (l0_2.set x6.To.toNat (max x7 (w64 (x8 + 1)))).length)), (10, .c (I x4)), (23, .c (.slv (y1.1.map eI))), (24, .c (I (y1.1.length : Int))), (25, .c (I s25_1)), (29, .c (.slv (a1.map eArc))), (30, .c (I (a1.length : Int))), (31, .c (I (w64 (s31_2 + 1))))]) (H' := [.live 0 1 ((l0_2.set x6.To.toNat (max x7 (w64 (x8 + 1)))).map eI)]) [0] [0, 0] 0 hok.len.symm rfl rfl (by decide) (by first | rfl | simp [-List.map_set]) (by first | rfl | simp [-List.map_set]) (by first | rfl | simp [-List.map_set]) (by first | rfl | simp [-List.map_set]))), _, _, h, rfl⟩
            · refine Wp.skip ?_
              refine Wp.text [1, 8, 10, 23, 24, 25, 29, 30, 31] rfl rfl ?_ -- region 13
              refine TextR.int rfl rfl rfl ?_
              refine TextR.move rfl ?_
              refine TextR.done (.cons rfl (.cons rfl (.cons rfl (.cons rfl (.cons rfl (.cons rfl (.cons rfl (.cons rfl (.cons rfl .nil))))))))) ?_
              exact ⟨m2, Nat.lt_succ_self _, _, (St.Weak.trans (keepW (live := [1, 8, 10, 23, 24, 25, 29, 30, 31]) (.cons rfl (.cons rfl (.cons rfl (.cons rfl (.cons rfl (.cons rfl (.cons rfl (.cons rfl (.cons rfl .nil)))))))))) (pickT (e' := [(1, .c (.slv (a1.map eArc))), (8, .c (.sl 0 0 0 l0_2.length)), (10, .c (I x4)), (23, .c (.slv (y1.1.map eI))), (24, .c (I (y1.1.length : Int))), (25, .c (I s25_1)), (29, .c (.slv (a1.map eArc))), (30, .c (I (a1.length : Int))), (31, .c (I (w64 (s31_2 + 1))))]) (H' := [.live 0 1 (l0_2.map eI)]) [0] [0, 0] 0 hok.len.symm rfl rfl (by decide) (by first | rfl | simp [-List.map_set]) (by first | rfl | simp [-List.map_set]) (by first | rfl | simp [-List.map_set]) (by first | rfl | simp [-List.map_set]))), _, _, h, rfl⟩
          · refine Wp.exit ?_
            obtain rfl := Option.some.inj h
            exact ⟨_, (keepW (live := [1, 8, 23, 24, 25]) (.cons rfl (.cons rfl (.cons rfl (.cons rfl (.cons rfl .nil)))))), rfl⟩
        rintro _ ⟨S', hw, rfl⟩
        clear hz5
        refine Wp.weak hw ?_
        refine Wp.text [1, 8, 23, 24, 25] rfl rfl ?_ -- region 14
        refine TextR.int rfl rfl rfl ?_
        refine TextR.move rfl ?_
        refine TextR.done (.cons rfl (.cons rfl (.cons rfl (.cons rfl (.cons rfl .nil))))) ?_
        exact ⟨m1, Nat.lt_succ_self _, _, (keepW (live := [1, 8, 23, 24, 25]) (.cons rfl (.cons rfl (.cons rfl (.cons rfl (.cons rfl .nil)))))), _, _, h, rfl⟩
      · refine Wp.exit ?_
        obtain rfl := Option.some.inj h
        exact ⟨_, (keepW (live := [8]) (.cons rfl .nil)), rfl⟩
    rintro _ ⟨S', hw, rfl⟩
    clear hz3
    refine Wp.weak hw ?_
    refine Wp.seq ?_
    refine Wp.text [4, 5] rfl rfl ?_ -- region 15
    refine TextR.move rfl ?_
    refine TextR.assign rfl ?_
    refine TextR.assign rfl ?_
    refine TextR.done (.cons rfl (.cons rfl .nil)) ?_
    refine Wp.weak (keepW (live := [4, 5] ) (.cons rfl (.cons rfl .nil))) ?_
    refine Wp.weak (freezeW (h := 0) (ver := 0) (rows := z3.map eI) (e' := [(4, .c (.slv (z3.map eI))), (5, .c (B true))]) (H' := [.dead]) rfl (by first | rfl | simp [-List.map_set]) (by first | rfl | simp [-List.map_set])) ?_
    refine Wp.ret ?_
    obtain rfl := Option.some.inj h
    exact Ret.two rfl (resV_tmp rfl) (resV_tmp rfl) rfl
theorem c_dag_Depths (N : Nat) (a0 : Int) (a1 : List TArc) (r : (List Int) × Bool) (h : dag_Depths N a0 a1 = some r) (H : List Ob) : DCall Try.prog 15 [.c (I a0), .c (.slv (a1.map eArc))] H (.tup [.c (.slv (r.1.map eI)), .c (B r.2)]) := DCall.lift (by first | rfl | simp [-List.map_set]) (by first | rfl | simp [-List.map_set]) (fun _ => by simp [-List.map_set]) (w_dag_Depths N a0 a1 r h) H
-- slices.Index[[]bool,bool]
theorem w_slices_Index_bool (N : Nat) (a0 : List Bool) (a1 : Bool) (r : Int) (h : slices_Index_bool N a0 a1 = some r) : Nx.Call Try.prog 37 [.c (.slv (a0.map eB)), .c (B a1)] [] fun r' _ => r' = .c (I r) := by
  refine Nx.Call.of_body Try.func37 rfl en37 Try.ntmps37 rfl (fun Γ hok => ?_)
  unfold slices_Index_bool at h
  refine Wp.seq ?_
  refine Wp.text [0, 1] rfl rfl ?_ -- region 0
  refine TextR.assign rfl ?_
  refine TextR.done (.cons rfl (.cons rfl .nil)) ?_
  refine Wp.seq ?_
  refine Wp.seq ?_
  refine Wp.text [0, 1, 7, 8] rfl rfl ?_ -- region 1
  refine TextR.move rfl ?_
  refine TextR.lenM us45 rfl rfl ?_
  refine TextR.move rfl ?_
  refine TextR.done (.cons rfl (.cons rfl (.cons rfl (.cons rfl .nil)))) ?_
  obtain ⟨z1, hz1, h⟩ := bind_some h
  refine Wp.fragR (fun S => ∃ z3, z1 = .inr z3 ∧ ∃ S', St.Weak ⟨Try.prog, 19, Γ⟩ S S' ∧ S' = ⟨[], []⟩) (fun S => ∃ v, z1 = .inl v ∧ Ret Try.prog Try.f37 (fun r' _ => r' = .c (I v)) .ret S) ?_ ?_ ?_
  · replace h := hz1
    refine Wp.block ?_
    refine Wp.weak (keepW (live := [0, 1, 7, 8]) (.cons rfl (.cons rfl (.cons rfl (.cons rfl .nil))))) ?_
    refine Wp.loop (fun m S => ∃ s8_1, slices_Index_bool_L1 N a0 a1 m s8_1 = some z1 ∧ S = ⟨[(0, .c (.slv (a0.map eB))), (1, .c (B a1)), (7, .c (I (a0.length : Int))), (8, .c (I s8_1))], []⟩) N ⟨_, h, rfl⟩ ?_
    rintro m1 _ ⟨s8_1, h, rfl⟩
    cases m1 with
    | zero => rw [slices_Index_bool_L1.eq_1] at h; cases h
    | succ m1 =>
    rw [slices_Index_bool_L1.eq_2] at h
    refine Wp.seq ?_
    refine Wp.text [0, 1, 7, 8, 9] rfl rfl ?_ -- region 2
    refine TextR.int rfl rfl rfl ?_
    refine TextR.done (.cons rfl (.cons rfl (.cons rfl (.cons rfl (.cons rfl .nil))))) ?_
    refine Wp.seq ?_
    refine Wp.condM h rfl (fun hc2 h => ?_) (fun hc2 h => ?_)
    · refine Wp.skip ?_
      refine Wp.seq ?_
      refine Wp.block ?_
      refine Wp.seq ?_
      refine Wp.text [0, 1, 5, 7, 8] rfl rfl ?_ -- region 3
      refine TextR.move rfl ?_
      refine TextR.assign rfl ?_
      refine TextR.done (.cons rfl (.cons rfl (.cons rfl (.cons rfl (.cons rfl .nil))))) ?_
      refine Wp.seq ?_
      obtain ⟨x4, hx4, h⟩ := bind_some h
      refine Wp.text [0, 1, 5, 7, 8, 16] rfl rfl ?_ -- region 4
      refine TextR.move rfl ?_
      refine TextR.move rfl ?_
      refine TextR.move rfl ?_
      refine TextR.indexA se45 rfl rfl rfl hx4 rfl ?_
      refine TextR.load1M tk4 rfl (at_get hx4) rfl ?_
      refine TextR.eqBool (by kernel_rfl) rfl rfl ?_
      refine TextR.done (.cons rfl (.cons rfl (.cons rfl (.cons rfl (.cons rfl (.cons rfl .nil)))))) ?_
      refine Wp.condM h rfl (fun hc3 h => ?_) (fun hc3 h => ?_)
      · refine Wp.seq ?_
        refine Wp.text [4] rfl rfl ?_ -- region 5
        refine TextR.move rfl ?_
        refine TextR.assign rfl ?_
        refine TextR.done (.cons rfl .nil) ?_
        refine Wp.ret ?_
        exact ⟨_, (Option.some.inj h).symm, Ret.one rfl (resV_tmp rfl) rfl⟩
      · refine Wp.skip ?_
        refine Wp.text [0, 1, 7, 8] rfl rfl ?_ -- region 6
        refine TextR.int rfl rfl rfl ?_
        refine TextR.move rfl ?_
        refine TextR.done (.cons rfl (.cons rfl (.cons rfl (.cons rfl .nil)))) ?_
        exact ⟨m1, Nat.lt_succ_self _, _, (keepW (live := [0, 1, 7, 8]) (.cons rfl (.cons rfl (.cons rfl (.cons rfl .nil))))), _, h, rfl⟩
    · refine Wp.exit ?_
      exact ⟨_, (Option.some.inj h).symm, _, (keepW (live := []) .nil), rfl⟩
  · rintro _ ⟨z3, rfl, _, hw, rfl⟩
    dsimp only at h
    clear hz1
    refine Wp.weak hw ?_
    refine Wp.seq ?_
    refine Wp.text [4] rfl rfl ?_ -- region 7
    refine TextR.assign rfl ?_
    refine TextR.done (.cons rfl .nil) ?_
    refine Wp.ret ?_
    obtain rfl := Option.some.inj h
    exact Ret.one rfl (resV_tmp rfl) rfl
  · rintro S' ⟨r2, rfl, hR⟩
    dsimp only at h
    obtain rfl := Option.some.inj h
    exact hR
theorem c_slices_Index_bool (N : Nat) (a0 : List Bool) (a1 : Bool) (r : Int) (h : slices_Index_bool N a0 a1 = some r) (H : List Ob) : DCall Try.prog 37 [.c (.slv (a0.map eB)), .c (B a1)] H (.c (I r)) := DCall.lift (by first | rfl | simp [-List.map_set]) (by first | rfl | simp [-List.map_set]) (fun _ => by simp [-List.map_set]) (w_slices_Index_bool N a0 a1 r h) H
-- slices.Index[[]int,int]
theorem w_slices_Index_int (N : Nat) (a0 : List Int) (a1 : Int) (r : Int) (h : slices_Index_int N a0 a1 = some r) : Nx.Call Try.prog 39 [.c (.slv (a0.map eI)), .c (I a1)] [] fun r' _ => r' = .c (I r) := by
  refine Nx.Call.of_body Try.func39 rfl en39 Try.ntmps39 rfl (fun Γ hok => ?_)
  unfold slices_Index_int at h
  refine Wp.seq ?_
  refine Wp.text [0, 1] rfl rfl ?_ -- region 0
  refine TextR.assign rfl ?_
  refine TextR.done (.cons rfl (.cons rfl .nil)) ?_
  refine Wp.seq ?_
  refine Wp.seq ?_
  refine Wp.text [0, 1, 7, 8] rfl rfl ?_ -- region 1
  refine TextR.move rfl ?_
  refine TextR.lenM us25 rfl rfl ?_
  refine TextR.move rfl ?_
  refine TextR.done (.cons rfl (.cons rfl (.cons rfl (.cons rfl .nil)))) ?_
  obtain ⟨z1, hz1, h⟩ := bind_some h
  refine Wp.fragR (fun S => ∃ z3, z1 = .inr z3 ∧ ∃ S', St.Weak ⟨Try.prog, 19, Γ⟩ S S' ∧ S' = ⟨[], []⟩) (fun S => ∃ v, z1 = .inl v ∧ Ret Try.prog Try.f39 (fun r' _ => r' = .c (I v)) .ret S) ?_ ?_ ?_
  · replace h := hz1
    refine Wp.block ?_
    refine Wp.weak (keepW (live := [0, 1, 7, 8]) (.cons rfl (.cons rfl (.cons rfl (.cons rfl .nil))))) ?_
    refine Wp.loop (fun m S => ∃ s8_1, slices_Index_int_L1 N a0 a1 m s8_1 = some z1 ∧ S = ⟨[(0, .c (.slv (a0.map eI))), (1, .c (I a1)), (7, .c (I (a0.length : Int))), (8, .c (I s8_1))], []⟩) N ⟨_, h, rfl⟩ ?_
    rintro m1 _ ⟨s8_1, h, rfl⟩
    cases m1 with
    | zero => rw [slices_Index_int_L1.eq_1] at h; cases h
    | succ m1 =>
    rw [slices_Index_int_L1.eq_2] at h
    refine Wp.seq ?_
    refine Wp.text [0, 1, 7, 8, 9] rfl rfl ?_ -- region 2
    refine TextR.int rfl rfl rfl ?_
    refine TextR.done (.cons rfl (.cons rfl (.cons rfl (.cons rfl (.cons rfl .nil))))) ?_
    refine Wp.seq ?_
    refine Wp.condM h rfl (fun hc2 h => ?_) (fun hc2 h => ?_)
    · refine Wp.skip ?_
      refine Wp.seq ?_
      refine Wp.block ?_
      refine Wp.seq ?_
      refine Wp.text [0, 1, 5, 7, 8] rfl rfl ?_ -- region 3
      refine TextR.move rfl ?_
      refine TextR.assign rfl ?_
      refine TextR.done (.cons rfl (.cons rfl (.cons rfl (.cons rfl (.cons rfl .nil))))) ?_
      refine Wp.seq ?_
      obtain ⟨x4, hx4, h⟩ := bind_some h
      refine Wp.text [0, 1, 5, 7, 8, 16] rfl rfl ?_ -- region 4
      refine TextR.move rfl ?_
      refine TextR.move rfl ?_
      refine TextR.move rfl ?_
      refine TextR.indexA se25 rfl rfl rfl hx4 rfl ?_
      refine TextR.load1M tk3 rfl (at_get hx4) rfl ?_
      refine TextR.int rfl rfl rfl ?_
      refine TextR.done (.cons rfl (.cons rfl (.cons rfl (.cons rfl (.cons rfl (.cons rfl .nil)))))) ?_
      refine Wp.condM h rfl (fun hc3 h => ?_) (fun hc3 h => ?_)
      · refine Wp.seq ?_
        refine Wp.text [4] rfl rfl ?_ -- region 5
        refine TextR.move rfl ?_
        refine TextR.assign rfl ?_
        refine TextR.done (.cons rfl .nil) ?_
        refine Wp.ret ?_
        exact ⟨_, (Option.some.inj h).symm, Ret.one rfl (resV_tmp rfl) rfl⟩
      · refine Wp.skip ?_
        refine Wp.text [0, 1, 7, 8] rfl rfl ?_ -- region 6
        refine TextR.int rfl rfl rfl ?_
        refine TextR.move rfl ?_
        refine TextR.done (.cons rfl (.cons rfl (.cons rfl (.cons rfl .nil)))) ?_
        exact ⟨m1, Nat.lt_succ_self _, _, (keepW (live := [0, 1, 7, 8]) (.cons rfl (.cons rfl (.cons rfl (.cons rfl .nil))))), _, h, rfl⟩
    · refine Wp.exit ?_
      exact ⟨_, (Option.some.inj h).symm, _, (keepW (live := []) .nil), rfl⟩
  · rintro _ ⟨z3, rfl, _, hw, rfl⟩
    dsimp only at h
    clear hz1
    refine Wp.weak hw ?_
    refine Wp.seq ?_
    refine Wp.text [4] rfl rfl ?_ -- region 7
    refine TextR.assign rfl ?_
    refine TextR.done (.cons rfl .nil) ?_
    refine Wp.ret ?_
    obtain rfl := Option.some.inj h
    exact Ret.one rfl (resV_tmp rfl) rfl
  · rintro S' ⟨r2, rfl, hR⟩
    dsimp only at h
    obtain rfl := Option.some.inj h
    exact hR
theorem c_slices_Index_int (N : Nat) (a0 : List Int) (a1 : Int) (r : Int) (h : slices_Index_int N a0 a1 = some r) (H : List Ob) : DCall Try.prog 39 [.c (.slv (a0.map eI)), .c (I a1)] H (.c (I r)) := DCall.lift (by first | rfl | simp [-List.map_set]) (by first | rfl | simp [-List.map_set]) (fun _ => by simp [-List.map_set]) (w_slices_Index_int N a0 a1 r h) H
-- slices.Contains[[]int,int]
theorem w_slices_Contains_int (N : Nat) (a0 : List Int) (a1 : Int) (r : Bool) (h : slices_Contains_int N a0 a1 = some r) : Nx.Call Try.prog 38 [.c (.slv (a0.map eI)), .c (I a1)] [] fun r' _ => r' = .c (B r) := by
  refine Nx.Call.of_body Try.func38 rfl en38 Try.ntmps38 rfl (fun Γ hok => ?_)
  unfold slices_Contains_int at h
  refine Wp.seq ?_
  refine Wp.text [0, 1] rfl rfl ?_ -- region 0
  refine TextR.assign rfl ?_
  refine TextR.done (.cons rfl (.cons rfl .nil)) ?_
  refine Wp.seq ?_
  obtain ⟨y1, hy1, h⟩ := bind_some h
  refine Wp.text [4] rfl rfl ?_ -- region 1
  refine TextR.move rfl ?_
  refine TextR.move rfl ?_
  refine TextR.dcall rfl rfl (c_slices_Index_int N a0 a1 y1 hy1 _) ?_
  refine TextR.int rfl rfl rfl ?_
  refine TextR.assign rfl ?_
  refine TextR.done (.cons rfl .nil) ?_
  refine Wp.ret ?_
  obtain rfl := Option.some.inj h
  exact Ret.one rfl (resV_tmp rfl) rfl
theorem c_slices_Contains_int (N : Nat) (a0 : List Int) (a1 : Int) (r : Bool) (h : slices_Contains_int N a0 a1 = some r) (H : List Ob) : DCall Try.prog 38 [.c (.slv (a0.map eI)), .c (I a1)] H (.c (B r)) := DCall.lift (by first | rfl | simp [-List.map_set]) (by first | rfl | simp [-List.map_set]) (fun _ => by simp [-List.map_set]) (w_slices_Contains_int N a0 a1 r h) H
-- slices.Min[[]int,int]
theorem w_slices_Min_int (N : Nat) (a0 : List Int) (r : Int) (h : slices_Min_int N a0 = some r) : Nx.Call Try.prog 41 [.c (.slv (a0.map eI))] [] fun r' _ => r' = .c (I r) := by
  refine Nx.Call.of_body Try.func41 rfl en41 Try.ntmps41 rfl (fun Γ hok => ?_)
  unfold slices_Min_int at h
  refine Wp.seq ?_
  refine Wp.text [0] rfl rfl ?_ -- region 0
  refine TextR.assign rfl ?_
  refine TextR.done (.cons rfl .nil) ?_
  refine Wp.seq ?_
  refine Wp.seq ?_
  refine Wp.text [0, 7] rfl rfl ?_ -- region 1
  refine TextR.move rfl ?_
  refine TextR.lenM us25 rfl rfl ?_
  refine TextR.int rfl rfl rfl ?_
  refine TextR.done (.cons rfl (.cons rfl .nil)) ?_
  refine Wp.condM h rfl (fun hc1 h => ?_) (fun hc1 h => ?_)
  · cases h
  · refine Wp.skip ?_
    refine Wp.seq ?_
    obtain ⟨x1, hx1, h⟩ := bind_some h
    refine Wp.text [0, 3] rfl rfl ?_ -- region 3
    refine TextR.move rfl ?_
    refine TextR.indexA se25 rfl rfl rfl hx1 rfl ?_
    refine TextR.load1M tk3 rfl (at_get hx1) rfl ?_
    refine TextR.assign rfl ?_
    refine TextR.done (.cons rfl (.cons rfl .nil)) ?_
    refine Wp.seq ?_
    refine Wp.seq ?_
    refine Wp.text [0, 3, 4] rfl rfl ?_ -- region 4
    refine TextR.assign rfl ?_
    refine TextR.done (.cons rfl (.cons rfl (.cons rfl .nil))) ?_
    obtain ⟨z2, hz2, h⟩ := bind_some h
    refine Wp.fragN (fun S => ∃ S', St.Weak ⟨Try.prog, 25, Γ⟩ S S' ∧ S' = ⟨[(3, .c (I z2))], []⟩) ?_ ?_
    · replace h := hz2
      refine Wp.block ?_
      refine Wp.weak (keepW (live := [0, 3, 4]) (.cons rfl (.cons rfl (.cons rfl .nil)))) ?_
      refine Wp.loop (fun m S => ∃ s3_1, ∃ s4_1, slices_Min_int_L1 N a0 m s3_1 s4_1 = some z2 ∧ S = ⟨[(0, .c (.slv (a0.map eI))), (3, .c (I s3_1)), (4, .c (I s4_1))], []⟩) N ⟨_, _, h, rfl⟩ ?_
      rintro m1 _ ⟨s3_1, s4_1, h, rfl⟩
      cases m1 with
      | zero => rw [slices_Min_int_L1.eq_1] at h; cases h
      | succ m1 =>
      rw [slices_Min_int_L1.eq_2] at h
      refine Wp.seq ?_
      refine Wp.seq ?_
      refine Wp.text [0, 3, 4, 15] rfl rfl ?_ -- region 5
      refine TextR.move rfl ?_
      refine TextR.move rfl ?_
      refine TextR.lenM us25 rfl rfl ?_
      refine TextR.int rfl rfl rfl ?_
      refine TextR.done (.cons rfl (.cons rfl (.cons rfl (.cons rfl .nil)))) ?_
      refine Wp.condM h rfl (fun hc3 h => ?_) (fun hc3 h => ?_)
      · refine Wp.skip ?_
        refine Wp.seq ?_
        refine Wp.block ?_
        obtain ⟨x3, hx3, h⟩ := bind_some h
        refine Wp.text [0, 3, 4] rfl rfl ?_ -- region 7
        refine TextR.move rfl ?_
        refine TextR.move rfl ?_
        refine TextR.move rfl ?_
        refine TextR.indexA se25 rfl rfl rfl hx3 rfl ?_
        refine TextR.load1M tk3 rfl (at_get hx3) rfl ?_
        refine TextR.minmax (.inl rfl) rfl ?_
        refine TextR.assign rfl ?_
        refine TextR.done (.cons rfl (.cons rfl (.cons rfl .nil))) ?_
        refine Wp.text [0, 3, 4] rfl rfl ?_ -- region 6
        refine TextR.move rfl ?_
        refine TextR.int rfl rfl rfl ?_
        refine TextR.assign rfl ?_
        refine TextR.done (.cons rfl (.cons rfl (.cons rfl .nil))) ?_
        exact ⟨m1, Nat.lt_succ_self _, _, (keepW (live := [0, 3, 4]) (.cons rfl (.cons rfl (.cons rfl .nil)))), _, _, h, rfl⟩
      · refine Wp.exit ?_
        obtain rfl := Option.some.inj h
        exact ⟨_, (keepW (live := [3]) (.cons rfl .nil)), rfl⟩
    rintro _ ⟨S', hw, rfl⟩
    clear hz2
    refine Wp.weak hw ?_
    refine Wp.seq ?_
    refine Wp.text [2] rfl rfl ?_ -- region 8
    refine TextR.move rfl ?_
    refine TextR.assign rfl ?_
    refine TextR.done (.cons rfl .nil) ?_
    refine Wp.ret ?_
    obtain rfl := Option.some.inj h
    exact Ret.one rfl (resV_tmp rfl) rfl
theorem c_slices_Min_int (N : Nat) (a0 : List Int) (r : Int) (h : slices_Min_int N a0 = some r) (H : List Ob) : DCall Try.prog 41 [.c (.slv (a0.map eI))] H (.c (I r)) := DCall.lift (by first | rfl | simp [-List.map_set]) (by first | rfl | simp [-List.map_set]) (fun _ => by simp [-List.map_set]) (w_slices_Min_int N a0 r h) H
-- slices.Grow[[]int,int]
theorem w_slices_Grow_int (N : Nat) (a1 : Int) (r : (List Int)) (h : slices_Grow_int N a1 = some r) : Nx.Call Try.prog 55 [.c (nilS), .c (I a1)] [] fun r' _ => r' = .c (.slv (r.map eI)) := by
  refine Nx.Call.of_body Try.func55 rfl en55 Try.ntmps55 rfl (fun Γ hok => ?_)
  unfold slices_Grow_int at h
  refine Wp.seq ?_
  refine Wp.text [0, 1] rfl rfl ?_ -- region 0
  refine TextR.assign rfl ?_
  refine TextR.done (.cons rfl (.cons rfl .nil)) ?_
  refine Wp.seq ?_
  refine Wp.seq ?_
  refine Wp.text [0, 1, 6] rfl rfl ?_ -- region 1
  refine TextR.move rfl ?_
  refine TextR.int rfl rfl rfl ?_
  refine TextR.done (.cons rfl (.cons rfl (.cons rfl .nil))) ?_
  refine Wp.condM h rfl (fun hc1 h => ?_) (fun hc1 h => ?_)
  · cases h
  · refine Wp.skip ?_
    refine Wp.seq ?_
    refine Wp.seq ?_
    refine Wp.text [0, 1] rfl rfl ?_ -- region 3
    refine TextR.move rfl ?_
    refine TextR.move rfl ?_
    refine TextR.capN us25 rfl ?_
    refine TextR.move rfl ?_
    refine TextR.len us25 rfl rfl ?_
    refine TextR.int rfl rfl rfl ?_
    refine TextR.int rfl rfl rfl ?_
    refine TextR.assign rfl ?_
    refine TextR.done (.cons rfl (.cons rfl .nil)) ?_
    refine Wp.seq ?_
    refine Wp.text [0, 1, 16] rfl rfl ?_ -- region 4
    refine TextR.move rfl ?_
    refine TextR.int rfl rfl rfl ?_
    refine TextR.done (.cons rfl (.cons rfl (.cons rfl .nil))) ?_
    refine Wp.condM h rfl (fun hc2 h => ?_) (fun hc2 h => ?_)
    · obtain ⟨x1, hx1, h⟩ := bind_some h
      obtain ⟨x2, hx2, h⟩ := bind_some h
      refine Wp.text [0] rfl rfl ?_ -- region 5
      refine TextR.move rfl ?_
      refine TextR.move rfl ?_
      refine TextR.capN us25 rfl ?_
      refine TextR.sliceN se25 rfl rfl rfl rfl rfl ?_
      refine TextR.move rfl ?_
      refine TextR.appendZ 0 eI 0 x1 hx1 ik3 se25 rfl rfl rfl rfl rfl .nil ?_
      refine TextR.move rfl ?_
      refine TextR.len us25 rfl rfl ?_
      refine TextR.sliceOM se25 rfl rfl rfl rfl rfl rfl hx2 ?_
      refine TextR.assign rfl ?_
      refine TextR.done (.cons rfl .nil) ?_
      refine Wp.seq ?_
      refine Wp.text [4] rfl rfl ?_ -- region 6
      refine TextR.move rfl ?_
      refine TextR.assign rfl ?_
      refine TextR.done (.cons rfl .nil) ?_
      refine Wp.weak (keepW (live := [4] ) (.cons rfl .nil)) ?_
      refine Wp.weak (freezeW (h := 0) (ver := 0) (rows := x1.map eI) (e' := [(4, .c (.slv (x2.map eI)))]) (H' := [.dead]) rfl (by first | rfl | (have q0 := sub_rows (f := eI) hx2; have p0 := sub_le hx2; simp at q0 p0; simp [-List.map_set, q0, p0]; done)) (by first | rfl | (have q0 := sub_rows (f := eI) hx2; have p0 := sub_le hx2; simp at q0 p0; simp [-List.map_set, q0, p0]; done))) ?_
      refine Wp.ret ?_
      obtain rfl := Option.some.inj h
      exact Ret.one rfl (resV_tmp rfl) rfl
    · refine Wp.skip ?_
      refine Wp.seq ?_
      refine Wp.text [4] rfl rfl ?_ -- region 6
      refine TextR.move rfl ?_
      refine TextR.assign rfl ?_
      refine TextR.done (.cons rfl .nil) ?_
      refine Wp.weak (keepW (live := [4] ) (.cons rfl .nil)) ?_
      refine Wp.weak (nzT (e' := [(4, .c (.slv ([].map eI)))]) (H' := []) (by first | rfl | simp [-List.map_set]) (by first | rfl | simp [-List.map_set])) ?_
      refine Wp.ret ?_
      obtain rfl := Option.some.inj h
      exact Ret.one rfl (resV_tmp rfl) rfl
theorem c_slices_Grow_int (N : Nat) (a1 : Int) (r : (List Int)) (h : slices_Grow_int N a1 = some r) (H : List Ob) : DCall Try.prog 55 [.c (nilS), .c (I a1)] H (.c (.slv (r.map eI))) := DCall.lift (by first | rfl | simp [-List.map_set]) (by first | rfl | simp [-List.map_set]) (fun _ => by simp [-List.map_set]) (w_slices_Grow_int N a1 r h) H
theorem b_slices_Grow_int (N : Nat) (a1 : Int) (r : (List Int)) (h : slices_Grow_int_o N a1 = some r) : Nx.Call Try.prog 55 [.c (nilS), .c (I a1)] [] fun r' H' => r' = .c (.sl 0 0 0 r.length) ∧ ∃ junk, H' = [.live 0 1 (r.map eI)] ++ junk := by
  refine Nx.Call.of_body Try.func55 rfl en55 Try.ntmps55 rfl (fun Γ hok => ?_)
  unfold slices_Grow_int_o at h
  refine Wp.seq ?_
  refine Wp.text [0, 1] rfl rfl ?_ -- region 0
  refine TextR.assign rfl ?_
  refine TextR.done (.cons rfl (.cons rfl .nil)) ?_
  refine Wp.seq ?_
  refine Wp.seq ?_
  refine Wp.text [0, 1, 6] rfl rfl ?_ -- region 1
  refine TextR.move rfl ?_
  refine TextR.int rfl rfl rfl ?_
  refine TextR.done (.cons rfl (.cons rfl (.cons rfl .nil))) ?_
  refine Wp.condM h rfl (fun hc1 h => ?_) (fun hc1 h => ?_)
  · cases h
  · refine Wp.skip ?_
    refine Wp.seq ?_
    refine Wp.seq ?_
    refine Wp.text [0, 1] rfl rfl ?_ -- region 3
    refine TextR.move rfl ?_
    refine TextR.move rfl ?_
    refine TextR.capN us25 rfl ?_
    refine TextR.move rfl ?_
    refine TextR.len us25 rfl rfl ?_
    refine TextR.int rfl rfl rfl ?_
    refine TextR.int rfl rfl rfl ?_
    refine TextR.assign rfl ?_
    refine TextR.done (.cons rfl (.cons rfl .nil)) ?_
    refine Wp.seq ?_
    refine Wp.text [0, 1, 16] rfl rfl ?_ -- region 4
    refine TextR.move rfl ?_
    refine TextR.int rfl rfl rfl ?_
    refine TextR.done (.cons rfl (.cons rfl (.cons rfl .nil))) ?_
    refine Wp.condM h rfl (fun hc2 h => ?_) (fun hc2 h => ?_)
    · obtain ⟨x1, hx1, h⟩ := bind_some h
      obtain ⟨x2, hx2, h⟩ := bind_some h
      refine Wp.text [0] rfl rfl ?_ -- region 5
      refine TextR.move rfl ?_
      refine TextR.move rfl ?_
      refine TextR.capN us25 rfl ?_
      refine TextR.sliceN se25 rfl rfl rfl rfl rfl ?_
      refine TextR.move rfl ?_
      refine TextR.appendZ 0 eI 0 x1 hx1 ik3 se25 rfl rfl rfl rfl rfl .nil ?_
      refine TextR.move rfl ?_
      refine TextR.len us25 rfl rfl ?_
      refine TextR.sliceOM se25 rfl rfl rfl rfl rfl rfl hx2 ?_
      refine TextR.assign rfl ?_
      refine TextR.done (.cons rfl .nil) ?_
      refine Wp.seq ?_
      refine Wp.text [4] rfl rfl ?_ -- region 6
      refine TextR.move rfl ?_
      refine TextR.assign rfl ?_
      refine TextR.done (.cons rfl .nil) ?_
      refine Wp.weak (keepW (live := [4] ) (.cons rfl .nil)) ?_
      refine Wp.weak (narrowE (t := 4) (rows' := x2.map eI) rfl rfl (by have q := sub_le hx2; simp at q ⊢; omega) (sub_rows hx2) .zero) ?_
      refine Wp.weak (keepW (live := [4] ) (.cons rfl .nil)) ?_
      refine Wp.weak (reverW (h := 0) (ver := 1) (rows := x2.map eI) (e' := [(4, .c (.sl 0 0 0 x2.length))]) (H' := [.live 0 1 (x2.map eI)]) 0 hok.len.symm rfl rfl (rv_self ok_eI fx_eI _) (by simp [rvK, allVp, allO, -List.map_set]) (by simp [rvK, allVp, allO, -List.map_set]) (by first | rfl | simp [-List.map_set]) (by first | rfl | simp [-List.map_set])) ?_
      refine Wp.ret ?_
      obtain rfl := Option.some.inj h
      exact Ret.one rfl (resV_tmp rfl) ⟨rfl, _, rfl⟩
    · refine Wp.skip ?_
      refine Wp.seq ?_
      refine Wp.text [4] rfl rfl ?_ -- region 6
      refine TextR.move rfl ?_
      refine TextR.assign rfl ?_
      refine TextR.done (.cons rfl .nil) ?_
      refine Wp.weak (keepW (live := [4] ) (.cons rfl .nil)) ?_
      refine Wp.weak (nilW (e := [(4, .c (nilS))]) (H := []) (t := 4) 0 1 0 rfl rfl .nil) ?_
      refine Wp.weak (keepW (live := [4] ) (.cons rfl .nil)) ?_
      refine Wp.ret ?_
      obtain rfl := Option.some.inj h
      exact Ret.one rfl (resV_tmp rfl) ⟨rfl, _, rfl⟩
theorem o_slices_Grow_int (N : Nat) (a1 : Int) (r : (List Int)) (h : slices_Grow_int_o N a1 = some r) {H H1 : List Ob} (k : Nat) (hh : H.length = k) (hs : Snoc (.live 0 1 (r.map eI)) H H1) : Nx.Call Try.prog 55 [.c (nilS), .c (I a1)] H fun r' H' => r' = .c (.sl k 0 0 r.length) ∧ H' = H1 := by
  have hc := Call.lift (objs := [.live 0 1 (r.map eI)]) (by first | rfl | simp [-List.map_set]) rfl (by have := okR_eI (p := mvL 1) r; simpa [mvO] using this) (b_slices_Grow_int N a1 r h) H
  refine Call.mono hc fun r' H' ⟨h1, h2⟩ => ⟨by subst hh; simpa [shV, shL] using h1, ?_⟩
  rw [h2, ← hs.eq]
  simp [shO, fx_eI]
-- slices.Concat[[]int,int]
theorem w_slices_Concat_int (N : Nat) (a0 : List (List Int)) (r : (List Int)) (h : slices_Concat_int N a0 = some r) : Nx.Call Try.prog 42 [.c (.slv (a0.map eL_I))] [] fun r' _ => r' = .c (.slv (r.map eI)) := by
  refine Nx.Call.of_body Try.func42 rfl en42 Try.ntmps42 rfl (fun Γ hok => ?_)
  unfold slices_Concat_int at h
  refine Wp.seq ?_
  refine Wp.text [0] rfl rfl ?_ -- region 0
  refine TextR.assign rfl ?_
  refine TextR.done (.cons rfl .nil) ?_
  refine Wp.seq ?_
  refine Wp.text [0, 3] rfl rfl ?_ -- region 1
  refine TextR.assign rfl ?_
  refine TextR.done (.cons rfl (.cons rfl .nil)) ?_
  refine Wp.seq ?_
  refine Wp.seq ?_
  refine Wp.text [0, 3, 9, 10, 11] rfl rfl ?_ -- region 2
  refine TextR.move rfl ?_
  refine TextR.lenM us60 rfl rfl ?_
  refine TextR.move rfl ?_
  refine TextR.done (.cons rfl (.cons rfl (.cons rfl (.cons rfl (.cons rfl .nil))))) ?_
  obtain ⟨z1, hz1, h⟩ := bind_some h
  refine Wp.fragN (fun S => ∃ S', St.Weak ⟨Try.prog, 36, Γ⟩ S S' ∧ S' = ⟨[(0, .c (.slv (a0.map eL_I))), (3, .c (I z1))], []⟩) ?_ ?_
  · replace h := hz1
    refine Wp.block ?_
    refine Wp.weak (keepW (live := [0, 3, 9, 10, 11]) (.cons rfl (.cons rfl (.cons rfl (.cons rfl (.cons rfl .nil)))))) ?_
    refine Wp.loop (fun m S => ∃ s3_1, ∃ s11_1, slices_Concat_int_L1 N a0 m s3_1 s11_1 = some z1 ∧ S = ⟨[(0, .c (.slv (a0.map eL_I))), (3, .c (I s3_1)), (9, .c (.slv (a0.map eL_I))), (10, .c (I (a0.length : Int))), (11, .c (I s11_1))], []⟩) N ⟨_, _, h, rfl⟩ ?_
    rintro m1 _ ⟨s3_1, s11_1, h, rfl⟩
    cases m1 with
    | zero => rw [slices_Concat_int_L1.eq_1] at h; cases h
    | succ m1 =>
    rw [slices_Concat_int_L1.eq_2] at h
    refine Wp.seq ?_
    refine Wp.text [0, 3, 9, 10, 11, 12] rfl rfl ?_ -- region 3
    refine TextR.int rfl rfl rfl ?_
    refine TextR.done (.cons rfl (.cons rfl (.cons rfl (.cons rfl (.cons rfl (.cons rfl .nil)))))) ?_
    refine Wp.seq ?_
    refine Wp.condM h rfl (fun hc2 h => ?_) (fun hc2 h => ?_)
    · refine Wp.skip ?_
      refine Wp.seq ?_
      refine Wp.block ?_
      refine Wp.seq ?_
      obtain ⟨x2, hx2, h⟩ := bind_some h
      refine Wp.text [0, 3, 5, 9, 10, 11] rfl rfl ?_ -- region 4
      refine TextR.indexA se60 rfl rfl rfl hx2 rfl ?_
      refine TextR.load1M tk25 rfl (at_get hx2) rfl ?_
      refine TextR.assign rfl ?_
      refine TextR.done (.cons rfl (.cons rfl (.cons rfl (.cons rfl (.cons rfl (.cons rfl .nil)))))) ?_
      refine Wp.seq ?_
      refine Wp.text [0, 3, 9, 10, 11] rfl rfl ?_ -- region 5
      refine TextR.move rfl ?_
      refine TextR.move rfl ?_
      refine TextR.lenM us25 rfl rfl ?_
      refine TextR.int rfl rfl rfl ?_
      refine TextR.assign rfl ?_
      refine TextR.done (.cons rfl (.cons rfl (.cons rfl (.cons rfl (.cons rfl .nil))))) ?_
      refine Wp.seq ?_
      refine Wp.text [0, 3, 9, 10, 11, 20] rfl rfl ?_ -- region 6
      refine TextR.move rfl ?_
      refine TextR.int rfl rfl rfl ?_
      refine TextR.done (.cons rfl (.cons rfl (.cons rfl (.cons rfl (.cons rfl (.cons rfl .nil)))))) ?_
      refine Wp.condM h rfl (fun hc3 h => ?_) (fun hc3 h => ?_)
      · cases h
      · refine Wp.skip ?_
        refine Wp.text [0, 3, 9, 10, 11] rfl rfl ?_ -- region 8
        refine TextR.int rfl rfl rfl ?_
        refine TextR.move rfl ?_
        refine TextR.done (.cons rfl (.cons rfl (.cons rfl (.cons rfl (.cons rfl .nil))))) ?_
        exact ⟨m1, Nat.lt_succ_self _, _, (keepW (live := [0, 3, 9, 10, 11]) (.cons rfl (.cons rfl (.cons rfl (.cons rfl (.cons rfl .nil)))))), _, _, h, rfl⟩
    · refine Wp.exit ?_
      obtain rfl := Option.some.inj h
      exact ⟨_, (keepW (live := [0, 3]) (.cons rfl (.cons rfl .nil))), rfl⟩
  rintro _ ⟨S', hw, rfl⟩
  clear hz1
  refine Wp.weak hw ?_
  refine Wp.seq ?_
  obtain ⟨y3, hy3, h⟩ := bind_some h
  refine Wp.text [0, 6] rfl rfl ?_ -- region 9
  refine TextR.move rfl ?_
  refine TextR.call rfl rfl (by exact o_slices_Grow_int N z1 y3 hy3 0 rfl .nil) (fun x H' hk => ?_)
  obtain ⟨rfl, rfl⟩ := hk
  refine TextR.assign rfl ?_
  refine TextR.done (.cons rfl (.cons rfl .nil)) ?_
  refine Wp.seq ?_
  refine Wp.seq ?_
  refine Wp.text [6, 25, 26, 27] rfl rfl ?_ -- region 10
  refine TextR.move rfl ?_
  refine TextR.lenM us60 rfl rfl ?_
  refine TextR.move rfl ?_
  refine TextR.done (.cons rfl (.cons rfl (.cons rfl (.cons rfl .nil)))) ?_
  obtain ⟨z4, hz4, h⟩ := bind_some h
  refine Wp.fragN (fun S => ∃ wz4_0, ∃ S', St.Weak ⟨Try.prog, 36, Γ⟩ S S' ∧ S' = ⟨[(6, .c (.sl 0 wz4_0 0 z4.length))], [.live wz4_0 1 (z4.map eI)]⟩) ?_ ?_
  · replace h := hz4
    refine Wp.block ?_
    refine Wp.weak (keepW (live := [6, 25, 26, 27]) (.cons rfl (.cons rfl (.cons rfl (.cons rfl .nil))))) ?_
    refine Wp.loop (fun m S => ∃ l0_2, ∃ s27_2, ∃ wh0_2, slices_Concat_int_L2 N a0 m l0_2 s27_2 = some z4 ∧ S = ⟨[(6, .c (.sl 0 wh0_2 0 l0_2.length)), (25, .c (.slv (a0.map eL_I))), (26, .c (I (a0.length : Int))), (27, .c (I s27_2))], [.live wh0_2 1 (l0_2.map eI)]⟩) N ⟨_, _, _, h, rfl⟩ ?_
    rintro m2 _ ⟨l0_2, s27_2, wh0_2, h, rfl⟩
    cases m2 with
    | zero => rw [slices_Concat_int_L2.eq_1] at h; cases h
    | succ m2 =>
    rw [slices_Concat_int_L2.eq_2] at h
    refine Wp.seq ?_
    refine Wp.text [6, 25, 26, 27, 28] rfl rfl ?_ -- region 11
    refine TextR.int rfl rfl rfl ?_
    refine TextR.done (.cons rfl (.cons rfl (.cons rfl (.cons rfl (.cons rfl .nil))))) ?_
    refine Wp.seq ?_
    refine Wp.condM h rfl (fun hc2 h => ?_) (fun hc2 h => ?_)
    · refine Wp.skip ?_
      refine Wp.seq ?_
      refine Wp.block ?_
      refine Wp.seq ?_
      obtain ⟨x5, hx5, h⟩ := bind_some h
      refine Wp.text [6, 8, 25, 26, 27] rfl rfl ?_ -- region 12
      refine TextR.indexA se60 rfl rfl rfl hx5 rfl ?_
      refine TextR.load1M tk25 rfl (at_get hx5) rfl ?_
      refine TextR.assign rfl ?_
      refine TextR.done (.cons rfl (.cons rfl (.cons rfl (.cons rfl (.cons rfl .nil))))) ?_
      obtain ⟨x6, hx6, h⟩ := bind_some h
      refine Wp.text [6, 25, 26, 27] rfl rfl ?_ -- region 13
      refine TextR.move rfl ?_
      refine TextR.move rfl ?_
      refine TextR.appendM eI l0_2 x5 x6 (app_eq hx6) se25 rfl (obj_of rfl) rfl rfl (fun _ => rfl) rfl (app_len hx6) .zero ?_
      refine TextR.assign rfl ?_
      refine TextR.done (.cons rfl (.cons rfl (.cons rfl (.cons rfl .nil)))) ?_
      refine Wp.text [6, 25, 26, 27] rfl rfl ?_ -- region 14
      refine TextR.int rfl rfl rfl ?_
      refine TextR.move rfl ?_
      refine TextR.done (.cons rfl (.cons rfl (.cons rfl (.cons rfl .nil)))) ?_
      exact ⟨m2, Nat.lt_succ_self _, _, (keepW (live := [6, 25, 26, 27]) (.cons rfl (.cons rfl (.cons rfl (.cons rfl .nil))))), _, _, _, h, rfl⟩
    · refine Wp.exit ?_
      obtain rfl := Option.some.inj h
      exact ⟨_, _, (keepW (live := [6]) (.cons rfl .nil)), rfl⟩
  rintro _ ⟨wz4_0, S', hw, rfl⟩
  clear hz4
  refine Wp.weak hw ?_
  refine Wp.seq ?_
  refine Wp.text [2] rfl rfl ?_ -- region 15
  refine TextR.move rfl ?_
  refine TextR.assign rfl ?_
  refine TextR.done (.cons rfl .nil) ?_
  refine Wp.weak (keepW (live := [2] ) (.cons rfl .nil)) ?_
  refine Wp.weak (freezeW (h := 0) (ver := wz4_0) (rows := z4.map eI) (e' := [(2, .c (.slv (z4.map eI)))]) (H' := [.dead]) (obj_of rfl) (by first | rfl | simp [-List.map_set]) (by first | rfl | simp [-List.map_set])) ?_
  refine Wp.ret ?_
  obtain rfl := Option.some.inj h
  exact Ret.one rfl (resV_tmp rfl) rfl
theorem c_slices_Concat_int (N : Nat) (a0 : List (List Int)) (r : (List Int)) (h : slices_Concat_int N a0 = some r) (H : List Ob) : DCall Try.prog 42 [.c (.slv (a0.map eL_I))] H (.c (.slv (r.map eI))) := DCall.lift (by first | rfl | simp [-List.map_set]) (by first | rfl | simp [-List.map_set]) (fun _ => by simp [-List.map_set]) (w_slices_Concat_int N a0 r h) H
theorem b_slices_Concat_int (N : Nat) (a0 : List (List Int)) (r : (List Int)) (h : slices_Concat_int N a0 = some r) : Nx.Call Try.prog 42 [.c (.slv (a0.map eL_I))] [] fun r' H' => r' = .c (.sl 0 0 0 r.length) ∧ ∃ junk, H' = [.live 0 1 (r.map eI)] ++ junk := by
  refine Nx.Call.of_body Try.func42 rfl en42 Try.ntmps42 rfl (fun Γ hok => ?_)
  unfold slices_Concat_int at h
  refine Wp.seq ?_
  refine Wp.text [0] rfl rfl ?_ -- region 0
  refine TextR.assign rfl ?_
  refine TextR.done (.cons rfl .nil) ?_
  refine Wp.seq ?_
  refine Wp.text [0, 3] rfl rfl ?_ -- region 1
  refine TextR.assign rfl ?_
  refine TextR.done (.cons rfl (.cons rfl .nil)) ?_
  refine Wp.seq ?_
  refine Wp.seq ?_
  refine Wp.text [0, 3, 9, 10, 11] rfl rfl ?_ -- region 2
  refine TextR.move rfl ?_
  refine TextR.lenM us60 rfl rfl ?_
  refine TextR.move rfl ?_
  refine TextR.done (.cons rfl (.cons rfl (.cons rfl (.cons rfl (.cons rfl .nil))))) ?_
  obtain ⟨z1, hz1, h⟩ := bind_some h
  refine Wp.fragN (fun S => ∃ S', St.Weak ⟨Try.prog, 36, Γ⟩ S S' ∧ S' = ⟨[(0, .c (.slv (a0.map eL_I))), (3, .c (I z1))], []⟩) ?_ ?_
  · replace h := hz1
    refine Wp.block ?_
    refine Wp.weak (keepW (live := [0, 3, 9, 10, 11]) (.cons rfl (.cons rfl (.cons rfl (.cons rfl (.cons rfl .nil)))))) ?_
    refine Wp.loop (fun m S => ∃ s3_1, ∃ s11_1, slices_Concat_int_L1 N a0 m s3_1 s11_1 = some z1 ∧ S = ⟨[(0, .c (.slv (a0.map eL_I))), (3, .c (I s3_1)), (9, .c (.slv (a0.map eL_I))), (10, .c (I (a0.length : Int))), (11, .c (I s11_1))], []⟩) N ⟨_, _, h, rfl⟩ ?_
    rintro m1 _ ⟨s3_1, s11_1, h, rfl⟩
    cases m1 with
    | zero => rw [slices_Concat_int_L1.eq_1] at h; cases h
    | succ m1 =>
    rw [slices_Concat_int_L1.eq_2] at h
    refine Wp.seq ?_
    refine Wp.text [0, 3, 9, 10, 11, 12] rfl rfl ?_ -- region 3
    refine TextR.int rfl rfl rfl ?_
    refine TextR.done (.cons rfl (.cons rfl (.cons rfl (.cons rfl (.cons rfl (.cons rfl .nil)))))) ?_
    refine Wp.seq ?_
    refine Wp.condM h rfl (fun hc2 h => ?_) (fun hc2 h => ?_)
    · refine Wp.skip ?_
      refine Wp.seq ?_
      refine Wp.block ?_
      refine Wp.seq ?_
      obtain ⟨x2, hx2, h⟩ := bind_some h
      refine Wp.text [0, 3, 5, 9, 10, 11] rfl rfl ?_ -- region 4
      refine TextR.indexA se60 rfl rfl rfl hx2 rfl ?_
      refine TextR.load1M tk25 rfl (at_get hx2) rfl ?_
      refine TextR.assign rfl ?_
      refine TextR.done (.cons rfl (.cons rfl (.cons rfl (.cons rfl (.cons rfl (.cons rfl .nil)))))) ?_
      refine Wp.seq ?_
      refine Wp.text [0, 3, 9, 10, 11] rfl rfl ?_ -- region 5
      refine TextR.move rfl ?_
      refine TextR.move rfl ?_
      refine TextR.lenM us25 rfl rfl ?_
      refine TextR.int rfl rfl rfl ?_
      refine TextR.assign rfl ?_
      refine TextR.done (.cons rfl (.cons rfl (.cons rfl (.cons rfl (.cons rfl .nil))))) ?_
      refine Wp.seq ?_
      refine Wp.text [0, 3, 9, 10, 11, 20] rfl rfl ?_ -- region 6
      refine TextR.move rfl ?_
      refine TextR.int rfl rfl rfl ?_
      refine TextR.done (.cons rfl (.cons rfl (.cons rfl (.cons rfl (.cons rfl (.cons rfl .nil)))))) ?_
      refine Wp.condM h rfl (fun hc3 h => ?_) (fun hc3 h => ?_)
      · cases h
      · refine Wp.skip ?_
        refine Wp.text [0, 3, 9, 10, 11] rfl rfl ?_ -- region 8
        refine TextR.int rfl rfl rfl ?_
        refine TextR.move rfl ?_
        refine TextR.done (.cons rfl (.cons rfl (.cons rfl (.cons rfl (.cons rfl .nil))))) ?_
        exact ⟨m1, Nat.lt_succ_self _, _, (keepW (live := [0, 3, 9, 10, 11]) (.cons rfl (.cons rfl (.cons rfl (.cons rfl (.cons rfl .nil)))))), _, _, h, rfl⟩
    · refine Wp.exit ?_
      obtain rfl := Option.some.inj h
      exact ⟨_, (keepW (live := [0, 3]) (.cons rfl (.cons rfl .nil))), rfl⟩
  rintro _ ⟨S', hw, rfl⟩
  clear hz1
  refine Wp.weak hw ?_
  refine Wp.seq ?_
  obtain ⟨y3, hy3, h⟩ := bind_some h
  refine Wp.text [0, 6] rfl rfl ?_ -- region 9
  refine TextR.move rfl ?_
  refine TextR.call rfl rfl (by exact o_slices_Grow_int N z1 y3 hy3 0 rfl .nil) (fun x H' hk => ?_)
  obtain ⟨rfl, rfl⟩ := hk
  refine TextR.assign rfl ?_
  refine TextR.done (.cons rfl (.cons rfl .nil)) ?_
  refine Wp.seq ?_
  refine Wp.seq ?_
  refine Wp.text [6, 25, 26, 27] rfl rfl ?_ -- region 10
  refine TextR.move rfl ?_
  refine TextR.lenM us60 rfl rfl ?_
  refine TextR.move rfl ?_
  refine TextR.done (.cons rfl (.cons rfl (.cons rfl (.cons rfl .nil)))) ?_
  obtain ⟨z4, hz4, h⟩ := bind_some h
  refine Wp.fragN (fun S => ∃ wz4_0, ∃ S', St.Weak ⟨Try.prog, 36, Γ⟩ S S' ∧ S' = ⟨[(6, .c (.sl 0 wz4_0 0 z4.length))], [.live wz4_0 1 (z4.map eI)]⟩) ?_ ?_
  · replace h := hz4
    refine Wp.block ?_
    refine Wp.weak (keepW (live := [6, 25, 26, 27]) (.cons rfl (.cons rfl (.cons rfl (.cons rfl .nil))))) ?_
    refine Wp.loop (fun m S => ∃ l0_2, ∃ s27_2, ∃ wh0_2, slices_Concat_int_L2 N a0 m l0_2 s27_2 = some z4 ∧ S = ⟨[(6, .c (.sl 0 wh0_2 0 l0_2.length)), (25, .c (.slv (a0.map eL_I))), (26, .c (I (a0.length : Int))), (27, .c (I s27_2))], [.live wh0_2 1 (l0_2.map eI)]⟩) N ⟨_, _, _, h, rfl⟩ ?_
    rintro m2 _ ⟨l0_2, s27_2, wh0_2, h, rfl⟩
    cases m2 with
    | zero => rw [slices_Concat_int_L2.eq_1] at h; cases h
    | succ m2 =>
    rw [slices_Concat_int_L2.eq_2] at h
    refine Wp.seq ?_
    refine Wp.text [6, 25, 26, 27, 28] rfl rfl ?_ -- region 11
    refine TextR.int rfl rfl rfl ?_
    refine TextR.done (.cons rfl (.cons rfl (.cons rfl (.cons rfl (.cons rfl .nil))))) ?_
    refine Wp.seq ?_
    refine Wp.condM h rfl (fun hc2 h => ?_) (fun hc2 h => ?_)
    · refine Wp.skip ?_
      refine Wp.seq ?_
      refine Wp.block ?_
      refine Wp.seq ?_
      obtain ⟨x5, hx5, h⟩ := bind_some h
      refine Wp.text [6, 8, 25, 26, 27] rfl rfl ?_ -- region 12
      refine TextR.indexA se60 rfl rfl rfl hx5 rfl ?_
      refine TextR.load1M tk25 rfl (at_get hx5) rfl ?_
      refine TextR.assign rfl ?_
      refine TextR.done (.cons rfl (.cons rfl (.cons rfl (.cons rfl (.cons rfl .nil))))) ?_
      obtain ⟨x6, hx6, h⟩ := bind_some h
      refine Wp.text [6, 25, 26, 27] rfl rfl ?_ -- region 13
      refine TextR.move rfl ?_
      refine TextR.move rfl ?_
      refine TextR.appendM eI l0_2 x5 x6 (app_eq hx6) se25 rfl (obj_of rfl) rfl rfl (fun _ => rfl) rfl (app_len hx6) .zero ?_
      refine TextR.assign rfl ?_
      refine TextR.done (.cons rfl (.cons rfl (.cons rfl (.cons rfl .nil)))) ?_
      refine Wp.text [6, 25, 26, 27] rfl rfl ?_ -- region 14
      refine TextR.int rfl rfl rfl ?_
      refine TextR.move rfl ?_
      refine TextR.done (.cons rfl (.cons rfl (.cons rfl (.cons rfl .nil)))) ?_
      exact ⟨m2, Nat.lt_succ_self _, _, (keepW (live := [6, 25, 26, 27]) (.cons rfl (.cons rfl (.cons rfl (.cons rfl .nil))))), _, _, _, h, rfl⟩
    · refine Wp.exit ?_
      obtain rfl := Option.some.inj h
      exact ⟨_, _, (keepW (live := [6]) (.cons rfl .nil)), rfl⟩
  rintro _ ⟨wz4_0, S', hw, rfl⟩
  clear hz4
  refine Wp.weak hw ?_
  refine Wp.seq ?_
  refine Wp.text [2] rfl rfl ?_ -- region 15
  refine TextR.move rfl ?_
  refine TextR.assign rfl ?_
  refine TextR.done (.cons rfl .nil) ?_
  refine Wp.weak (keepW (live := [2] ) (.cons rfl .nil)) ?_
  refine Wp.weak (reverW (h := 0) (ver := wz4_0) (rows := z4.map eI) (e' := [(2, .c (.sl 0 0 0 z4.length))]) (H' := [.live 0 1 (z4.map eI)]) 0 hok.len.symm rfl (obj_of rfl) (rv_self ok_eI fx_eI _) (by simp [rvK, allVp, allO, -List.map_set]) (by simp [rvK, allVp, allO, -List.map_set]) (by first | rfl | simp [-List.map_set]) (by first | rfl | simp [-List.map_set])) ?_
  refine Wp.ret ?_
  obtain rfl := Option.some.inj h
  exact Ret.one rfl (resV_tmp rfl) ⟨rfl, _, rfl⟩
theorem o_slices_Concat_int (N : Nat) (a0 : List (List Int)) (r : (List Int)) (h : slices_Concat_int N a0 = some r) {H H1 : List Ob} (k : Nat) (hh : H.length = k) (hs : Snoc (.live 0 1 (r.map eI)) H H1) : Nx.Call Try.prog 42 [.c (.slv (a0.map eL_I))] H fun r' H' => r' = .c (.sl k 0 0 r.length) ∧ H' = H1 := by
  have hc := Call.lift (objs := [.live 0 1 (r.map eI)]) (by first | rfl | simp [-List.map_set]) rfl (by have := okR_eI (p := mvL 1) r; simpa [mvO] using this) (b_slices_Concat_int N a0 r h) H
  refine Call.mono hc fun r' H' ⟨h1, h2⟩ => ⟨by subst hh; simpa [shV, shL] using h1, ?_⟩
  rw [h2, ← hs.eq]
  simp [shO, fx_eI]
-- narthex/dag.Cycle
theorem w_dag_Cycle (N : Nat) (a0 : Int) (a1 : List TArc) (r : (List Int) × Bool) (h : dag_Cycle N a0 a1 = some r) : Nx.Call Try.prog 20 [.c (I a0), .c (.slv (a1.map eArc))] [] fun r' _ => r' = .tup [.c (.slv (r.1.map eI)), .c (B r.2)] := by
  refine Nx.Call.of_body Try.func20 rfl en20 Try.ntmps20 rfl (fun Γ hok => ?_)
  unfold dag_Cycle at h
  refine Wp.seq ?_
  refine Wp.text [0, 1] rfl rfl ?_ -- region 0
  refine TextR.assign rfl ?_
  refine TextR.assign rfl ?_
  refine TextR.done (.cons rfl (.cons rfl .nil)) ?_
  refine Wp.seq ?_
  refine Wp.seq ?_
  obtain ⟨y1, hy1, h⟩ := bind_some h
  refine Wp.text [0, 1, 17] rfl rfl ?_ -- region 1
  refine TextR.move rfl ?_
  refine TextR.move rfl ?_
  refine TextR.dcall rfl rfl (c_dag_Check N a0 a1 y1 hy1 _) ?_
  refine TextR.int rfl rfl rfl ?_
  refine TextR.done (.cons rfl (.cons rfl (.cons rfl .nil))) ?_
  refine Wp.condM h rfl (fun hc1 h => ?_) (fun hc1 h => ?_)
  · refine Wp.seq ?_
    refine Wp.text [4, 5] rfl rfl ?_ -- region 2
    refine TextR.assign rfl ?_
    refine TextR.assign rfl ?_
    refine TextR.done (.cons rfl (.cons rfl .nil)) ?_
    refine Wp.weak (keepW (live := [4, 5] ) (.cons rfl (.cons rfl .nil))) ?_
    refine Wp.weak (nzT (e' := [(4, .c (.slv ([].map eI))), (5, .c (B false))]) (H' := []) (by first | rfl | simp [-List.map_set]) (by first | rfl | simp [-List.map_set])) ?_
    refine Wp.ret ?_
    obtain rfl := Option.some.inj h
    exact Ret.two rfl (resV_tmp rfl) (resV_tmp rfl) rfl
  · refine Wp.skip ?_
    refine Wp.seq ?_
    obtain ⟨y2, hy2, h⟩ := bind_some h
    refine Wp.text [0, 1, 7] rfl rfl ?_ -- region 3
    refine TextR.move rfl ?_
    refine TextR.move rfl ?_
    refine TextR.dcall rfl rfl (c_dag_run N a0 a1 y2 hy2 _) ?_
    refine TextR.move rfl ?_
    refine TextR.extract rfl rfl ?_
    refine TextR.extract rfl rfl ?_
    refine TextR.assign rfl ?_
    refine TextR.assign rfl ?_
    refine TextR.done (.cons rfl (.cons rfl (.cons rfl .nil))) ?_
    refine Wp.seq ?_
    obtain ⟨y3, hy3, h⟩ := bind_some h
    refine Wp.text [0, 1, 7, 8] rfl rfl ?_ -- region 4
    refine TextR.move rfl ?_
    refine TextR.dcall rfl rfl (c_slices_Index_bool N y2.2 true y3 hy3 _) ?_
    refine TextR.assign rfl ?_
    refine TextR.done (.cons rfl (.cons rfl (.cons rfl (.cons rfl .nil)))) ?_
    refine Wp.seq ?_
    refine Wp.seq ?_
    refine Wp.text [0, 1, 7, 8, 27] rfl rfl ?_ -- region 5
    refine TextR.move rfl ?_
    refine TextR.int rfl rfl rfl ?_
    refine TextR.done (.cons rfl (.cons rfl (.cons rfl (.cons rfl (.cons rfl .nil))))) ?_
    refine Wp.condM h rfl (fun hc2 h => ?_) (fun hc2 h => ?_)
    · refine Wp.seq ?_
      refine Wp.text [4, 5] rfl rfl ?_ -- region 6
      refine TextR.assign rfl ?_
      refine TextR.assign rfl ?_
      refine TextR.done (.cons rfl (.cons rfl .nil)) ?_
      refine Wp.weak (keepW (live := [4, 5] ) (.cons rfl (.cons rfl .nil))) ?_
      refine Wp.weak (nzT (e' := [(4, .c (.slv ([].map eI))), (5, .c (B false))]) (H' := []) (by first | rfl | simp [-List.map_set]) (by first | rfl | simp [-List.map_set])) ?_
      refine Wp.ret ?_
      obtain rfl := Option.some.inj h
      exact Ret.two rfl (resV_tmp rfl) (resV_tmp rfl) rfl
    · refine Wp.skip ?_
      refine Wp.seq ?_
      refine Wp.text [0, 1, 7, 8, 9] rfl rfl ?_ -- region 7
      refine TextR.assign rfl ?_
      refine TextR.done (.cons rfl (.cons rfl (.cons rfl (.cons rfl (.cons rfl .nil))))) ?_
      refine Wp.seq ?_
      obtain ⟨z4, hz4, h⟩ := bind_some h
      refine Wp.fragN (fun S => ∃ wz4_0, ∃ S', St.Weak ⟨Try.prog, 79, Γ⟩ S S' ∧ S' = ⟨[(8, .c (I z4.2)), (9, .c (.sl 0 wz4_0 0 z4.1.length))], [.live wz4_0 1 (z4.1.map eI)]⟩) ?_ ?_
      · replace h := hz4
        refine Wp.block ?_
        refine Wp.weak (St.Weak.trans (keepW (live := [0, 1, 7, 8, 9]) (.cons rfl (.cons rfl (.cons rfl (.cons rfl (.cons rfl .nil)))))) (St.Weak.trans (nilW (e := [(0, .c (I a0)), (1, .c (.slv (a1.map eArc))), (7, .c (.slv (y2.2.map eB))), (8, .c (I y3)), (9, .c (nilS))]) (H := []) (t := 9) 0 1 0 rfl rfl .nil) (keepW (live := [0, 1, 7, 8, 9]) (.cons rfl (.cons rfl (.cons rfl (.cons rfl (.cons rfl .nil)))))))) ?_
        refine Wp.loop (fun m S => ∃ l0_1, ∃ s8_1, ∃ wh0_1, dag_Cycle_L1 N a0 a1 y2 m l0_1 s8_1 = some z4 ∧ S = ⟨[(0, .c (I a0)), (1, .c (.slv (a1.map eArc))), (7, .c (.slv (y2.2.map eB))), (8, .c (I s8_1)), (9, .c (.sl 0 wh0_1 0 l0_1.length))], [.live wh0_1 1 (l0_1.map eI)]⟩) N ⟨_, _, _, h, rfl⟩ ?_
        rintro m1 _ ⟨l0_1, s8_1, wh0_1, h, rfl⟩
        cases m1 with
        | zero => rw [dag_Cycle_L1.eq_1] at h; cases h
        | succ m1 =>
        rw [dag_Cycle_L1.eq_2] at h
        refine Wp.seq ?_
        refine Wp.seq ?_
        obtain ⟨y5, hy5, h⟩ := bind_some h
        refine Wp.text [0, 1, 7, 8, 9, 31] rfl rfl ?_ -- region 8
        refine TextR.move rfl ?_
        refine TextR.move rfl ?_
        refine TextR.dcall rfl rfl (DCall.borrow (fs := [.c (.slv (l0_1.map eI)), .c (I s8_1)]) (by simp [-List.map_set, obj, List.take_of_length_le]) (by first | rfl | simp [-List.map_set]) rfl (w_slices_Contains_int N l0_1 s8_1 y5 hy5)) ?_
        refine TextR.not rfl ?_
        refine TextR.done (.cons rfl (.cons rfl (.cons rfl (.cons rfl (.cons rfl (.cons rfl .nil)))))) ?_
        refine Wp.condM h rfl (fun hc4 h => ?_) (fun hc4 h => ?_)
        · refine Wp.skip ?_
          refine Wp.block ?_
          refine Wp.seq ?_
          obtain ⟨x6, hx6, h⟩ := bind_some h
          refine Wp.text [0, 1, 7, 8, 9] rfl rfl ?_ -- region 9
          refine TextR.move rfl ?_
          refine TextR.move rfl ?_
          refine TextR.buildSlice (rows := [s8_1].map eI) 1 se25 rfl rfl rfl (.cons .nil) ?_
          refine TextR.appendM eI l0_1 [s8_1] x6 (app_eq hx6) se25 rfl (obj_of rfl) rfl (view_whole (f := eI) (xs := [s8_1]) rfl) (fun _ => rfl) rfl (app_len hx6) .zero ?_
          refine TextR.assign rfl ?_
          refine TextR.done (.cons rfl (.cons rfl (.cons rfl (.cons rfl (.cons rfl .nil))))) ?_
          refine Wp.seq ?_
          refine Wp.text [0, 1, 7, 8, 9, 10] rfl rfl ?_ -- region 10
          refine TextR.move rfl ?_
          refine TextR.assign rfl ?_
          refine TextR.done (.cons rfl (.cons rfl (.cons rfl (.cons rfl (.cons rfl (.cons rfl .nil)))))) ?_
          refine Wp.seq ?_
          refine Wp.seq ?_
          refine Wp.text [0, 1, 7, 8, 9, 10, 37, 38, 39] rfl rfl ?_ -- region 11
          refine TextR.move rfl ?_
          refine TextR.lenM us22 rfl rfl ?_
          refine TextR.move rfl ?_
          refine TextR.done (.cons rfl (.cons rfl (.cons rfl (.cons rfl (.cons rfl (.cons rfl (.cons rfl (.cons rfl (.cons rfl .nil))))))))) ?_
          obtain ⟨z7, hz7, h⟩ := bind_some h
          refine Wp.fragN (fun S => ∃ S', St.Weak ⟨Try.prog, 79, Γ⟩ S S' ∧ S' = ⟨[(0, .c (I a0)), (1, .c (.slv (a1.map eArc))), (7, .c (.slv (y2.2.map eB))), (9, .c (.sl 0 (wh0_1 + 1) 0 x6.length)), (10, .c (I z7))], [.live (wh0_1 + 1) 1 (x6.map eI)]⟩) ?_ ?_
          · replace h := hz7
            refine Wp.block ?_
            refine Wp.weak (St.Weak.trans (keepW (live := [0, 1, 7, 8, 9, 10, 37, 38, 39]) (.cons rfl (.cons rfl (.cons rfl (.cons rfl (.cons rfl (.cons rfl (.cons rfl (.cons rfl (.cons rfl .nil)))))))))) (pickT (e' := [(0, .c (I a0)), (1, .c (.slv (a1.map eArc))), (7, .c (.slv (y2.2.map eB))), (8, .c (I s8_1)), (9, .c (.sl 0 (wh0_1 + 1) 0 x6.length)), (10, .c (I a0)), (37, .c (.slv (a1.map eArc))), (38, .c (I (a1.length : Int))), (39, .c (I 0))]) (H' := [.live (wh0_1 + 1) 1 (x6.map eI)]) [0] [0, 0] 0 hok.len.symm rfl rfl (by decide) (by first | rfl | simp [-List.map_set]) (by first | rfl | simp [-List.map_set]) (by first | rfl | simp [-List.map_set]) (by first | rfl | simp [-List.map_set]))) ?_
            refine Wp.loop (fun m S => ∃ s10_2, ∃ s39_2, dag_Cycle_L2 N a1 y2 s8_1 m s10_2 s39_2 = some z7 ∧ S = ⟨[(0, .c (I a0)), (1, .c (.slv (a1.map eArc))), (7, .c (.slv (y2.2.map eB))), (8, .c (I s8_1)), (9, .c (.sl 0 (wh0_1 + 1) 0 x6.length)), (10, .c (I s10_2)), (37, .c (.slv (a1.map eArc))), (38, .c (I (a1.length : Int))), (39, .c (I s39_2))], [.live (wh0_1 + 1) 1 (x6.map eI)]⟩) N ⟨_, _, h, rfl⟩ ?_
            rintro m2 _ ⟨s10_2, s39_2, h, rfl⟩
            cases m2 with
            | zero => rw [dag_Cycle_L2.eq_1] at h; cases h
            | succ m2 =>
            rw [dag_Cycle_L2.eq_2] at h
            refine Wp.seq ?_
            refine Wp.text [0, 1, 7, 8, 9, 10, 37, 38, 39, 40] rfl rfl ?_ -- region 12
            refine TextR.int rfl rfl rfl ?_
            refine TextR.done (.cons rfl (.cons rfl (.cons rfl (.cons rfl (.cons rfl (.cons rfl (.cons rfl (.cons rfl (.cons rfl (.cons rfl .nil)))))))))) ?_
            refine Wp.seq ?_
            refine Wp.condM h rfl (fun hc6 h => ?_) (fun hc6 h => ?_)
            · refine Wp.skip ?_
              refine Wp.seq ?_
              refine Wp.block ?_
              refine Wp.seq ?_
              obtain ⟨x8, hx8, h⟩ := bind_some h
              refine Wp.text [0, 1, 7, 8, 9, 10, 12, 37, 38, 39] rfl rfl ?_ -- region 13
              refine TextR.indexA se22 rfl rfl rfl hx8 rfl ?_
              refine TextR.loadNM tk37 rfl (at_get hx8) rfl ?_
              refine TextR.alloc 1 zc37 rfl rfl (.cons .nil) ?_
              refine TextR.store1 tk37 rfl rfl rfl rfl rfl rfl (.succ .zero) ?_
              refine TextR.done (.cons rfl (.cons rfl (.cons rfl (.cons rfl (.cons rfl (.cons rfl (.cons rfl (.cons rfl (.cons rfl (.cons rfl .nil)))))))))) ?_
              refine Wp.seq ?_
              obtain ⟨x9, hx9, h⟩ := bind_some h
              refine Wp.go false none [[], [], [], [], [], [(47, true)], [(47, true)], [(47, true)], [(47, true)], [(47, true)], []] [] [0, 1, 7, 8, 9, 10, 12, 37, 38, 39, 53] mixed rfl rfl (by kernel_rfl) ?_ -- region 14
              refine RunR.fieldAddr fo37_1 rfl rfl rfl rfl rfl ?_
              refine RunR.load1 tk3 rfl rfl rfl rfl ?_
              refine RunR.move rfl rfl rfl ?_
              refine RunR.int rfl rfl rfl rfl rfl ?_
              refine RunR.move rfl rfl rfl ?_
              refine RunR.move rfl rfl rfl ?_
              refine RunR.fieldAddr fo37_0 rfl rfl rfl rfl rfl ?_
              refine RunR.load1 tk3 rfl rfl rfl rfl ?_
              refine RunR.indexAG se45 rfl rfl rfl rfl rfl (ifPos hx9 gT) (ifAt hx9 gT) rfl ?_
              refine RunR.load1G tk4 rfl rfl rfl (ifAt hx9 gT) rfl ?_
              refine RunR.pickAnd rfl rfl rfl rfl ?_
              refine RunR.doneQ (.cons rfl (.cons rfl (.cons rfl (.cons rfl (.cons rfl (.cons rfl (.cons rfl (.cons rfl (.cons rfl (.cons rfl (.cons rfl .nil))))))))))) ?_
              refine Wp.condM h rfl (fun hc7 h => ?_) (fun hc7 h => ?_)
              · refine Wp.text [0, 1, 7, 8, 9, 10, 37, 38, 39] rfl rfl ?_ -- region 15
                refine TextR.move rfl ?_
                refine TextR.fieldAddr fo37_0 rfl rfl rfl ?_
                refine TextR.load1 tk3 rfl rfl ?_
                refine TextR.minmax (.inl rfl) rfl ?_
                refine TextR.assign rfl ?_
                refine TextR.done (.cons rfl (.cons rfl (.cons rfl (.cons rfl (.cons rfl (.cons rfl (.cons rfl (.cons rfl (.cons rfl .nil))))))))) ?_
                refine Wp.text [0, 1, 7, 8, 9, 10, 37, 38, 39] rfl rfl ?_ -- region 16
                refine TextR.int rfl rfl rfl ?_
                refine TextR.move rfl ?_
                refine TextR.done (.cons rfl (.cons rfl (.cons rfl (.cons rfl (.cons rfl (.cons rfl (.cons rfl (.cons rfl (.cons rfl .nil))))))))) ?_
                exact ⟨m2, Nat.lt_succ_self _, _, (St.Weak.trans (keepW (live := [0, 1, 7, 8, 9, 10, 37, 38, 39]) (.cons rfl (.cons rfl (.cons rfl (.cons rfl (.cons rfl (.cons rfl (.cons rfl (.cons rfl (.cons rfl .nil)))))))))) (pickT (e' := [(0, .c (I a0)), (1, .c (.slv (a1.map eArc))), (7, .c (.slv (y2.2.map eB))), (8, .c (I s8_1)), (9, .c (.sl 0 (wh0_1 + 1) 0 x6.length)), (10, .c (I (min s10_2 x8.From))), (37, .c (.slv (a1.map eArc))), (38, .c (I (a1.length : Int))), (39, .c (I (w64 (s39_2 + 1))))]) (H' := [.live (wh0_1 + 1) 1 (x6.map eI)]) [0] [0, 0] 0 hok.len.symm rfl rfl (by decide) (by first | rfl | simp [-List.map_set]) (by first | rfl | simp [-List.map_set]) (by first | rfl | simp [-List.map_set]) (by first | rfl | simp [-List.map_set]))), _, _, h, rfl⟩
              · refine Wp.skip ?_
                refine Wp.text [0, 1, 7, 8, 9, 10, 37, 38, 39] rfl rfl ?_ -- region 16
                refine TextR.int rfl rfl rfl ?_
                refine TextR.move rfl ?_
                refine TextR.done (.cons rfl (.cons rfl (.cons rfl (.cons rfl (.cons rfl (.cons rfl (.cons rfl (.cons rfl (.cons rfl .nil))))))))) ?_
                exact ⟨m2, Nat.lt_succ_self _, _, (St.Weak.trans (keepW (live := [0, 1, 7, 8, 9, 10, 37, 38, 39]) (.cons rfl (.cons rfl (.cons rfl (.cons rfl (.cons rfl (.cons rfl (.cons rfl (.cons rfl (.cons rfl .nil)))))))))) (pickT (e' := [(0, .c (I a0)), (1, .c (.slv (a1.map eArc))), (7, .c (.slv (y2.2.map eB))), (8, .c (I s8_1)), (9, .c (.sl 0 (wh0_1 + 1) 0 x6.length)), (10, .c (I s10_2)), (37, .c (.slv (a1.map eArc))), (38, .c (I (a1.length : Int))), (39, .c (I (w64 (s39_2 + 1))))]) (H' := [.live (wh0_1 + 1) 1 (x6.map eI)]) [0] [0, 0] 0 hok.len.symm rfl rfl (by decide) (by first | rfl | simp [-List.map_set]) (by first | rfl | simp [-List.map_set]) (by first | rfl | simp [-List.map_set]) (by first | rfl | simp [-List.map_set]))), _, _, h, rfl⟩
            · refine Wp.exit ?_
              obtain rfl := Option.some.inj h
              exact ⟨_, (keepW (live := [0, 1, 7, 9, 10]) (.cons rfl (.cons rfl (.cons rfl (.cons rfl (.cons rfl .nil)))))), rfl⟩
          rintro _ ⟨S', hw, rfl⟩
          clear hz7
          refine Wp.weak hw ?_
          refine Wp.text [0, 1, 7, 8, 9] rfl rfl ?_ -- region 17
          refine TextR.move rfl ?_
          refine TextR.assign rfl ?_
          refine TextR.done (.cons rfl (.cons rfl (.cons rfl (.cons rfl (.cons rfl .nil))))) ?_
          exact ⟨m1, Nat.lt_succ_self _, _, (keepW (live := [0, 1, 7, 8, 9]) (.cons rfl (.cons rfl (.cons rfl (.cons rfl (.cons rfl .nil)))))), _, _, _, h, rfl⟩
        · refine Wp.exit ?_
          obtain rfl := Option.some.inj h
          exact ⟨_, _, (keepW (live := [8, 9]) (.cons rfl (.cons rfl .nil))), rfl⟩
      rintro _ ⟨wz4_0, S', hw, rfl⟩
      clear hz4
      refine Wp.weak hw ?_
      refine Wp.seq ?_
      obtain ⟨y10, hy10, h⟩ := bind_some h
      obtain ⟨x11, hx11, h⟩ := bind_some h
      refine Wp.text [9] rfl rfl ?_ -- region 18
      refine TextR.move rfl ?_
      refine TextR.move rfl ?_
      refine TextR.move rfl ?_
      refine TextR.dcall rfl rfl (DCall.borrow (fs := [.c (.slv (z4.1.map eI)), .c (I z4.2)]) (by simp [-List.map_set, obj, List.take_of_length_le]) (by first | rfl | simp [-List.map_set]) rfl (w_slices_Index_int N z4.1 z4.2 y10 hy10)) ?_
      refine TextR.sliceOM se25 rfl rfl rfl (obj_of rfl) rfl rfl hx11 ?_
      refine TextR.assign rfl ?_
      refine TextR.done (.cons rfl .nil) ?_
      refine Wp.seq ?_
      refine Wp.weak (narrowE (t := 9) (rows' := x11.map eI) rfl (obj_of rfl) (by have q := sub_le hx11; simp at q ⊢; omega) (sub_rows hx11) .zero) ?_
      obtain ⟨x12, hx12, h⟩ := bind_some h
      refine Wp.text [9] rfl rfl ?_ -- region 19
      refine TextR.move rfl ?_
      refine TextR.call rfl rfl (by exact call_rev lays112 rfl en40 hx12 rfl .zero) (fun x H' hk => ?_)
      obtain ⟨rfl, rfl⟩ := hk
      refine TextR.done (.cons rfl .nil) ?_
      refine Wp.weak (eqW (S' := ⟨[(9, .c (.sl 0 (wz4_0 + 1) 0 x12.length))], [.live (wz4_0 + 1) 1 (x12.map eI)]⟩) (by have e0 := (length_rev hx12).symm; first | rfl | (simp only [List.length_set]; done) | (simp only [List.length_set]; rfl) | (simp only [List.length_set, e0]; done) | (simp only [List.length_set, e0]; rfl))) ?_
      refine Wp.seq ?_
      obtain ⟨y13, hy13, h⟩ := bind_some h
      obtain ⟨y14, hy14, h⟩ := bind_some h
      refine Wp.text [9, 13] rfl rfl ?_ -- region 20
      refine TextR.move rfl ?_
      refine TextR.move rfl ?_
      refine TextR.dcall rfl rfl (DCall.borrow (fs := [.c (.slv (x12.map eI))]) (by simp [-List.map_set, obj, List.take_of_length_le]) (by first | rfl | simp [-List.map_set]) rfl (w_slices_Min_int N x12 y13 hy13)) ?_
      refine TextR.dcall rfl rfl (DCall.borrow (fs := [.c (.slv (x12.map eI)), .c (I y13)]) (by simp [-List.map_set, obj, List.take_of_length_le]) (by first | rfl | simp [-List.map_set]) rfl (w_slices_Index_int N x12 y13 y14 hy14)) ?_
      refine TextR.assign rfl ?_
      refine TextR.done (.cons rfl (.cons rfl .nil)) ?_
      refine Wp.seq ?_
      refine Wp.weak (freezeW (h := 0) (ver := (wz4_0 + 1)) (rows := x12.map eI) (e' := [(9, .c (.slv (x12.map eI))), (13, .c (I y14))]) (H' := [.dead]) (obj_of rfl) (by first | rfl | simp [-List.map_set]) (by first | rfl | simp [-List.map_set])) ?_
      obtain ⟨x15, hx15, h⟩ := bind_some h
      obtain ⟨x16, hx16, h⟩ := bind_some h
      obtain ⟨y17, hy17, h⟩ := bind_some h
      refine Wp.go true (some ⟨[1], []⟩) [] [] [4, 5] mixed rfl rfl (by kernel_rfl) ?_ -- region 21
      refine RunR.move rfl rfl rfl ?_
      refine RunR.move rfl rfl rfl ?_
      refine RunR.sliceM se25 rfl rfl rfl rfl rfl rfl rfl hx15 (fun _ => rfl) ?_
      refine RunR.move rfl rfl rfl ?_
      refine RunR.move rfl rfl rfl ?_
      refine RunR.sliceM se25 rfl rfl rfl rfl rfl rfl rfl hx16 (fun _ => rfl) ?_
      refine RunR.buildSlice (rows := [x15, x16].map eL_I) 1 se60 rfl rfl rfl rfl rfl (.cons .nil) ?_
      refine RunR.callH rfl rfl rfl rfl (fun hb => (DCall.borrowO (fs := [.c (.slv ([x15, x16].map eL_I))]) (rows := y17.map eI) (by simp [-List.map_set, obj, List.take_of_length_le]) (by first | rfl | simp [-List.map_set]) (flR_map (fun _ => by simp [eI]) _) (by simp) (b_slices_Concat_int N [x15, x16] y17 hy17))) ?_
      refine RunR.assign rfl rfl rfl ?_
      refine RunR.assign rfl rfl rfl ?_
      refine RunR.doneQ (.cons rfl (.cons rfl .nil)) ?_
      refine Wp.ret ?_
      obtain rfl := Option.some.inj h
      exact Ret.two rfl (resV_tmp rfl) (resV_tmp rfl) rfl
theorem c_dag_Cycle (N : Nat) (a0 : Int) (a1 : List TArc) (r : (List Int) × Bool) (h : dag_Cycle N a0 a1 = some r) (H : List Ob) : DCall Try.prog 20 [.c (I a0), .c (.slv (a1.map eArc))] H (.tup [.c (.slv (r.1.map eI)), .c (B r.2)]) := DCall.lift (by first | rfl | simp [-List.map_set]) (by first | rfl | simp [-List.map_set]) (fun _ => by simp [-List.map_set]) (w_dag_Cycle N a0 a1 r h) H
-- narthex/narthexref01.Same
theorem w_narthexref01_Same (N : Nat) (a0 : List Int) (a1 : List Int) (r : Bool) (h : narthexref01_Same N a0 a1 = some r) : Nx.Call Try.prog 17 [.c (.slv (a0.map eI)), .c (.slv (a1.map eI))] [] fun r' _ => r' = .c (B r) := by
  refine Nx.Call.of_body Try.func17 rfl en17 Try.ntmps17 rfl (fun Γ hok => ?_)
  unfold narthexref01_Same at h
  refine Wp.seq ?_
  refine Wp.text [0, 1] rfl rfl ?_ -- region 0
  refine TextR.assign rfl ?_
  refine TextR.done (.cons rfl (.cons rfl .nil)) ?_
  refine Wp.seq ?_
  refine Wp.seq ?_
  refine Wp.text [0, 1, 10] rfl rfl ?_ -- region 1
  refine TextR.move rfl ?_
  refine TextR.lenM us25 rfl rfl ?_
  refine TextR.move rfl ?_
  refine TextR.lenM us25 rfl rfl ?_
  refine TextR.int rfl rfl rfl ?_
  refine TextR.done (.cons rfl (.cons rfl (.cons rfl .nil))) ?_
  refine Wp.condM h rfl (fun hc1 h => ?_) (fun hc1 h => ?_)
  · refine Wp.seq ?_
    refine Wp.text [4] rfl rfl ?_ -- region 2
    refine TextR.assign rfl ?_
    refine TextR.done (.cons rfl .nil) ?_
    refine Wp.ret ?_
    obtain rfl := Option.some.inj h
    exact Ret.one rfl (resV_tmp rfl) rfl
  · refine Wp.skip ?_
    refine Wp.seq ?_
    refine Wp.seq ?_
    refine Wp.text [0, 1, 5] rfl rfl ?_ -- region 3
    refine TextR.assign rfl ?_
    refine TextR.done (.cons rfl (.cons rfl (.cons rfl .nil))) ?_
    obtain ⟨z1, hz1, h⟩ := bind_some h
    refine Wp.fragR (fun S => ∃ z3, z1 = .inr z3 ∧ ∃ S', St.Weak ⟨Try.prog, 26, Γ⟩ S S' ∧ S' = ⟨[], []⟩) (fun S => ∃ v, z1 = .inl v ∧ Ret Try.prog Try.f17 (fun r' _ => r' = .c (B v)) .ret S) ?_ ?_ ?_
    · replace h := hz1
      refine Wp.block ?_
      refine Wp.weak (keepW (live := [0, 1, 5]) (.cons rfl (.cons rfl (.cons rfl .nil)))) ?_
      refine Wp.loop (fun m S => ∃ s5_1, narthexref01_Same_L1 N a0 a1 m s5_1 = some z1 ∧ S = ⟨[(0, .c (.slv (a0.map eI))), (1, .c (.slv (a1.map eI))), (5, .c (I s5_1))], []⟩) N ⟨_, h, rfl⟩ ?_
      rintro m1 _ ⟨s5_1, h, rfl⟩
      cases m1 with
      | zero => rw [narthexref01_Same_L1.eq_1] at h; cases h
      | succ m1 =>
      rw [narthexref01_Same_L1.eq_2] at h
      refine Wp.seq ?_
      refine Wp.seq ?_
      refine Wp.text [0, 1, 5, 14] rfl rfl ?_ -- region 4
      refine TextR.move rfl ?_
      refine TextR.move rfl ?_
      refine TextR.lenM us25 rfl rfl ?_
      refine TextR.int rfl rfl rfl ?_
      refine TextR.done (.cons rfl (.cons rfl (.cons rfl (.cons rfl .nil)))) ?_
      refine Wp.condM h rfl (fun hc3 h => ?_) (fun hc3 h => ?_)
      · refine Wp.skip ?_
        refine Wp.seq ?_
        refine Wp.block ?_
        refine Wp.seq ?_
        obtain ⟨x4, hx4, h⟩ := bind_some h
        obtain ⟨x5, hx5, h⟩ := bind_some h
        refine Wp.go true (some ⟨[], []⟩) [] [] [0, 1, 5, 25] mixed rfl rfl (by kernel_rfl) ?_ -- region 6
        refine RunR.move rfl rfl rfl ?_
        refine RunR.move rfl rfl rfl ?_
        refine RunR.indexA se25 rfl rfl rfl rfl rfl hx4 rfl ?_
        refine RunR.load1M tk3 rfl rfl rfl (at_get hx4) rfl ?_
        refine RunR.move rfl rfl rfl ?_
        refine RunR.move rfl rfl rfl ?_
        refine RunR.indexA se25 rfl rfl rfl rfl rfl hx5 rfl ?_
        refine RunR.load1M tk3 rfl rfl rfl (at_get hx5) rfl ?_
        refine RunR.int rfl rfl rfl rfl rfl ?_
        refine RunR.doneQ (.cons rfl (.cons rfl (.cons rfl (.cons rfl .nil)))) ?_
        refine Wp.condM h rfl (fun hc4 h => ?_) (fun hc4 h => ?_)
        · refine Wp.seq ?_
          refine Wp.text [4] rfl rfl ?_ -- region 7
          refine TextR.assign rfl ?_
          refine TextR.done (.cons rfl .nil) ?_
          refine Wp.ret ?_
          exact ⟨_, (Option.some.inj h).symm, Ret.one rfl (resV_tmp rfl) rfl⟩
        · refine Wp.skip ?_
          refine Wp.text [0, 1, 5] rfl rfl ?_ -- region 5
          refine TextR.move rfl ?_
          refine TextR.int rfl rfl rfl ?_
          refine TextR.assign rfl ?_
          refine TextR.done (.cons rfl (.cons rfl (.cons rfl .nil))) ?_
          exact ⟨m1, Nat.lt_succ_self _, _, (keepW (live := [0, 1, 5]) (.cons rfl (.cons rfl (.cons rfl .nil)))), _, h, rfl⟩
      · refine Wp.exit ?_
        exact ⟨_, (Option.some.inj h).symm, _, (keepW (live := []) .nil), rfl⟩
    · rintro _ ⟨z3, rfl, _, hw, rfl⟩
      dsimp only at h
      clear hz1
      refine Wp.weak hw ?_
      refine Wp.seq ?_
      refine Wp.text [4] rfl rfl ?_ -- region 8
      refine TextR.assign rfl ?_
      refine TextR.done (.cons rfl .nil) ?_
      refine Wp.ret ?_
      obtain rfl := Option.some.inj h
      exact Ret.one rfl (resV_tmp rfl) rfl
    · rintro S' ⟨r2, rfl, hR⟩
      dsimp only at h
      obtain rfl := Option.some.inj h
      exact hR
theorem c_narthexref01_Same (N : Nat) (a0 : List Int) (a1 : List Int) (r : Bool) (h : narthexref01_Same N a0 a1 = some r) (H : List Ob) : DCall Try.prog 17 [.c (.slv (a0.map eI)), .c (.slv (a1.map eI))] H (.c (B r)) := DCall.lift (by first | rfl | simp [-List.map_set]) (by first | rfl | simp [-List.map_set]) (fun _ => by simp [-List.map_set]) (w_narthexref01_Same N a0 a1 r h) H
-- narthex/dag.Sinks
theorem w_dag_Sinks (N : Nat) (a0 : Int) (a1 : List TArc) (r : (List Int)) (h : dag_Sinks N a0 a1 = some r) : Nx.Call Try.prog 25 [.c (I a0), .c (.slv (a1.map eArc))] [] fun r' _ => r' = .c (.slv (r.map eI)) := by
  refine Nx.Call.of_body Try.func25 rfl en25 Try.ntmps25 rfl (fun Γ hok => ?_)
  unfold dag_Sinks at h
  refine Wp.seq ?_
  refine Wp.text [0, 1] rfl rfl ?_ -- region 0
  refine TextR.assign rfl ?_
  refine TextR.done (.cons rfl (.cons rfl .nil)) ?_
  refine Wp.scope ?_
  refine Wp.seq ?_
  refine Wp.text [0, 1, 5] rfl rfl ?_ -- region 1
  refine TextR.assign rfl ?_
  refine TextR.done (.cons rfl (.cons rfl (.cons rfl .nil))) ?_
  refine Wp.seq ?_
  refine Wp.seq ?_
  obtain ⟨y1, hy1, h⟩ := bind_some h
  refine Wp.text [0, 1, 5, 12] rfl rfl ?_ -- region 2
  refine TextR.move rfl ?_
  refine TextR.move rfl ?_
  refine TextR.dcall rfl rfl (c_dag_Check N a0 a1 y1 hy1 _) ?_
  refine TextR.int rfl rfl rfl ?_
  refine TextR.done (.cons rfl (.cons rfl (.cons rfl (.cons rfl .nil)))) ?_
  refine Wp.condM h rfl (fun hc1 h => ?_) (fun hc1 h => ?_)
  · refine Wp.seq ?_
    refine Wp.text [4] rfl rfl ?_ -- region 3
    refine TextR.assign rfl ?_
    refine TextR.done (.cons rfl .nil) ?_
    refine Wp.weak (keepW (live := [4] ) (.cons rfl .nil)) ?_
    refine Wp.weak (nzT (e' := [(4, .c (.slv ([].map eI)))]) (H' := []) (by first | rfl | simp [-List.map_set]) (by first | rfl | simp [-List.map_set])) ?_
    refine Wp.ret ?_
    obtain rfl := Option.some.inj h
    exact Ret.one rfl (resV_tmp rfl) rfl
  · refine Wp.skip ?_
    refine Wp.seq ?_
    refine Wp.label ?_
    refine Wp.seq ?_
    refine Wp.seq ?_
    refine Wp.text [1, 5, 13, 14] rfl rfl ?_ -- region 4
    refine TextR.move rfl ?_
    refine TextR.move rfl ?_
    refine TextR.done (.cons rfl (.cons rfl (.cons rfl (.cons rfl .nil)))) ?_
    obtain ⟨z2, hz2, h⟩ := bind_some h
    refine Wp.fragN (fun S => ∃ wz2_0, ∃ S', St.Weak ⟨Try.prog, 34, Γ⟩ S S' ∧ S' = ⟨[(5, .c (.sl 0 wz2_0 0 z2.length))], [.live wz2_0 1 (z2.map eI)]⟩) ?_ ?_
    · replace h := hz2
      refine Wp.block ?_
      refine Wp.weak (St.Weak.trans (keepW (live := [1, 5, 13, 14]) (.cons rfl (.cons rfl (.cons rfl (.cons rfl .nil))))) (St.Weak.trans (nilW (e := [(1, .c (.slv (a1.map eArc))), (5, .c (nilS)), (13, .c (I a0)), (14, .c (I 0))]) (H := []) (t := 5) 0 1 0 rfl rfl .nil) (keepW (live := [1, 5, 13, 14]) (.cons rfl (.cons rfl (.cons rfl (.cons rfl .nil))))))) ?_
      refine Wp.loop (fun m S => ∃ l0_1, ∃ s14_1, ∃ wh0_1, dag_Sinks_L1 N a0 a1 m l0_1 s14_1 = some z2 ∧ S = ⟨[(1, .c (.slv (a1.map eArc))), (5, .c (.sl 0 wh0_1 0 l0_1.length)), (13, .c (I a0)), (14, .c (I s14_1))], [.live wh0_1 1 (l0_1.map eI)]⟩) N ⟨_, _, _, h, rfl⟩ ?_
      rintro m1 _ ⟨l0_1, s14_1, wh0_1, h, rfl⟩
      cases m1 with
      | zero => rw [dag_Sinks_L1.eq_1] at h; cases h
      | succ m1 =>
      rw [dag_Sinks_L1.eq_2] at h
      refine Wp.seq ?_
      refine Wp.text [1, 5, 13, 14, 15] rfl rfl ?_ -- region 5
      refine TextR.int rfl rfl rfl ?_
      refine TextR.done (.cons rfl (.cons rfl (.cons rfl (.cons rfl (.cons rfl .nil))))) ?_
      refine Wp.seq ?_
      refine Wp.condM h rfl (fun hc3 h => ?_) (fun hc3 h => ?_)
      · refine Wp.skip ?_
        refine Wp.seq ?_
        refine Wp.block ?_
        refine Wp.seq ?_
        refine Wp.text [1, 5, 6, 13, 14] rfl rfl ?_ -- region 6
        refine TextR.move rfl ?_
        refine TextR.assign rfl ?_
        refine TextR.done (.cons rfl (.cons rfl (.cons rfl (.cons rfl (.cons rfl .nil))))) ?_
        refine Wp.seq ?_
        refine Wp.seq ?_
        refine Wp.text [1, 5, 6, 13, 14, 17, 18, 19] rfl rfl ?_ -- region 7
        refine TextR.move rfl ?_
        refine TextR.lenM us22 rfl rfl ?_
        refine TextR.move rfl ?_
        refine TextR.done (.cons rfl (.cons rfl (.cons rfl (.cons rfl (.cons rfl (.cons rfl (.cons rfl (.cons rfl .nil)))))))) ?_
        obtain ⟨z3, hz3, h⟩ := bind_some h
        refine Wp.fragG (fun S => ∃ z5, z3 = .inr z5 ∧ ∃ S', St.Weak ⟨Try.prog, 34, Γ⟩ S S' ∧ S' = ⟨[(1, .c (.slv (a1.map eArc))), (5, .c (.sl 0 wh0_1 0 l0_1.length)), (6, .c (I s14_1)), (13, .c (I a0)), (14, .c (I s14_1))], [.live wh0_1 1 (l0_1.map eI)]⟩) (fun _ => False) (fun k S => (k = 1 ∧ ∃ z4, z3 = .inl z4 ∧ ∃ S', St.Weak ⟨Try.prog, 34, Γ⟩ S S' ∧ S' = ⟨[(1, .c (.slv (a1.map eArc))), (5, .c (.sl 0 wh0_1 0 l0_1.length)), (13, .c (I a0)), (14, .c (I s14_1))], [.live wh0_1 1 (l0_1.map eI)]⟩)) (fun _ _ => False) ?_ ?_ ?_ ?_ ?_
        · replace h := hz3
          refine Wp.block ?_
          refine Wp.weak (keepW (live := [1, 5, 6, 13, 14, 17, 18, 19]) (.cons rfl (.cons rfl (.cons rfl (.cons rfl (.cons rfl (.cons rfl (.cons rfl (.cons rfl .nil))))))))) ?_
          refine Wp.loop (fun m S => ∃ s19_2, dag_Sinks_L2 N a1 s14_1 m s19_2 = some z3 ∧ S = ⟨[(1, .c (.slv (a1.map eArc))), (5, .c (.sl 0 wh0_1 0 l0_1.length)), (6, .c (I s14_1)), (13, .c (I a0)), (14, .c (I s14_1)), (17, .c (.slv (a1.map eArc))), (18, .c (I (a1.length : Int))), (19, .c (I s19_2))], [.live wh0_1 1 (l0_1.map eI)]⟩) N ⟨_, h, rfl⟩ ?_
          rintro m2 _ ⟨s19_2, h, rfl⟩
          cases m2 with
          | zero => rw [dag_Sinks_L2.eq_1] at h; cases h
          | succ m2 =>
          rw [dag_Sinks_L2.eq_2] at h
          refine Wp.seq ?_
          refine Wp.text [1, 5, 6, 13, 14, 17, 18, 19, 20] rfl rfl ?_ -- region 8
          refine TextR.int rfl rfl rfl ?_
          refine TextR.done (.cons rfl (.cons rfl (.cons rfl (.cons rfl (.cons rfl (.cons rfl (.cons rfl (.cons rfl (.cons rfl .nil))))))))) ?_
          refine Wp.seq ?_
          refine Wp.condM h rfl (fun hc5 h => ?_) (fun hc5 h => ?_)
          · refine Wp.skip ?_
            refine Wp.seq ?_
            refine Wp.block ?_
            refine Wp.seq ?_
            obtain ⟨x6, hx6, h⟩ := bind_some h
            refine Wp.text [1, 5, 6, 8, 13, 14, 17, 18, 19] rfl rfl ?_ -- region 9
            refine TextR.indexA se22 rfl rfl rfl hx6 rfl ?_
            refine TextR.loadNM tk37 rfl (at_get hx6) rfl ?_
            refine TextR.alloc 1 zc37 rfl rfl (.cons .nil) ?_
            refine TextR.store1 tk37 rfl rfl rfl rfl rfl rfl (.succ .zero) ?_
            refine TextR.done (.cons rfl (.cons rfl (.cons rfl (.cons rfl (.cons rfl (.cons rfl (.cons rfl (.cons rfl (.cons rfl .nil))))))))) ?_
            refine Wp.seq ?_
            refine Wp.text [1, 5, 6, 13, 14, 17, 18, 19, 26] rfl rfl ?_ -- region 10
            refine TextR.fieldAddr fo37_0 rfl rfl rfl ?_
            refine TextR.load1 tk3 rfl rfl ?_
            refine TextR.move rfl ?_
            refine TextR.int rfl rfl rfl ?_
            refine TextR.done (.cons rfl (.cons rfl (.cons rfl (.cons rfl (.cons rfl (.cons rfl (.cons rfl (.cons rfl (.cons rfl .nil))))))))) ?_
            refine Wp.condM h rfl (fun hc6 h => ?_) (fun hc6 h => ?_)
            · refine Wp.exit ?_
              exact ⟨rfl, _, (Option.some.inj h).symm, _, (St.Weak.trans (keepW (live := [1, 5, 13, 14]) (.cons rfl (.cons rfl (.cons rfl (.cons rfl .nil))))) (pickT (e' := [(1, .c (.slv (a1.map eArc))), (5, .c (.sl 0 wh0_1 0 l0_1.length)), (13, .c (I a0)), (14, .c (I s14_1))]) (H' := [.live wh0_1 1 (l0_1.map eI)]) [0] [0, 0] 0 hok.len.symm rfl rfl (by decide) (by first | rfl | simp [-List.map_set]) (by first | rfl | simp [-List.map_set]) (by first | rfl | simp [-List.map_set]) (by first | rfl | simp [-List.map_set]))), rfl⟩
            · refine Wp.skip ?_
              refine Wp.text [1, 5, 6, 13, 14, 17, 18, 19] rfl rfl ?_ -- region 11
              refine TextR.int rfl rfl rfl ?_
              refine TextR.move rfl ?_
              refine TextR.done (.cons rfl (.cons rfl (.cons rfl (.cons rfl (.cons rfl (.cons rfl (.cons rfl (.cons rfl .nil)))))))) ?_
              exact ⟨m2, Nat.lt_succ_self _, _, (St.Weak.trans (keepW (live := [1, 5, 6, 13, 14, 17, 18, 19]) (.cons rfl (.cons rfl (.cons rfl (.cons rfl (.cons rfl (.cons rfl (.cons rfl (.cons rfl .nil))))))))) (pickT (e' := [(1, .c (.slv (a1.map eArc))), (5, .c (.sl 0 wh0_1 0 l0_1.length)), (6, .c (I s14_1)), (13, .c (I a0)), (14, .c (I s14_1)), (17, .c (.slv (a1.map eArc))), (18, .c (I (a1.length : Int))), (19, .c (I (w64 (s19_2 + 1))))]) (H' := [.live wh0_1 1 (l0_1.map eI)]) [0] [0, 0] 0 hok.len.symm rfl rfl (by decide) (by first | rfl | simp [-List.map_set]) (by first | rfl | simp [-List.map_set]) (by first | rfl | simp [-List.map_set]) (by first | rfl | simp [-List.map_set]))), _, h, rfl⟩
          · refine Wp.exit ?_
            exact ⟨_, (Option.some.inj h).symm, _, (keepW (live := [1, 5, 6, 13, 14]) (.cons rfl (.cons rfl (.cons rfl (.cons rfl (.cons rfl .nil)))))), rfl⟩
        · rintro _ ⟨z5, rfl, _, hw, rfl⟩
          dsimp only at h
          clear hz3
          refine Wp.weak hw ?_
          obtain ⟨x7, hx7, h⟩ := bind_some h
          refine Wp.text [1, 5, 13, 14] rfl rfl ?_ -- region 12
          refine TextR.move rfl ?_
          refine TextR.move rfl ?_
          refine TextR.buildSlice (rows := [s14_1].map eI) 1 se25 rfl rfl rfl (.cons .nil) ?_
          refine TextR.appendM eI l0_1 [s14_1] x7 (app_eq hx7) se25 rfl (obj_of rfl) rfl (view_whole (f := eI) (xs := [s14_1]) rfl) (fun _ => rfl) rfl (app_len hx7) .zero ?_
          refine TextR.assign rfl ?_
          refine TextR.done (.cons rfl (.cons rfl (.cons rfl (.cons rfl .nil)))) ?_
          refine Wp.text [1, 5, 13, 14] rfl rfl ?_ -- region 13
          refine TextR.int rfl rfl rfl ?_
          refine TextR.move rfl ?_
          refine TextR.done (.cons rfl (.cons rfl (.cons rfl (.cons rfl .nil)))) ?_
          exact ⟨m1, Nat.lt_succ_self _, _, (St.Weak.trans (keepW (live := [1, 5, 13, 14]) (.cons rfl (.cons rfl (.cons rfl (.cons rfl .nil))))) (pickT (e' := [(1, .c (.slv (a1.map eArc))), (5, .c (.sl 0 (wh0_1 + 1) 0 x7.length)), (13, .c (I a0)), (14, .c (I (w64 (s14_1 + 1))))]) (H' := [.live (wh0_1 + 1) 1 (x7.map eI)]) [0] [0, 0] 0 hok.len.symm rfl rfl (by decide) (by first | rfl | simp [-List.map_set]) (by first | rfl | simp [-List.map_set]) (by first | rfl | simp [-List.map_set]) (by first | rfl | simp [-List.map_set]))), _, _, _, h, rfl⟩
        · exact fun _ h => h.elim
        · rintro k _ (⟨rfl, z4, rfl, _, hw, rfl⟩)
          dsimp only at h
          clear hz3
          refine Wp.weak hw ?_
          refine Wp.text [1, 5, 13, 14] rfl rfl ?_ -- region 13
          refine TextR.int rfl rfl rfl ?_
          refine TextR.move rfl ?_
          refine TextR.done (.cons rfl (.cons rfl (.cons rfl (.cons rfl .nil)))) ?_
          exact ⟨m1, Nat.lt_succ_self _, _, (keepW (live := [1, 5, 13, 14]) (.cons rfl (.cons rfl (.cons rfl (.cons rfl .nil))))), _, _, _, h, rfl⟩
        · exact fun _ _ h => h.elim
      · refine Wp.exit ?_
        obtain rfl := Option.some.inj h
        exact ⟨_, _, (keepW (live := [5]) (.cons rfl .nil)), rfl⟩
    rintro _ ⟨wz2_0, S', hw, rfl⟩
    clear hz2
    refine Wp.weak hw ?_
    refine Wp.seq ?_
    refine Wp.text [4] rfl rfl ?_ -- region 14
    refine TextR.move rfl ?_
    refine TextR.assign rfl ?_
    refine TextR.done (.cons rfl .nil) ?_
    refine Wp.weak (keepW (live := [4] ) (.cons rfl .nil)) ?_
    refine Wp.weak (freezeW (h := 0) (ver := wz2_0) (rows := z2.map eI) (e' := [(4, .c (.slv (z2.map eI)))]) (H' := [.dead]) (obj_of rfl) (by first | rfl | simp [-List.map_set]) (by first | rfl | simp [-List.map_set])) ?_
    refine Wp.ret ?_
    obtain rfl := Option.some.inj h
    exact Ret.one rfl (resV_tmp rfl) rfl
theorem c_dag_Sinks (N : Nat) (a0 : Int) (a1 : List TArc) (r : (List Int)) (h : dag_Sinks N a0 a1 = some r) (H : List Ob) : DCall Try.prog 25 [.c (I a0), .c (.slv (a1.map eArc))] H (.c (.slv (r.map eI))) := DCall.lift (by first | rfl | simp [-List.map_set]) (by first | rfl | simp [-List.map_set]) (fun _ => by simp [-List.map_set]) (w_dag_Sinks N a0 a1 r h) H
-- slices.Clone
theorem bn_slices_Clone_Arc : Nx.Call Try.prog 44 [.c nilS] [] fun r' H' => r' = .c (.sl 0 1 0 0) ∧ ∃ junk, H' = [.live 1 2 []] ++ junk := by
  refine Nx.Call.of_body Try.func44 rfl en44 Try.ntmps44 rfl (fun Γ hok => ?_)
  refine Wp.seq ?_
  refine Wp.text [0] rfl rfl ?_ -- region 0
  refine TextR.assign rfl ?_
  refine TextR.done (.cons rfl .nil) ?_
  refine Wp.seq ?_
  refine Wp.seq ?_
  refine Wp.text [0, 4] rfl rfl ?_ -- region 1
  refine TextR.move rfl ?_
  refine TextR.eqNil us22 rfl rfl ?_
  refine TextR.done (.cons rfl (.cons rfl .nil)) ?_
  refine Wp.cond rfl (fun hc => ?_) (fun hc => ?_)
  · refine Wp.seq ?_
    refine Wp.text [2] rfl rfl ?_ -- region 2
    refine TextR.assign rfl ?_
    refine TextR.done (.cons rfl .nil) ?_
    refine Wp.weak (fun a w hs => nilV_sat (t := 2) 1 2 0 rfl rfl .nil hs) ?_
    refine Wp.ret ?_
    refine Ret.one rfl (resV_tmp rfl) ?_
    exact ⟨rfl, [], rfl⟩
  · cases hc
theorem bq_slices_Clone_Arc (xs : List TArc) (hl : xs.length ≤ 10000000000) : Nx.Call Try.prog 44 [.c (.slq (xs.map eArc))] [] fun r' H' => r' = .c (.sl 0 1 0 xs.length) ∧ ∃ junk, H' = [.live 1 2 (xs.map eArc)] ++ junk := by
  refine Nx.Call.of_body Try.func44 rfl en44 Try.ntmps44 rfl (fun Γ hok => ?_)
  refine Wp.seq ?_
  refine Wp.text [0] rfl rfl ?_ -- region 0
  refine TextR.assign rfl ?_
  refine TextR.done (.cons rfl .nil) ?_
  refine Wp.seq ?_
  refine Wp.seq ?_
  refine Wp.text [0, 4] rfl rfl ?_ -- region 1
  refine TextR.move rfl ?_
  refine TextR.eqNil us22 rfl rfl ?_
  refine TextR.done (.cons rfl (.cons rfl .nil)) ?_
  refine Wp.cond rfl (fun hc => ?_) (fun hc => ?_)
  · cases hc
  · refine Wp.skip ?_
    refine Wp.seq ?_
    refine Wp.text [2] rfl rfl ?_ -- region 3
    refine TextR.buildSlice 0 se22 rfl rfl rfl .nil ?_
    refine TextR.move rfl ?_
    refine TextR.appendM eArc [] xs xs rfl se22 rfl rfl rfl rfl (fun _ => rfl) rfl (by simp; omega) .zero ?_
    refine TextR.assign rfl ?_
    refine TextR.done (.cons rfl .nil) ?_
    refine Wp.ret ?_
    refine Ret.one rfl (resV_tmp rfl) ?_
    exact ⟨rfl, [], rfl⟩
theorem b_slices_Clone_Arc (xs : List TArc) (hl : xs.length ≤ 10000000000) : Nx.Call Try.prog 44 [.c (.slv (xs.map eArc))] [] fun r' H' => r' = .c (.sl 0 1 0 xs.length) ∧ ∃ junk, H' = [.live 1 2 (xs.map eArc)] ++ junk :=
  .cases en44 fun Γ args' hok hc => by
    simp only [concVs] at hc
    obtain ⟨y, ys', h1, h2, h3⟩ := hc
    rcases conc_slv_nil h2 with ⟨h4, h5⟩ | h5
    · have h6 : xs = [] := by simpa using h4
      subst h6
      exact ⟨[.c nilS], bn_slices_Clone_Arc, by simp only [concVs]; exact ⟨y, ys', h1, h5, h3⟩⟩
    · exact ⟨[.c (.slq (xs.map eArc))], bq_slices_Clone_Arc xs hl, by simp only [concVs]; exact ⟨y, ys', h1, h5, h3⟩⟩
theorem o_slices_Clone_Arc (N : Nat) (a0 r : List TArc) (h : slices_Clone_Arc N a0 = some r) {H H1 : List Ob} (k : Nat) (hh : H.length = k) (hs : Snoc (.live 1 2 (r.map eArc)) H H1) : Nx.Call Try.prog 44 [.c (.slv (a0.map eArc))] H fun r' H' => r' = .c (.sl k 1 0 r.length) ∧ H' = H1 := by
  have he := app_eq h
  have hl := app_len h
  simp only [List.nil_append] at he
  subst he
  have hc := Call.lift (objs := [.live 1 2 (a0.map eArc)]) (by simp [hfVs, hfV, hfL, hfRows_map h_Arc]) rfl (by have := okR_eArc (p := mvL 1) a0; simpa [mvO] using this) (b_slices_Clone_Arc a0 (by simpa using hl)) H
  refine Call.mono hc fun r' H' ⟨h1, h2⟩ => ⟨by subst hh; simpa [shV, shL] using h1, ?_⟩
  rw [h2, ← hs.eq]
  simp [shO, fx_eArc]
theorem w_slices_Clone_Arc (N : Nat) (a0 r : List TArc) (h : slices_Clone_Arc N a0 = some r) : Nx.Call Try.prog 44 [.c (.slv (a0.map eArc))] [] fun r' _ => r' = .c (.slv (r.map eArc)) := by
  have he := app_eq h
  have hl := app_len h
  simp only [List.nil_append] at he
  subst he
  exact Call.frz (b_slices_Clone_Arc a0 (by simpa using hl))
theorem c_slices_Clone_Arc (N : Nat) (a0 r : List TArc) (h : slices_Clone_Arc N a0 = some r) (H : List Ob) : DCall Try.prog 44 [.c (.slv (a0.map eArc))] H (.c (.slv (r.map eArc))) := DCall.lift (by simp [hfVs, hfV, hfL, hfRows_map h_Arc]) (by simp [mvV, mvL, hfL, hfRows_map h_Arc]) (fun _ => rfl) (w_slices_Clone_Arc N a0 r h) H

-- narthex/dag.Flip
theorem w_dag_Flip (N : Nat) (a0 : List TArc) (a1 : Int) (r : (List TArc)) (h : dag_Flip N a0 a1 = some r) : Nx.Call Try.prog 23 [.c (.slv (a0.map eArc)), .c (I a1)] [] fun r' _ => r' = .c (.slv (r.map eArc)) := by
  refine Nx.Call.of_body Try.func23 rfl en23 Try.ntmps23 rfl (fun Γ hok => ?_)
  unfold dag_Flip at h
  refine Wp.seq ?_
  refine Wp.text [0, 1] rfl rfl ?_ -- region 0
  refine TextR.assign rfl ?_
  refine TextR.done (.cons rfl (.cons rfl .nil)) ?_
  refine Wp.seq ?_
  obtain ⟨y1, hy1, h⟩ := bind_some h
  refine Wp.text [0, 1, 5] rfl rfl ?_ -- region 1
  refine TextR.move rfl ?_
  refine TextR.call rfl rfl (by exact o_slices_Clone_Arc N a0 y1 hy1 0 rfl .nil) (fun x H' hk => ?_)
  obtain ⟨rfl, rfl⟩ := hk
  refine TextR.assign rfl ?_
  refine TextR.done (.cons rfl (.cons rfl (.cons rfl .nil))) ?_
  refine Wp.seq ?_
  refine Wp.seq ?_
  refine Wp.text [1, 5, 10, 11, 12] rfl rfl ?_ -- region 2
  refine TextR.move rfl ?_
  refine TextR.lenM us22 rfl rfl ?_
  refine TextR.move rfl ?_
  refine TextR.done (.cons rfl (.cons rfl (.cons rfl (.cons rfl (.cons rfl .nil))))) ?_
  obtain ⟨z2, hz2, h⟩ := bind_some h
  refine Wp.fragN (fun S => ∃ S', St.Weak ⟨Try.prog, 30, Γ⟩ S S' ∧ S' = ⟨[(5, .c (.sl 0 1 0 z2.length))], [.live 1 2 (z2.map eArc)]⟩) ?_ ?_
  · replace h := hz2
    refine Wp.block ?_
    refine Wp.weak (keepW (live := [1, 5, 10, 11, 12]) (.cons rfl (.cons rfl (.cons rfl (.cons rfl (.cons rfl .nil)))))) ?_
    refine Wp.loop (fun m S => ∃ l0_1, ∃ s12_1, dag_Flip_L1 N a0 a1 m l0_1 s12_1 = some z2 ∧ S = ⟨[(1, .c (I a1)), (5, .c (.sl 0 1 0 l0_1.length)), (10, .c (.slv (a0.map eArc))), (11, .c (I (a0.length : Int))), (12, .c (I s12_1))], [.live 1 2 (l0_1.map eArc)]⟩) N ⟨_, _, h, rfl⟩ ?_
    rintro m1 _ ⟨l0_1, s12_1, h, rfl⟩
    cases m1 with
    | zero => rw [dag_Flip_L1.eq_1] at h; cases h
    | succ m1 =>
    rw [dag_Flip_L1.eq_2] at h
    refine Wp.seq ?_
    refine Wp.text [1, 5, 10, 11, 12, 13] rfl rfl ?_ -- region 3
    refine TextR.int rfl rfl rfl ?_
    refine TextR.done (.cons rfl (.cons rfl (.cons rfl (.cons rfl (.cons rfl (.cons rfl .nil)))))) ?_
    refine Wp.seq ?_
    refine Wp.condM h rfl (fun hc2 h => ?_) (fun hc2 h => ?_)
    · refine Wp.skip ?_
      refine Wp.seq ?_
      refine Wp.block ?_
      refine Wp.seq ?_
      obtain ⟨x3, hx3, h⟩ := bind_some h
      refine Wp.text [1, 5, 6, 7, 10, 11, 12] rfl rfl ?_ -- region 4
      refine TextR.move rfl ?_
      refine TextR.indexA se22 rfl rfl rfl hx3 rfl ?_
      refine TextR.loadNM tk37 rfl (at_get hx3) rfl ?_
      refine TextR.alloc 1 zc37 rfl rfl (.cons .nil) ?_
      refine TextR.assign rfl ?_
      refine TextR.store1 tk37 rfl rfl rfl rfl rfl rfl (.succ .zero) ?_
      refine TextR.done (.cons rfl (.cons rfl (.cons rfl (.cons rfl (.cons rfl (.cons rfl (.cons rfl .nil))))))) ?_
      refine Wp.seq ?_
      refine Wp.text [1, 5, 6, 7, 10, 11, 12, 20] rfl rfl ?_ -- region 5
      refine TextR.fieldAddr fo37_0 rfl rfl rfl ?_
      refine TextR.load1 tk3 rfl rfl ?_
      refine TextR.move rfl ?_
      refine TextR.int rfl rfl rfl ?_
      refine TextR.done (.cons rfl (.cons rfl (.cons rfl (.cons rfl (.cons rfl (.cons rfl (.cons rfl (.cons rfl .nil)))))))) ?_
      refine Wp.condM h rfl (fun hc3 h => ?_) (fun hc3 h => ?_)
      · obtain ⟨x4, hx4, h⟩ := bind_some h
        refine Wp.text [1, 5, 10, 11, 12] rfl rfl ?_ -- region 6
        refine TextR.move rfl ?_
        refine TextR.move rfl ?_
        refine TextR.fieldAddr fo37_1 rfl rfl rfl ?_
        refine TextR.load1 tk3 rfl rfl ?_
        refine TextR.move rfl ?_
        refine TextR.build cm37 rfl ?_
        refine TextR.indexOA se22 rfl rfl rfl hx4 ?_
        refine TextR.storeO (⟨x3.To, a1⟩ : TArc) tk37 rfl rfl rfl rfl rfl (at_get hx4) rfl rfl .zero ?_
        refine TextR.done (.cons rfl (.cons rfl (.cons rfl (.cons rfl (.cons rfl .nil))))) ?_
        refine Wp.weak (eqW (S' := ⟨[(1, .c (I a1)), (5, .c (.sl 0 1 0 (l0_1.set s12_1.toNat (⟨x3.To, a1⟩ : TArc)).length)), (10, .c (.slv (a0.map eArc))), (11, .c (I (a0.length : Int))), (12, .c (I s12_1))], [.live 1 2 ((l0_1.set s12_1.toNat (⟨x3.To, a1⟩ : TArc)).map eArc), .live 0 2 [[I x3.From, I x3.To]]]⟩) (by first | rfl | (simp only [List.length_set]; done) | (simp only [List.length_set]; rfl))) ?_
        refine Wp.text [1, 5, 10, 11, 12] rfl rfl ?_ -- region 7
        refine TextR.int rfl rfl rfl ?_
        refine TextR.move rfl ?_
        refine TextR.done (.cons rfl (.cons rfl (.cons rfl (.cons rfl (.cons rfl .nil))))) ?_
        exact ⟨m1, Nat.lt_succ_self _, _, (St.Weak.trans (keepW (live := [1, 5, 10, 11, 12]) (.cons rfl (.cons rfl (.cons rfl (.cons rfl (.cons rfl .nil)))))) (pickT (e' := [(1, .c (I a1)), (5, .c (.sl 0 1 0 (l0_1.set s12_1.toNat (⟨x3.To, a1⟩ : TArc)).length)), (10, .c (.slv (a0.map eArc))), (11, .c (I (a0.length : Int))), (12, .c (I (w64 (s12_1 + 1))))]) (H' := [.live 1 2 ((l0_1.set s12_1.toNat (⟨x3.To, a1⟩ : TArc)).map eArc)]) [0] [0, 0] 0 hok.len.symm rfl rfl (by decide) (by first | rfl | simp [-List.map_set]) (by first | rfl | simp [-List.map_set]) (by first | rfl | simp [-List.map_set]) (by first | rfl | simp [-List.map_set]))), _, _, h, rfl⟩
      · refine Wp.skip ?_
        refine Wp.text [1, 5, 10, 11, 12] rfl rfl ?_ -- region 7
        refine TextR.int rfl rfl rfl ?_
        refine TextR.move rfl ?_
        refine TextR.done (.cons rfl (.cons rfl (.cons rfl (.cons rfl (.cons rfl .nil))))) ?_
        exact ⟨m1, Nat.lt_succ_self _, _, (St.Weak.trans (keepW (live := [1, 5, 10, 11, 12]) (.cons rfl (.cons rfl (.cons rfl (.cons rfl (.cons rfl .nil)))))) (pickT (e' := [(1, .c (I a1)), (5, .c (.sl 0 1 0 l0_1.length)), (10, .c (.slv (a0.map eArc))), (11, .c (I (a0.length : Int))), (12, .c (I (w64 (s12_1 + 1))))]) (H' := [.live 1 2 (l0_1.map eArc)]) [0] [0, 0] 0 hok.len.symm rfl rfl (by decide) (by first | rfl | simp [-List.map_set]) (by first | rfl | simp [-List.map_set]) (by first | rfl | simp [-List.map_set]) (by first | rfl | simp [-List.map_set]))), _, _, h, rfl⟩
    · refine Wp.exit ?_
      obtain rfl := Option.some.inj h
      exact ⟨_, (keepW (live := [5]) (.cons rfl .nil)), rfl⟩
  rintro _ ⟨S', hw, rfl⟩
  clear hz2
  refine Wp.weak hw ?_
  refine Wp.seq ?_
  refine Wp.text [4] rfl rfl ?_ -- region 8
  refine TextR.move rfl ?_
  refine TextR.assign rfl ?_
  refine TextR.done (.cons rfl .nil) ?_
  refine Wp.weak (keepW (live := [4] ) (.cons rfl .nil)) ?_
  refine Wp.weak (freezeW (h := 0) (ver := 1) (rows := z2.map eArc) (e' := [(4, .c (.slv (z2.map eArc)))]) (H' := [.dead]) rfl (by first | rfl | simp [-List.map_set]) (by first | rfl | simp [-List.map_set])) ?_
  refine Wp.ret ?_
  obtain rfl := Option.some.inj h
  exact Ret.one rfl (resV_tmp rfl) rfl
theorem c_dag_Flip (N : Nat) (a0 : List TArc) (a1 : Int) (r : (List TArc)) (h : dag_Flip N a0 a1 = some r) (H : List Ob) : DCall Try.prog 23 [.c (.slv (a0.map eArc)), .c (I a1)] H (.c (.slv (r.map eArc))) := DCall.lift (by first | rfl | simp [-List.map_set]) (by first | rfl | simp [-List.map_set]) (fun _ => by simp [-List.map_set]) (w_dag_Flip N a0 a1 r h) H
-- narthex/narthexlaw04.awake
theorem w_narthexlaw04_awake (N : Nat) (r : Bool) (h : narthexlaw04_awake N = some r) : Nx.Call Try.prog 10 [] [] fun r' _ => r' = .c (B r) := by
  refine Nx.Call.of_body Try.func10 rfl en10 Try.ntmps10 rfl (fun Γ hok => ?_)
  unfold narthexlaw04_awake at h
  refine Wp.seq ?_
  refine Wp.text [] rfl rfl ?_ -- region 0
  refine TextR.assign rfl ?_
  refine TextR.done .nil ?_
  refine Wp.seq ?_
  refine Wp.text [1] rfl rfl ?_ -- region 1
  refine TextR.build cm37 rfl ?_
  refine TextR.build cm37 rfl ?_
  refine TextR.buildSlice (rows := [(⟨0, 1⟩ : TArc), (⟨1, 2⟩ : TArc)].map eArc) 0 se22 rfl rfl rfl .nil ?_
  refine TextR.assign rfl ?_
  refine TextR.done (.cons rfl .nil) ?_
  refine Wp.seq ?_
  refine Wp.weak (freezeW (h := 0) (ver := 0) (rows := [(⟨0, 1⟩ : TArc), (⟨1, 2⟩ : TArc)].map eArc) (e' := [(1, .c (.slv ([(⟨0, 1⟩ : TArc), (⟨1, 2⟩ : TArc)].map eArc)))]) (H' := [.dead]) rfl (by first | rfl | simp [-List.map_set]) (by first | rfl | simp [-List.map_set])) ?_
  obtain ⟨y1, hy1, h⟩ := bind_some h
  refine Wp.text [1, 2, 3] rfl rfl ?_ -- region 2
  refine TextR.move rfl ?_
  refine TextR.dcall rfl rfl (c_dag_Order N 3 [(⟨0, 1⟩ : TArc), (⟨1, 2⟩ : TArc)] y1 hy1 _) ?_
  refine TextR.move rfl ?_
  refine TextR.extract rfl rfl ?_
  refine TextR.extract rfl rfl ?_
  refine TextR.assign rfl ?_
  refine TextR.assign rfl ?_
  refine TextR.done (.cons rfl (.cons rfl (.cons rfl .nil))) ?_
  refine Wp.seq ?_
  obtain ⟨y2, hy2, h⟩ := bind_some h
  refine Wp.text [1, 2, 3, 4, 5] rfl rfl ?_ -- region 3
  refine TextR.move rfl ?_
  refine TextR.dcall rfl rfl (c_dag_Depths N 3 [(⟨0, 1⟩ : TArc), (⟨1, 2⟩ : TArc)] y2 hy2 _) ?_
  refine TextR.move rfl ?_
  refine TextR.extract rfl rfl ?_
  refine TextR.extract rfl rfl ?_
  refine TextR.assign rfl ?_
  refine TextR.assign rfl ?_
  refine TextR.done (.cons rfl (.cons rfl (.cons rfl (.cons rfl (.cons rfl .nil))))) ?_
  refine Wp.seq ?_
  obtain ⟨x3, hx3, h⟩ := bind_some h
  obtain ⟨x4, hx4, h⟩ := bind_some h
  refine Wp.text [1, 2, 3, 4, 5, 6] rfl rfl ?_ -- region 4
  refine TextR.buildSlice  1 se22 rfl rfl rfl (.cons .nil) ?_
  refine TextR.move rfl ?_
  refine TextR.appendM eArc ([] : List TArc) [(⟨0, 1⟩ : TArc), (⟨1, 2⟩ : TArc)] x3 (app_eq hx3) se22 rfl rfl rfl rfl (fun _ => rfl) rfl (app_len hx3) (.succ .zero) ?_
  refine TextR.build cm37 rfl ?_
  refine TextR.buildSlice (rows := [(⟨2, 0⟩ : TArc)].map eArc) 2 se22 rfl rfl rfl (.cons (.cons .nil)) ?_
  refine TextR.appendM eArc x3 [(⟨2, 0⟩ : TArc)] x4 (app_eq hx4) se22 rfl rfl rfl (view_whole (f := eArc) (xs := [(⟨2, 0⟩ : TArc)]) rfl) (fun _ => rfl) rfl (app_len hx4) (.succ .zero) ?_
  refine TextR.assign rfl ?_
  refine TextR.done (.cons rfl (.cons rfl (.cons rfl (.cons rfl (.cons rfl (.cons rfl .nil)))))) ?_
  refine Wp.seq ?_
  refine Wp.weak (freezeW (h := 1) (ver := 2) (rows := x4.map eArc) (e' := [(1, .c (.slv ([(⟨0, 1⟩ : TArc), (⟨1, 2⟩ : TArc)].map eArc))), (2, .c (.slv (y1.1.map eI))), (3, .c (B y1.2)), (4, .c (.slv (y2.1.map eI))), (5, .c (B y2.2)), (6, .c (.slv (x4.map eArc)))]) (H' := [.dead, .dead, .live 0 2 ([(⟨2, 0⟩ : TArc)].map eArc)]) rfl (by first | rfl | simp [-List.map_set]) (by first | rfl | simp [-List.map_set])) ?_
  obtain ⟨y5, hy5, h⟩ := bind_some h
  refine Wp.text [1, 2, 3, 4, 5, 6, 7, 8] rfl rfl ?_ -- region 5
  refine TextR.move rfl ?_
  refine TextR.dcall rfl rfl (c_dag_Cycle N 3 x4 y5 hy5 _) ?_
  refine TextR.move rfl ?_
  refine TextR.extract rfl rfl ?_
  refine TextR.extract rfl rfl ?_
  refine TextR.assign rfl ?_
  refine TextR.assign rfl ?_
  refine TextR.done (.cons rfl (.cons rfl (.cons rfl (.cons rfl (.cons rfl (.cons rfl (.cons rfl (.cons rfl .nil)))))))) ?_
  refine Wp.seq ?_
  obtain ⟨y6, hy6, h⟩ := bind_some h
  refine Wp.text [1, 2, 3, 4, 5, 6, 7, 8, 10] rfl rfl ?_ -- region 6
  refine TextR.move rfl ?_
  refine TextR.dcall rfl rfl (c_dag_Order N 3 x4 y6 hy6 _) ?_
  refine TextR.move rfl ?_
  refine TextR.extract rfl rfl ?_
  refine TextR.extract rfl rfl ?_
  refine TextR.assign rfl ?_
  refine TextR.assign rfl ?_
  refine TextR.done (.cons rfl (.cons rfl (.cons rfl (.cons rfl (.cons rfl (.cons rfl (.cons rfl (.cons rfl (.cons rfl .nil))))))))) ?_
  refine Wp.seq ?_
  refine Wp.text [0] rfl rfl ?_ -- region 7 SPLIT
  refine TextR.move rfl ?_
  refine TextR.move rfl ?_
  refine TextR.byBool 41 rfl (fun hv => ?_) (fun hv => ?_)
  · rw [if_pos (by simpa using hv)] at h
    refine TextR.gmove rfl rfl ?_
    refine TextR.gbuildSlice rfl (rows := [0, 1, 2].map eI) 3 se25 rfl rfl rfl (.cons (.cons (.cons .nil))) ?_
    obtain ⟨y7, hy7, h⟩ := bind_some h
    refine TextR.dcallG rfl rfl rfl (DCall.borrow (fs := [.c (.slv (y1.1.map eI)), .c (.slv ([0, 1, 2].map eI))]) (by simp [-List.map_set, obj, List.take_of_length_le]) (by first | rfl | simp [-List.map_set]) rfl (w_narthexref01_Same N y1.1 [0, 1, 2] y7 hy7)) ?_
    refine TextR.pickAnd rfl rfl ?_
    refine TextR.move rfl ?_
    refine TextR.byBool 46 rfl (fun hv => ?_) (fun hv => ?_)
    · rw [if_pos (by simpa using hv)] at h
      refine TextR.gmove rfl rfl ?_
      refine TextR.pickAnd rfl rfl ?_
      refine TextR.move rfl ?_
      refine TextR.byBool 49 rfl (fun hv => ?_) (fun hv => ?_)
      · rw [if_pos (by simpa using hv)] at h
        refine TextR.gmove rfl rfl ?_
        refine TextR.gbuildSlice rfl (rows := [0, 1, 2].map eI) 4 se25 rfl rfl rfl (.cons (.cons (.cons (.cons .nil)))) ?_
        obtain ⟨y8, hy8, h⟩ := bind_some h
        refine TextR.dcallG rfl rfl rfl (DCall.borrow (fs := [.c (.slv (y2.1.map eI)), .c (.slv ([0, 1, 2].map eI))]) (by simp [-List.map_set, obj, List.take_of_length_le]) (by first | rfl | simp [-List.map_set]) rfl (w_narthexref01_Same N y2.1 [0, 1, 2] y8 hy8)) ?_
        refine TextR.pickAnd rfl rfl ?_
        refine TextR.move rfl ?_
        refine TextR.byBool 54 rfl (fun hv => ?_) (fun hv => ?_)
        · rw [if_pos (by simpa using hv)] at h
          refine TextR.gmove rfl rfl ?_
          refine TextR.pickAnd rfl rfl ?_
          refine TextR.move rfl ?_
          refine TextR.byBool 57 rfl (fun hv => ?_) (fun hv => ?_)
          · rw [if_pos (by simpa using hv)] at h
            refine TextR.gmove rfl rfl ?_
            refine TextR.gbuildSlice rfl (rows := [0, 1, 2].map eI) 5 se25 rfl rfl rfl (.cons (.cons (.cons (.cons (.cons .nil))))) ?_
            obtain ⟨y9, hy9, h⟩ := bind_some h
            refine TextR.dcallG rfl rfl rfl (DCall.borrow (fs := [.c (.slv (y5.1.map eI)), .c (.slv ([0, 1, 2].map eI))]) (by simp [-List.map_set, obj, List.take_of_length_le]) (by first | rfl | simp [-List.map_set]) rfl (w_narthexref01_Same N y5.1 [0, 1, 2] y9 hy9)) ?_
            refine TextR.pickAnd rfl rfl ?_
            refine TextR.move rfl ?_
            refine TextR.byBool 62 rfl (fun hv => ?_) (fun hv => ?_)
            · rw [if_pos (by simpa using hv)] at h
              refine TextR.gmove rfl rfl ?_
              refine TextR.gnot rfl rfl ?_
              refine TextR.pickAnd rfl rfl ?_
              refine TextR.move rfl ?_
              refine TextR.byBool 66 rfl (fun hv => ?_) (fun hv => ?_)
              · rw [if_pos (by simpa using hv)] at h
                refine TextR.gmove rfl rfl ?_
                obtain ⟨y10, hy10, h⟩ := bind_some h
                refine TextR.dcallG rfl rfl rfl (c_dag_Check N 3 x4 y10 hy10 _) ?_
                refine TextR.gint rfl rfl rfl rfl ?_
                refine TextR.pickAnd rfl rfl ?_
                refine TextR.move rfl ?_
                refine TextR.byBool 71 rfl (fun hv => ?_) (fun hv => ?_)
                · rw [if_pos (by simpa using hv)] at h
                  refine TextR.gmove rfl rfl ?_
                  obtain ⟨y11, hy11, h⟩ := bind_some h
                  refine TextR.dcallG rfl rfl rfl (c_dag_Sinks N 3 [(⟨0, 1⟩ : TArc), (⟨1, 2⟩ : TArc)] y11 hy11 _) ?_
                  refine TextR.gbuildSlice rfl (rows := [2].map eI) 6 se25 rfl rfl rfl (.cons (.cons (.cons (.cons (.cons (.cons .nil)))))) ?_
                  obtain ⟨y12, hy12, h⟩ := bind_some h
                  refine TextR.dcallG rfl rfl rfl (DCall.borrow (fs := [.c (.slv (y11.map eI)), .c (.slv ([2].map eI))]) (by simp [-List.map_set, obj, List.take_of_length_le]) (by first | rfl | simp [-List.map_set]) rfl (w_narthexref01_Same N y11 [2] y12 hy12)) ?_
                  refine TextR.pickAnd rfl rfl ?_
                  refine TextR.move rfl ?_
                  refine TextR.byBool 77 rfl (fun hv => ?_) (fun hv => ?_)
                  · rw [if_pos (by simpa using hv)] at h
                    refine TextR.gmove rfl rfl ?_
                    obtain ⟨y13, hy13, h⟩ := bind_some h
                    refine TextR.dcallG rfl rfl rfl (c_dag_Flip N [(⟨0, 1⟩ : TArc), (⟨1, 2⟩ : TArc)] 0 y13 hy13 _) ?_
                    obtain ⟨y14, hy14, h⟩ := bind_some h
                    refine TextR.dcallG rfl rfl rfl (c_dag_Sinks N 3 y13 y14 hy14 _) ?_
                    refine TextR.gbuildSlice rfl (rows := [0, 2].map eI) 7 se25 rfl rfl rfl (.cons (.cons (.cons (.cons (.cons (.cons (.cons .nil))))))) ?_
                    obtain ⟨y15, hy15, h⟩ := bind_some h
                    refine TextR.dcallG rfl rfl rfl (DCall.borrow (fs := [.c (.slv (y14.map eI)), .c (.slv ([0, 2].map eI))]) (by simp [-List.map_set, obj, List.take_of_length_le]) (by first | rfl | simp [-List.map_set]) rfl (w_narthexref01_Same N y14 [0, 2] y15 hy15)) ?_
                    refine TextR.pickAnd rfl rfl ?_
                    refine TextR.assign rfl ?_
                    refine TextR.done (.cons rfl .nil) ?_
                    refine Wp.ret ?_
                    obtain rfl := Option.some.inj h
                    exact Ret.one rfl (resV_tmp rfl) rfl
                  · rw [if_neg (by simpa using hv)] at h
                    refine TextR.off rfl ?_
                    refine TextR.off rfl ?_
                    refine TextR.off rfl ?_
                    refine TextR.off rfl ?_
                    refine TextR.off rfl ?_
                    refine TextR.pickAnd0 rfl rfl ?_
                    refine TextR.assign rfl ?_
                    refine TextR.done (.cons rfl .nil) ?_
                    refine Wp.ret ?_
                    obtain rfl := Option.some.inj h
                    exact Ret.one rfl (resV_tmp rfl) rfl
                · rw [if_neg (by simpa using hv)] at h
                  refine TextR.off rfl ?_
                  refine TextR.off rfl ?_
                  refine TextR.off rfl ?_
                  refine TextR.off rfl ?_
                  refine TextR.pickAnd0 rfl rfl ?_
                  refine TextR.move rfl ?_
                  refine TextR.off rfl ?_
                  refine TextR.off rfl ?_
                  refine TextR.off rfl ?_
                  refine TextR.off rfl ?_
                  refine TextR.off rfl ?_
                  refine TextR.pickAnd0 rfl rfl ?_
                  refine TextR.assign rfl ?_
                  refine TextR.done (.cons rfl .nil) ?_
                  refine Wp.ret ?_
                  obtain rfl := Option.some.inj h
                  exact Ret.one rfl (resV_tmp rfl) rfl
              · rw [if_neg (by simpa using hv)] at h
                refine TextR.off rfl ?_
                refine TextR.off rfl ?_
                refine TextR.off rfl ?_
                refine TextR.pickAnd0 rfl rfl ?_
                refine TextR.move rfl ?_
                refine TextR.off rfl ?_
                refine TextR.off rfl ?_
                refine TextR.off rfl ?_
                refine TextR.off rfl ?_
                refine TextR.pickAnd0 rfl rfl ?_
                refine TextR.move rfl ?_
                refine TextR.off rfl ?_
                refine TextR.off rfl ?_
                refine TextR.off rfl ?_
                refine TextR.off rfl ?_
                refine TextR.off rfl ?_
                refine TextR.pickAnd0 rfl rfl ?_
                refine TextR.assign rfl ?_
                refine TextR.done (.cons rfl .nil) ?_
                refine Wp.ret ?_
                obtain rfl := Option.some.inj h
                exact Ret.one rfl (resV_tmp rfl) rfl
            · rw [if_neg (by simpa using hv)] at h
              refine TextR.off rfl ?_
              refine TextR.off rfl ?_
              refine TextR.pickAnd0 rfl rfl ?_
              refine TextR.move rfl ?_
              refine TextR.off rfl ?_
              refine TextR.off rfl ?_
              refine TextR.off rfl ?_
              refine TextR.pickAnd0 rfl rfl ?_
              refine TextR.move rfl ?_
              refine TextR.off rfl ?_
              refine TextR.off rfl ?_
              refine TextR.off rfl ?_
              refine TextR.off rfl ?_
              refine TextR.pickAnd0 rfl rfl ?_
              refine TextR.move rfl ?_
              refine TextR.off rfl ?_
              refine TextR.off rfl ?_
              refine TextR.off rfl ?_
              refine TextR.off rfl ?_
              refine TextR.off rfl ?_
              refine TextR.pickAnd0 rfl rfl ?_
              refine TextR.assign rfl ?_
              refine TextR.done (.cons rfl .nil) ?_
              refine Wp.ret ?_
              obtain rfl := Option.some.inj h
              exact Ret.one rfl (resV_tmp rfl) rfl
          · rw [if_neg (by simpa using hv)] at h
            refine TextR.off rfl ?_
            refine TextR.off rfl ?_
            refine TextR.off rfl ?_
            refine TextR.pickAnd0 rfl rfl ?_
            refine TextR.move rfl ?_
            refine TextR.off rfl ?_
            refine TextR.off rfl ?_
            refine TextR.pickAnd0 rfl rfl ?_
            refine TextR.move rfl ?_
            refine TextR.off rfl ?_
            refine TextR.off rfl ?_
            refine TextR.off rfl ?_
            refine TextR.pickAnd0 rfl rfl ?_
            refine TextR.move rfl ?_
            refine TextR.off rfl ?_
            refine TextR.off rfl ?_
            refine TextR.off rfl ?_
            refine TextR.off rfl ?_
            refine TextR.pickAnd0 rfl rfl ?_
            refine TextR.move rfl ?_
            refine TextR.off rfl ?_
            refine TextR.off rfl ?_
            refine TextR.off rfl ?_
            refine TextR.off rfl ?_
            refine TextR.off rfl ?_
            refine TextR.pickAnd0 rfl rfl ?_
            refine TextR.assign rfl ?_
            refine TextR.done (.cons rfl .nil) ?_
            refine Wp.ret ?_
            obtain rfl := Option.some.inj h
            exact Ret.one rfl (resV_tmp rfl) rfl
        · rw [if_neg (by simpa using hv)] at h
          refine TextR.off rfl ?_
          refine TextR.pickAnd0 rfl rfl ?_
          refine TextR.move rfl ?_
          refine TextR.off rfl ?_
          refine TextR.off rfl ?_
          refine TextR.off rfl ?_
          refine TextR.pickAnd0 rfl rfl ?_
          refine TextR.move rfl ?_
          refine TextR.off rfl ?_
          refine TextR.off rfl ?_
          refine TextR.pickAnd0 rfl rfl ?_
          refine TextR.move rfl ?_
          refine TextR.off rfl ?_
          refine TextR.off rfl ?_
          refine TextR.off rfl ?_
          refine TextR.pickAnd0 rfl rfl ?_
          refine TextR.move rfl ?_
          refine TextR.off rfl ?_
          refine TextR.off rfl ?_
          refine TextR.off rfl ?_
          refine TextR.off rfl ?_
          refine TextR.pickAnd0 rfl rfl ?_
          refine TextR.move rfl ?_
          refine TextR.off rfl ?_
          refine TextR.off rfl ?_
          refine TextR.off rfl ?_
          refine TextR.off rfl ?_
          refine TextR.off rfl ?_
          refine TextR.pickAnd0 rfl rfl ?_
          refine TextR.assign rfl ?_
          refine TextR.done (.cons rfl .nil) ?_
          refine Wp.ret ?_
          obtain rfl := Option.some.inj h
          exact Ret.one rfl (resV_tmp rfl) rfl
      · rw [if_neg (by simpa using hv)] at h
        refine TextR.off rfl ?_
        refine TextR.off rfl ?_
        refine TextR.off rfl ?_
        refine TextR.pickAnd0 rfl rfl ?_
        refine TextR.move rfl ?_
        refine TextR.off rfl ?_
        refine TextR.pickAnd0 rfl rfl ?_
        refine TextR.move rfl ?_
        refine TextR.off rfl ?_
        refine TextR.off rfl ?_
        refine TextR.off rfl ?_
        refine TextR.pickAnd0 rfl rfl ?_
        refine TextR.move rfl ?_
        refine TextR.off rfl ?_
        refine TextR.off rfl ?_
        refine TextR.pickAnd0 rfl rfl ?_
        refine TextR.move rfl ?_
        refine TextR.off rfl ?_
        refine TextR.off rfl ?_
        refine TextR.off rfl ?_
        refine TextR.pickAnd0 rfl rfl ?_
        refine TextR.move rfl ?_
        refine TextR.off rfl ?_
        refine TextR.off rfl ?_
        refine TextR.off rfl ?_
        refine TextR.off rfl ?_
        refine TextR.pickAnd0 rfl rfl ?_
        refine TextR.move rfl ?_
        refine TextR.off rfl ?_
        refine TextR.off rfl ?_
        refine TextR.off rfl ?_
        refine TextR.off rfl ?_
        refine TextR.off rfl ?_
        refine TextR.pickAnd0 rfl rfl ?_
        refine TextR.assign rfl ?_
        refine TextR.done (.cons rfl .nil) ?_
        refine Wp.ret ?_
        obtain rfl := Option.some.inj h
        exact Ret.one rfl (resV_tmp rfl) rfl
    · rw [if_neg (by simpa using hv)] at h
      refine TextR.off rfl ?_
      refine TextR.pickAnd0 rfl rfl ?_
      refine TextR.move rfl ?_
      refine TextR.off rfl ?_
      refine TextR.off rfl ?_
      refine TextR.off rfl ?_
      refine TextR.pickAnd0 rfl rfl ?_
      refine TextR.move rfl ?_
      refine TextR.off rfl ?_
      refine TextR.pickAnd0 rfl rfl ?_
      refine TextR.move rfl ?_
      refine TextR.off rfl ?_
      refine TextR.off rfl ?_
      refine TextR.off rfl ?_
      refine TextR.pickAnd0 rfl rfl ?_
      refine TextR.move rfl ?_
      refine TextR.off rfl ?_
      refine TextR.off rfl ?_
      refine TextR.pickAnd0 rfl rfl ?_
      refine TextR.move rfl ?_
      refine TextR.off rfl ?_
      refine TextR.off rfl ?_
      refine TextR.off rfl ?_
      refine TextR.pickAnd0 rfl rfl ?_
      refine TextR.move rfl ?_
      refine TextR.off rfl ?_
      refine TextR.off rfl ?_
      refine TextR.off rfl ?_
      refine TextR.off rfl ?_
      refine TextR.pickAnd0 rfl rfl ?_
      refine TextR.move rfl ?_
      refine TextR.off rfl ?_
      refine TextR.off rfl ?_
      refine TextR.off rfl ?_
      refine TextR.off rfl ?_
      refine TextR.off rfl ?_
      refine TextR.pickAnd0 rfl rfl ?_
      refine TextR.assign rfl ?_
      refine TextR.done (.cons rfl .nil) ?_
      refine Wp.ret ?_
      obtain rfl := Option.some.inj h
      exact Ret.one rfl (resV_tmp rfl) rfl
  · rw [if_neg (by simpa using hv)] at h
    refine TextR.off rfl ?_
    refine TextR.off rfl ?_
    refine TextR.off rfl ?_
    refine TextR.pickAnd0 rfl rfl ?_
    refine TextR.move rfl ?_
    refine TextR.off rfl ?_
    refine TextR.pickAnd0 rfl rfl ?_
    refine TextR.move rfl ?_
    refine TextR.off rfl ?_
    refine TextR.off rfl ?_
    refine TextR.off rfl ?_
    refine TextR.pickAnd0 rfl rfl ?_
    refine TextR.move rfl ?_
    refine TextR.off rfl ?_
    refine TextR.pickAnd0 rfl rfl ?_
    refine TextR.move rfl ?_
    refine TextR.off rfl ?_
    refine TextR.off rfl ?_
    refine TextR.off rfl ?_
    refine TextR.pickAnd0 rfl rfl ?_
    refine TextR.move rfl ?_
    refine TextR.off rfl ?_
    refine TextR.off rfl ?_
    refine TextR.pickAnd0 rfl rfl ?_
    refine TextR.move rfl ?_
    refine TextR.off rfl ?_
    refine TextR.off rfl ?_
    refine TextR.off rfl ?_
    refine TextR.pickAnd0 rfl rfl ?_
    refine TextR.move rfl ?_
    refine TextR.off rfl ?_
    refine TextR.off rfl ?_
    refine TextR.off rfl ?_
    refine TextR.off rfl ?_
    refine TextR.pickAnd0 rfl rfl ?_
    refine TextR.move rfl ?_
    refine TextR.off rfl ?_
    refine TextR.off rfl ?_
    refine TextR.off rfl ?_
    refine TextR.off rfl ?_
    refine TextR.off rfl ?_
    refine TextR.pickAnd0 rfl rfl ?_
    refine TextR.assign rfl ?_
    refine TextR.done (.cons rfl .nil) ?_
    refine Wp.ret ?_
    obtain rfl := Option.some.inj h
    exact Ret.one rfl (resV_tmp rfl) rfl
theorem c_narthexlaw04_awake (N : Nat) (r : Bool) (h : narthexlaw04_awake N = some r) (H : List Ob) : DCall Try.prog 10 [] H (.c (B r)) := DCall.lift (by first | rfl | simp [-List.map_set]) (by first | rfl | simp [-List.map_set]) (fun _ => by simp [-List.map_set]) (w_narthexlaw04_awake N r h) H
-- narthex/narthexlaw04.few
theorem w_narthexlaw04_few (N : Nat) (a0 : Int) (a1 : List TArc) (r : Bool) (h : narthexlaw04_few N a0 a1 = some r) : Nx.Call Try.prog 11 [.c (I a0), .c (.slv (a1.map eArc))] [] fun r' _ => r' = .c (B r) := by
  refine Nx.Call.of_body Try.func11 rfl en11 Try.ntmps11 rfl (fun Γ hok => ?_)
  unfold narthexlaw04_few at h
  refine Wp.seq ?_
  refine Wp.text [0, 1] rfl rfl ?_ -- region 0
  refine TextR.assign rfl ?_
  refine TextR.done (.cons rfl (.cons rfl .nil)) ?_
  refine Wp.seq ?_
  refine Wp.go false none [[], [], [], [], [(8, true)], [(8, true)], [(8, true)], [(11, false), (8, true)], [(11, false), (8, true)], [(8, true)], [], []] [] [4] mixed rfl rfl (by kernel_rfl) ?_ -- region 1
  refine RunR.move rfl rfl rfl ?_
  refine RunR.lenM us22 rfl rfl rfl rfl ?_
  refine RunR.int rfl rfl rfl rfl rfl ?_
  refine RunR.move rfl rfl rfl ?_
  refine RunR.move rfl rfl rfl ?_
  refine RunR.int rfl rfl rfl rfl rfl ?_
  refine RunR.move rfl rfl rfl ?_
  refine RunR.move rfl rfl rfl ?_
  refine RunR.int rfl rfl rfl rfl rfl ?_
  refine RunR.pickOr rfl rfl rfl rfl ?_
  refine RunR.pickAnd rfl rfl rfl rfl ?_
  refine RunR.assign rfl rfl rfl ?_
  refine RunR.doneQ (.cons rfl .nil) ?_
  refine Wp.ret ?_
  obtain rfl := Option.some.inj h
  exact Ret.one rfl (resV_tmp rfl) rfl
theorem c_narthexlaw04_few (N : Nat) (a0 : Int) (a1 : List TArc) (r : Bool) (h : narthexlaw04_few N a0 a1 = some r) (H : List Ob) : DCall Try.prog 11 [.c (I a0), .c (.slv (a1.map eArc))] H (.c (B r)) := DCall.lift (by first | rfl | simp [-List.map_set]) (by first | rfl | simp [-List.map_set]) (fun _ => by simp [-List.map_set]) (w_narthexlaw04_few N a0 a1 r h) H
-- narthex/narthexlaw04.own
theorem w_narthexlaw04_own (N : Nat) (a0 : List TArc) (r : (List TArc)) (h : narthexlaw04_own N a0 = some r) : Nx.Call Try.prog 13 [.c (.slv (a0.map eArc))] [] fun r' _ => r' = .c (.slv (r.map eArc)) := by
  refine Nx.Call.of_body Try.func13 rfl en13 Try.ntmps13 rfl (fun Γ hok => ?_)
  unfold narthexlaw04_own at h
  refine Wp.seq ?_
  refine Wp.text [0] rfl rfl ?_ -- region 0
  refine TextR.assign rfl ?_
  refine TextR.done (.cons rfl .nil) ?_
  refine Wp.seq ?_
  obtain ⟨x1, hx1, h⟩ := bind_some h
  refine Wp.text [2] rfl rfl ?_ -- region 1
  refine TextR.buildSlice  0 se22 rfl rfl rfl .nil ?_
  refine TextR.move rfl ?_
  refine TextR.appendM eArc ([] : List TArc) a0 x1 (app_eq hx1) se22 rfl rfl rfl rfl (fun _ => rfl) rfl (app_len hx1) .zero ?_
  refine TextR.assign rfl ?_
  refine TextR.done (.cons rfl .nil) ?_
  refine Wp.weak (keepW (live := [2] ) (.cons rfl .nil)) ?_
  refine Wp.weak (freezeW (h := 0) (ver := 1) (rows := x1.map eArc) (e' := [(2, .c (.slv (x1.map eArc)))]) (H' := [.dead]) rfl (by first | rfl | simp [-List.map_set]) (by first | rfl | simp [-List.map_set])) ?_
  refine Wp.ret ?_
  obtain rfl := Option.some.inj h
  exact Ret.one rfl (resV_tmp rfl) rfl
theorem c_narthexlaw04_own (N : Nat) (a0 : List TArc) (r : (List TArc)) (h : narthexlaw04_own N a0 = some r) (H : List Ob) : DCall Try.prog 13 [.c (.slv (a0.map eArc))] H (.c (.slv (r.map eArc))) := DCall.lift (by first | rfl | simp [-List.map_set]) (by first | rfl | simp [-List.map_set]) (fun _ => by simp [-List.map_set]) (w_narthexlaw04_own N a0 r h) H
theorem b_narthexlaw04_own (N : Nat) (a0 : List TArc) (r : (List TArc)) (h : narthexlaw04_own N a0 = some r) : Nx.Call Try.prog 13 [.c (.slv (a0.map eArc))] [] fun r' H' => r' = .c (.sl 0 0 0 r.length) ∧ ∃ junk, H' = [.live 0 2 (r.map eArc)] ++ junk := by
  refine Nx.Call.of_body Try.func13 rfl en13 Try.ntmps13 rfl (fun Γ hok => ?_)
  unfold narthexlaw04_own at h
  refine Wp.seq ?_
  refine Wp.text [0] rfl rfl ?_ -- region 0
  refine TextR.assign rfl ?_
  refine TextR.done (.cons rfl .nil) ?_
  refine Wp.seq ?_
  obtain ⟨x1, hx1, h⟩ := bind_some h
  refine Wp.text [2] rfl rfl ?_ -- region 1
  refine TextR.buildSlice  0 se22 rfl rfl rfl .nil ?_
  refine TextR.move rfl ?_
  refine TextR.appendM eArc ([] : List TArc) a0 x1 (app_eq hx1) se22 rfl rfl rfl rfl (fun _ => rfl) rfl (app_len hx1) .zero ?_
  refine TextR.assign rfl ?_
  refine TextR.done (.cons rfl .nil) ?_
  refine Wp.weak (keepW (live := [2] ) (.cons rfl .nil)) ?_
  refine Wp.weak (reverW (h := 0) (ver := 1) (rows := x1.map eArc) (e' := [(2, .c (.sl 0 0 0 x1.length))]) (H' := [.live 0 2 (x1.map eArc)]) 0 hok.len.symm rfl rfl (rv_self ok_eArc fx_eArc _) (by simp [rvK, allVp, allO, -List.map_set]) (by simp [rvK, allVp, allO, -List.map_set]) (by first | rfl | simp [-List.map_set]) (by first | rfl | simp [-List.map_set])) ?_
  refine Wp.ret ?_
  obtain rfl := Option.some.inj h
  exact Ret.one rfl (resV_tmp rfl) ⟨rfl, _, rfl⟩
theorem o_narthexlaw04_own (N : Nat) (a0 : List TArc) (r : (List TArc)) (h : narthexlaw04_own N a0 = some r) {H H1 : List Ob} (k : Nat) (hh : H.length = k) (hs : Snoc (.live 0 2 (r.map eArc)) H H1) : Nx.Call Try.prog 13 [.c (.slv (a0.map eArc))] H fun r' H' => r' = .c (.sl k 0 0 r.length) ∧ H' = H1 := by
  have hc := Call.lift (objs := [.live 0 2 (r.map eArc)]) (by first | rfl | simp [-List.map_set]) rfl (by have := okR_eArc (p := mvL 1) r; simpa [mvO] using this) (b_narthexlaw04_own N a0 r h) H
  refine Call.mono hc fun r' H' ⟨h1, h2⟩ => ⟨by subst hh; simpa [shV, shL] using h1, ?_⟩
  rw [h2, ← hs.eq]
  simp [shO, fx_eArc]
-- narthex/narthexref04.Check
theorem w_narthexref04_Check (N : Nat) (a0 : Int) (a1 : List TArc) (r : Bool) (h : narthexref04_Check N a0 a1 = some r) : Nx.Call Try.prog 19 [.c (I a0), .c (.slv (a1.map eArc))] [] fun r' _ => r' = .c (B r) := by
  refine Nx.Call.of_body Try.func19 rfl en19 Try.ntmps19 rfl (fun Γ hok => ?_)
  unfold narthexref04_Check at h
  refine Wp.seq ?_
  refine Wp.text [0, 1] rfl rfl ?_ -- region 0
  refine TextR.assign rfl ?_
  refine TextR.done (.cons rfl (.cons rfl .nil)) ?_
  refine Wp.seq ?_
  refine Wp.seq ?_
  refine Wp.go false none [[], [], [], [(10, false)], [(10, false)], [], [], [(14, false)], [(14, false)], [(14, false)], []] [] [0, 1, 18] mixed rfl rfl (by kernel_rfl) ?_ -- region 1
  refine RunR.move rfl rfl rfl ?_
  refine RunR.int rfl rfl rfl rfl rfl ?_
  refine RunR.move rfl rfl rfl ?_
  refine RunR.move rfl rfl rfl ?_
  refine RunR.int rfl rfl rfl rfl rfl ?_
  refine RunR.pickOr rfl rfl rfl rfl ?_
  refine RunR.move rfl rfl rfl ?_
  refine RunR.move rfl rfl rfl ?_
  refine RunR.lenM us22 rfl rfl rfl rfl ?_
  refine RunR.int rfl rfl rfl rfl rfl ?_
  refine RunR.pickOr rfl rfl rfl rfl ?_
  refine RunR.doneQ (.cons rfl (.cons rfl (.cons rfl .nil))) ?_
  refine Wp.condM h rfl (fun hc1 h => ?_) (fun hc1 h => ?_)
  · refine Wp.seq ?_
    refine Wp.text [4] rfl rfl ?_ -- region 2
    refine TextR.assign rfl ?_
    refine TextR.done (.cons rfl .nil) ?_
    refine Wp.ret ?_
    obtain rfl := Option.some.inj h
    exact Ret.one rfl (resV_tmp rfl) rfl
  · refine Wp.skip ?_
    refine Wp.seq ?_
    refine Wp.seq ?_
    refine Wp.text [0, 1, 5] rfl rfl ?_ -- region 3
    refine TextR.assign rfl ?_
    refine TextR.done (.cons rfl (.cons rfl (.cons rfl .nil))) ?_
    obtain ⟨z1, hz1, h⟩ := bind_some h
    refine Wp.fragR (fun S => ∃ z3, z1 = .inr z3 ∧ ∃ S', St.Weak ⟨Try.prog, 67, Γ⟩ S S' ∧ S' = ⟨[], []⟩) (fun S => ∃ v, z1 = .inl v ∧ Ret Try.prog Try.f19 (fun r' _ => r' = .c (B v)) .ret S) ?_ ?_ ?_
    · replace h := hz1
      refine Wp.block ?_
      refine Wp.weak (keepW (live := [0, 1, 5]) (.cons rfl (.cons rfl (.cons rfl .nil)))) ?_
      refine Wp.loop (fun m S => ∃ s5_1, narthexref04_Check_L1 N a0 a1 m s5_1 = some z1 ∧ S = ⟨[(0, .c (I a0)), (1, .c (.slv (a1.map eArc))), (5, .c (I s5_1))], []⟩) N ⟨_, h, rfl⟩ ?_
      rintro m1 _ ⟨s5_1, h, rfl⟩
      cases m1 with
      | zero => rw [narthexref04_Check_L1.eq_1] at h; cases h
      | succ m1 =>
      rw [narthexref04_Check_L1.eq_2] at h
      refine Wp.seq ?_
      refine Wp.seq ?_
      refine Wp.text [0, 1, 5, 22] rfl rfl ?_ -- region 4
      refine TextR.move rfl ?_
      refine TextR.move rfl ?_
      refine TextR.lenM us22 rfl rfl ?_
      refine TextR.int rfl rfl rfl ?_
      refine TextR.done (.cons rfl (.cons rfl (.cons rfl (.cons rfl .nil)))) ?_
      refine Wp.condM h rfl (fun hc3 h => ?_) (fun hc3 h => ?_)
      · refine Wp.skip ?_
        refine Wp.seq ?_
        refine Wp.block ?_
        refine Wp.seq ?_
        obtain ⟨x4, hx4, h⟩ := bind_some h
        refine Wp.text [0, 1, 5, 6] rfl rfl ?_ -- region 6
        refine TextR.move rfl ?_
        refine TextR.move rfl ?_
        refine TextR.indexA se22 rfl rfl rfl hx4 rfl ?_
        refine TextR.loadNM tk37 rfl (at_get hx4) rfl ?_
        refine TextR.alloc 0 zc37 rfl rfl .nil ?_
        refine TextR.store1 tk37 rfl rfl rfl rfl rfl rfl .zero ?_
        refine TextR.done (.cons rfl (.cons rfl (.cons rfl (.cons rfl .nil)))) ?_
        refine Wp.seq ?_
        refine Wp.seq ?_
        refine Wp.go false none [[], [], [], [], [(32, false)], [(32, false)], [(32, false)], [(32, false)], [], [], [(38, false)], [(38, false)], [(38, false)], [], [], [(43, false)], [(43, false)], [(43, false)], [(43, false)], [], [], [(49, false)], [(49, false)], [(49, false)], [(49, false)], [(49, false)], []] [] [0, 1, 5, 6, 55] mixed rfl rfl (by kernel_rfl) ?_ -- region 7
        refine RunR.fieldAddr fo37_0 rfl rfl rfl rfl rfl ?_
        refine RunR.load1 tk3 rfl rfl rfl rfl ?_
        refine RunR.int rfl rfl rfl rfl rfl ?_
        refine RunR.move rfl rfl rfl ?_
        refine RunR.fieldAddr fo37_0 rfl rfl rfl rfl rfl ?_
        refine RunR.load1 tk3 rfl rfl rfl rfl ?_
        refine RunR.move rfl rfl rfl ?_
        refine RunR.int rfl rfl rfl rfl rfl ?_
        refine RunR.pickOr rfl rfl rfl rfl ?_
        refine RunR.move rfl rfl rfl ?_
        refine RunR.fieldAddr fo37_1 rfl rfl rfl rfl rfl ?_
        refine RunR.load1 tk3 rfl rfl rfl rfl ?_
        refine RunR.int rfl rfl rfl rfl rfl ?_
        refine RunR.pickOr rfl rfl rfl rfl ?_
        refine RunR.move rfl rfl rfl ?_
        refine RunR.fieldAddr fo37_1 rfl rfl rfl rfl rfl ?_
        refine RunR.load1 tk3 rfl rfl rfl rfl ?_
        refine RunR.move rfl rfl rfl ?_
        refine RunR.int rfl rfl rfl rfl rfl ?_
        refine RunR.pickOr rfl rfl rfl rfl ?_
        refine RunR.move rfl rfl rfl ?_
        refine RunR.fieldAddr fo37_0 rfl rfl rfl rfl rfl ?_
        refine RunR.load1 tk3 rfl rfl rfl rfl ?_
        refine RunR.fieldAddr fo37_1 rfl rfl rfl rfl rfl ?_
        refine RunR.load1 tk3 rfl rfl rfl rfl ?_
        refine RunR.int rfl rfl rfl rfl rfl ?_
        refine RunR.pickOr rfl rfl rfl rfl ?_
        refine RunR.doneQ (.cons rfl (.cons rfl (.cons rfl (.cons rfl (.cons rfl .nil))))) ?_
        refine Wp.condM h rfl (fun hc4 h => ?_) (fun hc4 h => ?_)
        · refine Wp.seq ?_
          refine Wp.text [4] rfl rfl ?_ -- region 8
          refine TextR.assign rfl ?_
          refine TextR.done (.cons rfl .nil) ?_
          refine Wp.ret ?_
          exact ⟨_, (Option.some.inj h).symm, Ret.one rfl (resV_tmp rfl) rfl⟩
        · refine Wp.skip ?_
          refine Wp.seq ?_
          refine Wp.text [0, 1, 5, 6, 7] rfl rfl ?_ -- region 9
          refine TextR.assign rfl ?_
          refine TextR.done (.cons rfl (.cons rfl (.cons rfl (.cons rfl (.cons rfl .nil))))) ?_
          obtain ⟨z5, hz5, h⟩ := bind_some h
          refine Wp.fragR (fun S => ∃ z7, z5 = .inr z7 ∧ ∃ S', St.Weak ⟨Try.prog, 67, Γ⟩ S S' ∧ S' = ⟨[(0, .c (I a0)), (1, .c (.slv (a1.map eArc))), (5, .c (I s5_1))], []⟩) (fun S => ∃ v, z5 = .inl v ∧ Ret Try.prog Try.f19 (fun r' _ => r' = .c (B v)) .ret S) ?_ ?_ ?_
          · replace h := hz5
            refine Wp.block ?_
            refine Wp.weak (keepW (live := [0, 1, 5, 6, 7]) (.cons rfl (.cons rfl (.cons rfl (.cons rfl (.cons rfl .nil)))))) ?_
            refine Wp.loop (fun m S => ∃ s7_2, narthexref04_Check_L2 N a1 s5_1 x4 m s7_2 = some z5 ∧ S = ⟨[(0, .c (I a0)), (1, .c (.slv (a1.map eArc))), (5, .c (I s5_1)), (6, .c (.ptr 0 0 0 0)), (7, .c (I s7_2))], [.live 0 2 [[I x4.From, I x4.To]]]⟩) N ⟨_, h, rfl⟩ ?_
            rintro m2 _ ⟨s7_2, h, rfl⟩
            cases m2 with
            | zero => rw [narthexref04_Check_L2.eq_1] at h; cases h
            | succ m2 =>
            rw [narthexref04_Check_L2.eq_2] at h
            refine Wp.seq ?_
            refine Wp.seq ?_
            refine Wp.text [0, 1, 5, 6, 7, 58] rfl rfl ?_ -- region 10
            refine TextR.move rfl ?_
            refine TextR.move rfl ?_
            refine TextR.int rfl rfl rfl ?_
            refine TextR.done (.cons rfl (.cons rfl (.cons rfl (.cons rfl (.cons rfl (.cons rfl .nil)))))) ?_
            refine Wp.condM h rfl (fun hc6 h => ?_) (fun hc6 h => ?_)
            · refine Wp.skip ?_
              refine Wp.seq ?_
              refine Wp.block ?_
              refine Wp.seq ?_
              obtain ⟨x8, hx8, h⟩ := bind_some h
              refine Wp.go true (some ⟨[], []⟩) [] [] [0, 1, 5, 6, 7, 66] mixed rfl rfl (by kernel_rfl) ?_ -- region 12
              refine RunR.move rfl rfl rfl ?_
              refine RunR.move rfl rfl rfl ?_
              refine RunR.indexA se22 rfl rfl rfl rfl rfl hx8 rfl ?_
              refine RunR.loadNM tk37 rfl rfl rfl (at_get hx8) rfl ?_
              refine RunR.loadN (cs := [I x4.From, I x4.To]) tk37 rfl rfl rfl rfl ?_
              refine RunR.eqAgg eqs37 rfl rfl rfl rfl (q_Arc x8 x4) ?_
              refine RunR.doneQ (.cons rfl (.cons rfl (.cons rfl (.cons rfl (.cons rfl (.cons rfl .nil)))))) ?_
              refine Wp.condM h rfl (fun hc7 h => ?_) (fun hc7 h => ?_)
              · refine Wp.seq ?_
                refine Wp.text [4] rfl rfl ?_ -- region 13
                refine TextR.assign rfl ?_
                refine TextR.done (.cons rfl .nil) ?_
                refine Wp.ret ?_
                exact ⟨_, (Option.some.inj h).symm, Ret.one rfl (resV_tmp rfl) rfl⟩
              · refine Wp.skip ?_
                refine Wp.text [0, 1, 5, 6, 7] rfl rfl ?_ -- region 11
                refine TextR.move rfl ?_
                refine TextR.int rfl rfl rfl ?_
                refine TextR.assign rfl ?_
                refine TextR.done (.cons rfl (.cons rfl (.cons rfl (.cons rfl (.cons rfl .nil))))) ?_
                exact ⟨m2, Nat.lt_succ_self _, _, (keepW (live := [0, 1, 5, 6, 7]) (.cons rfl (.cons rfl (.cons rfl (.cons rfl (.cons rfl .nil)))))), _, h, rfl⟩
            · refine Wp.exit ?_
              exact ⟨_, (Option.some.inj h).symm, _, (St.Weak.trans (keepW (live := [0, 1, 5]) (.cons rfl (.cons rfl (.cons rfl .nil)))) (pickT (e' := [(0, .c (I a0)), (1, .c (.slv (a1.map eArc))), (5, .c (I s5_1))]) (H' := []) [] [0] 0 hok.len.symm rfl rfl (by decide) (by first | rfl | simp [-List.map_set]) (by first | rfl | simp [-List.map_set]) (by first | rfl | simp [-List.map_set]) (by first | rfl | simp [-List.map_set]))), rfl⟩
          · rintro _ ⟨z7, rfl, _, hw, rfl⟩
            dsimp only at h
            clear hz5
            refine Wp.weak hw ?_
            refine Wp.text [0, 1, 5] rfl rfl ?_ -- region 5
            refine TextR.move rfl ?_
            refine TextR.int rfl rfl rfl ?_
            refine TextR.assign rfl ?_
            refine TextR.done (.cons rfl (.cons rfl (.cons rfl .nil))) ?_
            exact ⟨m1, Nat.lt_succ_self _, _, (keepW (live := [0, 1, 5]) (.cons rfl (.cons rfl (.cons rfl .nil)))), _, h, rfl⟩
          · rintro S' ⟨r6, rfl, hR⟩
            dsimp only at h
            exact ⟨_, (Option.some.inj h).symm, hR⟩
      · refine Wp.exit ?_
        exact ⟨_, (Option.some.inj h).symm, _, (keepW (live := []) .nil), rfl⟩
    · rintro _ ⟨z3, rfl, _, hw, rfl⟩
      dsimp only at h
      clear hz1
      refine Wp.weak hw ?_
      refine Wp.seq ?_
      refine Wp.text [4] rfl rfl ?_ -- region 14
      refine TextR.assign rfl ?_
      refine TextR.done (.cons rfl .nil) ?_
      refine Wp.ret ?_
      obtain rfl := Option.some.inj h
      exact Ret.one rfl (resV_tmp rfl) rfl
    · rintro S' ⟨r2, rfl, hR⟩
      dsimp only at h
      obtain rfl := Option.some.inj h
      exact hR
theorem c_narthexref04_Check (N : Nat) (a0 : Int) (a1 : List TArc) (r : Bool) (h : narthexref04_Check N a0 a1 = some r) (H : List Ob) : DCall Try.prog 19 [.c (I a0), .c (.slv (a1.map eArc))] H (.c (B r)) := DCall.lift (by first | rfl | simp [-List.map_set]) (by first | rfl | simp [-List.map_set]) (fun _ => by simp [-List.map_set]) (w_narthexref04_Check N a0 a1 r h) H
-- narthex/narthexref01.Has
theorem w_narthexref01_Has (N : Nat) (a0 : List Int) (a1 : Int) (r : Bool) (h : narthexref01_Has N a0 a1 = some r) : Nx.Call Try.prog 43 [.c (.slv (a0.map eI)), .c (I a1)] [] fun r' _ => r' = .c (B r) := by
  refine Nx.Call.of_body Try.func43 rfl en43 Try.ntmps43 rfl (fun Γ hok => ?_)
  unfold narthexref01_Has at h
  refine Wp.seq ?_
  refine Wp.text [0, 1] rfl rfl ?_ -- region 0
  refine TextR.assign rfl ?_
  refine TextR.done (.cons rfl (.cons rfl .nil)) ?_
  refine Wp.seq ?_
  refine Wp.seq ?_
  refine Wp.text [0, 1, 5] rfl rfl ?_ -- region 1
  refine TextR.assign rfl ?_
  refine TextR.done (.cons rfl (.cons rfl (.cons rfl .nil))) ?_
  obtain ⟨z1, hz1, h⟩ := bind_some h
  refine Wp.fragR (fun S => ∃ z3, z1 = .inr z3 ∧ ∃ S', St.Weak ⟨Try.prog, 18, Γ⟩ S S' ∧ S' = ⟨[], []⟩) (fun S => ∃ v, z1 = .inl v ∧ Ret Try.prog Try.f43 (fun r' _ => r' = .c (B v)) .ret S) ?_ ?_ ?_
  · replace h := hz1
    refine Wp.block ?_
    refine Wp.weak (keepW (live := [0, 1, 5]) (.cons rfl (.cons rfl (.cons rfl .nil)))) ?_
    refine Wp.loop (fun m S => ∃ s5_1, narthexref01_Has_L1 N a0 a1 m s5_1 = some z1 ∧ S = ⟨[(0, .c (.slv (a0.map eI))), (1, .c (I a1)), (5, .c (I s5_1))], []⟩) N ⟨_, h, rfl⟩ ?_
    rintro m1 _ ⟨s5_1, h, rfl⟩
    cases m1 with
    | zero => rw [narthexref01_Has_L1.eq_1] at h; cases h
    | succ m1 =>
    rw [narthexref01_Has_L1.eq_2] at h
    refine Wp.seq ?_
    refine Wp.seq ?_
    refine Wp.text [0, 1, 5, 9] rfl rfl ?_ -- region 2
    refine TextR.move rfl ?_
    refine TextR.move rfl ?_
    refine TextR.lenM us25 rfl rfl ?_
    refine TextR.int rfl rfl rfl ?_
    refine TextR.done (.cons rfl (.cons rfl (.cons rfl (.cons rfl .nil)))) ?_
    refine Wp.condM h rfl (fun hc2 h => ?_) (fun hc2 h => ?_)
    · refine Wp.skip ?_
      refine Wp.seq ?_
      refine Wp.block ?_
      refine Wp.seq ?_
      obtain ⟨x4, hx4, h⟩ := bind_some h
      refine Wp.text [0, 1, 5, 17] rfl rfl ?_ -- region 4
      refine TextR.move rfl ?_
      refine TextR.move rfl ?_
      refine TextR.indexA se25 rfl rfl rfl hx4 rfl ?_
      refine TextR.load1M tk3 rfl (at_get hx4) rfl ?_
      refine TextR.move rfl ?_
      refine TextR.int rfl rfl rfl ?_
      refine TextR.done (.cons rfl (.cons rfl (.cons rfl (.cons rfl .nil)))) ?_
      refine Wp.condM h rfl (fun hc3 h => ?_) (fun hc3 h => ?_)
      · refine Wp.seq ?_
        refine Wp.text [4] rfl rfl ?_ -- region 5
        refine TextR.assign rfl ?_
        refine TextR.done (.cons rfl .nil) ?_
        refine Wp.ret ?_
        exact ⟨_, (Option.some.inj h).symm, Ret.one rfl (resV_tmp rfl) rfl⟩
      · refine Wp.skip ?_
        refine Wp.text [0, 1, 5] rfl rfl ?_ -- region 3
        refine TextR.move rfl ?_
        refine TextR.int rfl rfl rfl ?_
        refine TextR.assign rfl ?_
        refine TextR.done (.cons rfl (.cons rfl (.cons rfl .nil))) ?_
        exact ⟨m1, Nat.lt_succ_self _, _, (keepW (live := [0, 1, 5]) (.cons rfl (.cons rfl (.cons rfl .nil)))), _, h, rfl⟩
    · refine Wp.exit ?_
      exact ⟨_, (Option.some.inj h).symm, _, (keepW (live := []) .nil), rfl⟩
  · rintro _ ⟨z3, rfl, _, hw, rfl⟩
    dsimp only at h
    clear hz1
    refine Wp.weak hw ?_
    refine Wp.seq ?_
    refine Wp.text [4] rfl rfl ?_ -- region 6
    refine TextR.assign rfl ?_
    refine TextR.done (.cons rfl .nil) ?_
    refine Wp.ret ?_
    obtain rfl := Option.some.inj h
    exact Ret.one rfl (resV_tmp rfl) rfl
  · rintro S' ⟨r2, rfl, hR⟩
    dsimp only at h
    obtain rfl := Option.some.inj h
    exact hR
theorem c_narthexref01_Has (N : Nat) (a0 : List Int) (a1 : Int) (r : Bool) (h : narthexref01_Has N a0 a1 = some r) (H : List Ob) : DCall Try.prog 43 [.c (.slv (a0.map eI)), .c (I a1)] H (.c (B r)) := DCall.lift (by first | rfl | simp [-List.map_set]) (by first | rfl | simp [-List.map_set]) (fun _ => by simp [-List.map_set]) (w_narthexref01_Has N a0 a1 r h) H
-- narthex/narthexref04.free
theorem w_narthexref04_free (N : Nat) (a0 : List TArc) (a1 : List Int) (a2 : Int) (r : Bool) (h : narthexref04_free N a0 a1 a2 = some r) : Nx.Call Try.prog 53 [.c (.slv (a0.map eArc)), .c (.slv (a1.map eI)), .c (I a2)] [] fun r' _ => r' = .c (B r) := by
  refine Nx.Call.of_body Try.func53 rfl en53 Try.ntmps53 rfl (fun Γ hok => ?_)
  unfold narthexref04_free at h
  refine Wp.seq ?_
  refine Wp.text [0, 1, 2] rfl rfl ?_ -- region 0
  refine TextR.assign rfl ?_
  refine TextR.done (.cons rfl (.cons rfl (.cons rfl .nil))) ?_
  refine Wp.seq ?_
  refine Wp.seq ?_
  refine Wp.text [0, 1, 2, 7] rfl rfl ?_ -- region 1
  refine TextR.assign rfl ?_
  refine TextR.done (.cons rfl (.cons rfl (.cons rfl (.cons rfl .nil)))) ?_
  obtain ⟨z1, hz1, h⟩ := bind_some h
  refine Wp.fragR (fun S => ∃ z3, z1 = .inr z3 ∧ ∃ S', St.Weak ⟨Try.prog, 31, Γ⟩ S S' ∧ S' = ⟨[], []⟩) (fun S => ∃ v, z1 = .inl v ∧ Ret Try.prog Try.f53 (fun r' _ => r' = .c (B v)) .ret S) ?_ ?_ ?_
  · replace h := hz1
    refine Wp.block ?_
    refine Wp.weak (keepW (live := [0, 1, 2, 7]) (.cons rfl (.cons rfl (.cons rfl (.cons rfl .nil))))) ?_
    refine Wp.loop (fun m S => ∃ s7_1, narthexref04_free_L1 N a0 a1 a2 m s7_1 = some z1 ∧ S = ⟨[(0, .c (.slv (a0.map eArc))), (1, .c (.slv (a1.map eI))), (2, .c (I a2)), (7, .c (I s7_1))], []⟩) N ⟨_, h, rfl⟩ ?_
    rintro m1 _ ⟨s7_1, h, rfl⟩
    cases m1 with
    | zero => rw [narthexref04_free_L1.eq_1] at h; cases h
    | succ m1 =>
    rw [narthexref04_free_L1.eq_2] at h
    refine Wp.seq ?_
    refine Wp.seq ?_
    refine Wp.text [0, 1, 2, 7, 11] rfl rfl ?_ -- region 2
    refine TextR.move rfl ?_
    refine TextR.move rfl ?_
    refine TextR.lenM us22 rfl rfl ?_
    refine TextR.int rfl rfl rfl ?_
    refine TextR.done (.cons rfl (.cons rfl (.cons rfl (.cons rfl (.cons rfl .nil))))) ?_
    refine Wp.condM h rfl (fun hc2 h => ?_) (fun hc2 h => ?_)
    · refine Wp.skip ?_
      refine Wp.seq ?_
      refine Wp.block ?_
      refine Wp.seq ?_
      obtain ⟨x4, hx4, h⟩ := bind_some h
      obtain ⟨x5, hx5, h⟩ := bind_some h
      obtain ⟨y6, hy6, h⟩ := bind_some h
      refine Wp.go false none [[], [], [], [], [], [], [], [], [(21, true)], [(21, true)], [(21, true)], [(21, true)], [(21, true)], [(21, true)], [(21, true)], [(21, true)], []] [] [0, 1, 2, 7, 30] mixed rfl rfl (by kernel_rfl) ?_ -- region 4
      refine RunR.move rfl rfl rfl ?_
      refine RunR.move rfl rfl rfl ?_
      refine RunR.indexA se22 rfl rfl rfl rfl rfl hx4 rfl ?_
      refine RunR.fieldAddr fo37_1 rfl rfl rfl rfl rfl ?_
      refine RunR.load1M tk3 rfl rfl rfl (at_get hx4) rfl ?_
      refine RunR.move rfl rfl rfl ?_
      refine RunR.int rfl rfl rfl rfl rfl ?_
      refine RunR.move rfl rfl rfl ?_
      refine RunR.move rfl rfl rfl ?_
      refine RunR.move rfl rfl rfl ?_
      refine RunR.move rfl rfl rfl ?_
      refine RunR.indexAG se22 rfl rfl rfl rfl rfl (ifPos hx5 gT) (ifAt hx5 gT) rfl ?_
      refine RunR.fieldAddr fo37_0 rfl rfl rfl rfl rfl ?_
      refine RunR.load1G tk3 rfl rfl rfl (ifAt hx5 gT) rfl ?_
      refine RunR.callG rfl rfl rfl (fun hb H => c_narthexref01_Has N a1 x5.From y6 (ifT hy6 gT hb) H) ?_
      refine RunR.not rfl rfl rfl ?_
      refine RunR.pickAnd rfl rfl rfl rfl ?_
      refine RunR.doneQ (.cons rfl (.cons rfl (.cons rfl (.cons rfl (.cons rfl .nil))))) ?_
      refine Wp.condM h rfl (fun hc3 h => ?_) (fun hc3 h => ?_)
      · refine Wp.seq ?_
        refine Wp.text [6] rfl rfl ?_ -- region 5
        refine TextR.assign rfl ?_
        refine TextR.done (.cons rfl .nil) ?_
        refine Wp.ret ?_
        exact ⟨_, (Option.some.inj h).symm, Ret.one rfl (resV_tmp rfl) rfl⟩
      · refine Wp.skip ?_
        refine Wp.text [0, 1, 2, 7] rfl rfl ?_ -- region 3
        refine TextR.move rfl ?_
        refine TextR.int rfl rfl rfl ?_
        refine TextR.assign rfl ?_
        refine TextR.done (.cons rfl (.cons rfl (.cons rfl (.cons rfl .nil)))) ?_
        exact ⟨m1, Nat.lt_succ_self _, _, (keepW (live := [0, 1, 2, 7]) (.cons rfl (.cons rfl (.cons rfl (.cons rfl .nil))))), _, h, rfl⟩
    · refine Wp.exit ?_
      exact ⟨_, (Option.some.inj h).symm, _, (keepW (live := []) .nil), rfl⟩
  · rintro _ ⟨z3, rfl, _, hw, rfl⟩
    dsimp only at h
    clear hz1
    refine Wp.weak hw ?_
    refine Wp.seq ?_
    refine Wp.text [6] rfl rfl ?_ -- region 6
    refine TextR.assign rfl ?_
    refine TextR.done (.cons rfl .nil) ?_
    refine Wp.ret ?_
    obtain rfl := Option.some.inj h
    exact Ret.one rfl (resV_tmp rfl) rfl
  · rintro S' ⟨r2, rfl, hR⟩
    dsimp only at h
    obtain rfl := Option.some.inj h
    exact hR
theorem c_narthexref04_free (N : Nat) (a0 : List TArc) (a1 : List Int) (a2 : Int) (r : Bool) (h : narthexref04_free N a0 a1 a2 = some r) (H : List Ob) : DCall Try.prog 53 [.c (.slv (a0.map eArc)), .c (.slv (a1.map eI)), .c (I a2)] H (.c (B r)) := DCall.lift (by first | rfl | simp [-List.map_set]) (by first | rfl | simp [-List.map_set]) (fun _ => by simp [-List.map_set]) (w_narthexref04_free N a0 a1 a2 r h) H
-- narthex/narthexref04.Told
theorem w_narthexref04_Told (N : Nat) (a0 : Int) (a1 : List TArc) (r : (List Int)) (h : narthexref04_Told N a0 a1 = some r) : Nx.Call Try.prog 34 [.c (I a0), .c (.slv (a1.map eArc))] [] fun r' _ => r' = .c (.slv (r.map eI)) := by
  refine Nx.Call.of_body Try.func34 rfl en34 Try.ntmps34 rfl (fun Γ hok => ?_)
  unfold narthexref04_Told at h
  refine Wp.seq ?_
  refine Wp.text [0, 1] rfl rfl ?_ -- region 0
  refine TextR.assign rfl ?_
  refine TextR.done (.cons rfl (.cons rfl .nil)) ?_
  refine Wp.seq ?_
  refine Wp.text [0, 1, 5] rfl rfl ?_ -- region 1
  refine TextR.buildSlice  0 se25 rfl rfl rfl .nil ?_
  refine TextR.assign rfl ?_
  refine TextR.done (.cons rfl (.cons rfl (.cons rfl .nil))) ?_
  refine Wp.seq ?_
  refine Wp.seq ?_
  refine Wp.text [0, 1, 5, 6] rfl rfl ?_ -- region 2
  refine TextR.assign rfl ?_
  refine TextR.done (.cons rfl (.cons rfl (.cons rfl (.cons rfl .nil)))) ?_
  obtain ⟨z1, hz1, h⟩ := bind_some h
  refine Wp.fragR (fun S => ∃ z3, z1 = .inr z3 ∧ ∃ wz3_0, ∃ S', St.Weak ⟨Try.prog, 40, Γ⟩ S S' ∧ S' = ⟨[(5, .c (.sl 0 wz3_0 0 z3.length))], [.live wz3_0 1 (z3.map eI)]⟩) (fun S => ∃ v, z1 = .inl v ∧ Ret Try.prog Try.f34 (fun r' _ => r' = .c (.slv (v.map eI))) .ret S) ?_ ?_ ?_
  · replace h := hz1
    refine Wp.block ?_
    refine Wp.weak (keepW (live := [0, 1, 5, 6]) (.cons rfl (.cons rfl (.cons rfl (.cons rfl .nil))))) ?_
    refine Wp.loop (fun m S => ∃ l0_1, ∃ s6_1, ∃ wh0_1, narthexref04_Told_L1 N a0 a1 m l0_1 s6_1 = some z1 ∧ S = ⟨[(0, .c (I a0)), (1, .c (.slv (a1.map eArc))), (5, .c (.sl 0 wh0_1 0 l0_1.length)), (6, .c (I s6_1))], [.live wh0_1 1 (l0_1.map eI)]⟩) N ⟨_, _, _, h, rfl⟩ ?_
    rintro m1 _ ⟨l0_1, s6_1, wh0_1, h, rfl⟩
    cases m1 with
    | zero => rw [narthexref04_Told_L1.eq_1] at h; cases h
    | succ m1 =>
    rw [narthexref04_Told_L1.eq_2] at h
    refine Wp.seq ?_
    refine Wp.seq ?_
    refine Wp.text [0, 1, 5, 6, 11] rfl rfl ?_ -- region 3
    refine TextR.move rfl ?_
    refine TextR.move rfl ?_
    refine TextR.int rfl rfl rfl ?_
    refine TextR.done (.cons rfl (.cons rfl (.cons rfl (.cons rfl (.cons rfl .nil))))) ?_
    refine Wp.condM h rfl (fun hc2 h => ?_) (fun hc2 h => ?_)
    · refine Wp.skip ?_
      refine Wp.seq ?_
      refine Wp.block ?_
      refine Wp.seq ?_
      refine Wp.text [0, 1, 5, 6, 7] rfl rfl ?_ -- region 5
      refine TextR.assign rfl ?_
      refine TextR.done (.cons rfl (.cons rfl (.cons rfl (.cons rfl (.cons rfl .nil))))) ?_
      refine Wp.seq ?_
      obtain ⟨z4, hz4, h⟩ := bind_some h
      refine Wp.fragN (fun S => ∃ S', St.Weak ⟨Try.prog, 40, Γ⟩ S S' ∧ S' = ⟨[(0, .c (I a0)), (1, .c (.slv (a1.map eArc))), (5, .c (.sl 0 wh0_1 0 l0_1.length)), (6, .c (I s6_1)), (7, .c (I z4))], [.live wh0_1 1 (l0_1.map eI)]⟩) ?_ ?_
      · replace h := hz4
        refine Wp.block ?_
        refine Wp.weak (keepW (live := [0, 1, 5, 6, 7]) (.cons rfl (.cons rfl (.cons rfl (.cons rfl (.cons rfl .nil)))))) ?_
        refine Wp.loop (fun m S => ∃ s7_2, narthexref04_Told_L2 N a0 a1 l0_1 m s7_2 = some z4 ∧ S = ⟨[(0, .c (I a0)), (1, .c (.slv (a1.map eArc))), (5, .c (.sl 0 wh0_1 0 l0_1.length)), (6, .c (I s6_1)), (7, .c (I s7_2))], [.live wh0_1 1 (l0_1.map eI)]⟩) N ⟨_, h, rfl⟩ ?_
        rintro m2 _ ⟨s7_2, h, rfl⟩
        cases m2 with
        | zero => rw [narthexref04_Told_L2.eq_1] at h; cases h
        | succ m2 =>
        rw [narthexref04_Told_L2.eq_2] at h
        refine Wp.seq ?_
        refine Wp.seq ?_
        obtain ⟨y5, hy5, h⟩ := bind_some h
        obtain ⟨y6, hy6, h⟩ := bind_some h
        refine Wp.go false none [[], [], [], [], [(17, true)], [(17, true)], [(17, true)], [(17, true)], [(21, false), (17, true)], [(21, false), (17, true)], [(21, false), (17, true)], [(21, false), (17, true)], [(21, false), (17, true)], [(17, true)], []] [] [0, 1, 5, 6, 7, 28] mixed rfl rfl (by kernel_rfl) ?_ -- region 6
        refine RunR.move rfl rfl rfl ?_
        refine RunR.move rfl rfl rfl ?_
        refine RunR.int rfl rfl rfl rfl rfl ?_
        refine RunR.move rfl rfl rfl ?_
        refine RunR.move rfl rfl rfl ?_
        refine RunR.move rfl rfl rfl ?_
        refine RunR.callH rfl rfl rfl rfl (fun hb => (DCall.borrow (fs := [.c (.slv (l0_1.map eI)), .c (I s7_2)]) (by simp [-List.map_set, obj, List.take_of_length_le]) (by first | rfl | simp [-List.map_set]) rfl (w_narthexref01_Has N l0_1 s7_2 y5 (ifT hy5 gT hb)))) ?_
        refine RunR.move rfl rfl rfl ?_
        refine RunR.move rfl rfl rfl ?_
        refine RunR.move rfl rfl rfl ?_
        refine RunR.move rfl rfl rfl ?_
        refine RunR.callH rfl rfl rfl rfl (fun hb => (DCall.borrow (fs := [.c (.slv (a1.map eArc)), .c (.slv (l0_1.map eI)), .c (I s7_2)]) (by simp [-List.map_set, obj, List.take_of_length_le]) (by first | rfl | simp [-List.map_set]) rfl (w_narthexref04_free N a1 l0_1 s7_2 y6 (ifT hy6 (fun hb => (gAnd (gT (gN hb)) (gF hb))) hb)))) ?_
        refine RunR.not rfl rfl rfl ?_
        refine RunR.pickOr rfl rfl rfl rfl ?_
        refine RunR.pickAnd rfl rfl rfl rfl ?_
        refine RunR.doneQ (.cons rfl (.cons rfl (.cons rfl (.cons rfl (.cons rfl (.cons rfl .nil)))))) ?_
        refine Wp.condM h rfl (fun hc4 h => ?_) (fun hc4 h => ?_)
        · refine Wp.skip ?_
          refine Wp.block ?_
          refine Wp.text [0, 1, 5, 6, 7] rfl rfl ?_ -- region 7
          refine TextR.move rfl ?_
          refine TextR.int rfl rfl rfl ?_
          refine TextR.assign rfl ?_
          refine TextR.done (.cons rfl (.cons rfl (.cons rfl (.cons rfl (.cons rfl .nil))))) ?_
          exact ⟨m2, Nat.lt_succ_self _, _, (keepW (live := [0, 1, 5, 6, 7]) (.cons rfl (.cons rfl (.cons rfl (.cons rfl (.cons rfl .nil)))))), _, h, rfl⟩
        · refine Wp.exit ?_
          obtain rfl := Option.some.inj h
          exact ⟨_, (keepW (live := [0, 1, 5, 6, 7]) (.cons rfl (.cons rfl (.cons rfl (.cons rfl (.cons rfl .nil)))))), rfl⟩
      rintro _ ⟨S', hw, rfl⟩
      clear hz4
      refine Wp.weak hw ?_
      refine Wp.seq ?_
      refine Wp.seq ?_
      refine Wp.text [0, 1, 5, 6, 7, 33] rfl rfl ?_ -- region 8
      refine TextR.move rfl ?_
      refine TextR.move rfl ?_
      refine TextR.int rfl rfl rfl ?_
      refine TextR.done (.cons rfl (.cons rfl (.cons rfl (.cons rfl (.cons rfl (.cons rfl .nil)))))) ?_
      refine Wp.condM h rfl (fun hc3 h => ?_) (fun hc3 h => ?_)
      · refine Wp.seq ?_
        refine Wp.text [4] rfl rfl ?_ -- region 9
        refine TextR.move rfl ?_
        refine TextR.assign rfl ?_
        refine TextR.done (.cons rfl .nil) ?_
        refine Wp.weak (keepW (live := [4] ) (.cons rfl .nil)) ?_
        refine Wp.weak (freezeW (h := 0) (ver := wh0_1) (rows := l0_1.map eI) (e' := [(4, .c (.slv (l0_1.map eI)))]) (H' := [.dead]) (obj_of rfl) (by first | rfl | simp [-List.map_set]) (by first | rfl | simp [-List.map_set])) ?_
        refine Wp.ret ?_
        exact ⟨_, (Option.some.inj h).symm, Ret.one rfl (resV_tmp rfl) rfl⟩
      · refine Wp.skip ?_
        obtain ⟨x7, hx7, h⟩ := bind_some h
        refine Wp.text [0, 1, 5, 6] rfl rfl ?_ -- region 10
        refine TextR.move rfl ?_
        refine TextR.move rfl ?_
        refine TextR.buildSlice (rows := [z4].map eI) 1 se25 rfl rfl rfl (.cons .nil) ?_
        refine TextR.appendM eI l0_1 [z4] x7 (app_eq hx7) se25 rfl (obj_of rfl) rfl (view_whole (f := eI) (xs := [z4]) rfl) (fun _ => rfl) rfl (app_len hx7) .zero ?_
        refine TextR.assign rfl ?_
        refine TextR.done (.cons rfl (.cons rfl (.cons rfl (.cons rfl .nil)))) ?_
        refine Wp.text [0, 1, 5, 6] rfl rfl ?_ -- region 4
        refine TextR.move rfl ?_
        refine TextR.int rfl rfl rfl ?_
        refine TextR.assign rfl ?_
        refine TextR.done (.cons rfl (.cons rfl (.cons rfl (.cons rfl .nil)))) ?_
        exact ⟨m1, Nat.lt_succ_self _, _, (St.Weak.trans (keepW (live := [0, 1, 5, 6]) (.cons rfl (.cons rfl (.cons rfl (.cons rfl .nil))))) (pickT (e' := [(0, .c (I a0)), (1, .c (.slv (a1.map eArc))), (5, .c (.sl 0 (wh0_1 + 1) 0 x7.length)), (6, .c (I (w64 (s6_1 + 1))))]) (H' := [.live (wh0_1 + 1) 1 (x7.map eI)]) [0] [0, 0] 0 hok.len.symm rfl rfl (by decide) (by first | rfl | simp [-List.map_set]) (by first | rfl | simp [-List.map_set]) (by first | rfl | simp [-List.map_set]) (by first | rfl | simp [-List.map_set]))), _, _, _, h, rfl⟩
    · refine Wp.exit ?_
      exact ⟨_, (Option.some.inj h).symm, _, _, (keepW (live := [5]) (.cons rfl .nil)), rfl⟩
  · rintro _ ⟨z3, rfl, wz3_0, _, hw, rfl⟩
    dsimp only at h
    clear hz1
    refine Wp.weak hw ?_
    refine Wp.seq ?_
    refine Wp.text [4] rfl rfl ?_ -- region 11
    refine TextR.move rfl ?_
    refine TextR.assign rfl ?_
    refine TextR.done (.cons rfl .nil) ?_
    refine Wp.weak (keepW (live := [4] ) (.cons rfl .nil)) ?_
    refine Wp.weak (freezeW (h := 0) (ver := wz3_0) (rows := z3.map eI) (e' := [(4, .c (.slv (z3.map eI)))]) (H' := [.dead]) (obj_of rfl) (by first | rfl | simp [-List.map_set]) (by first | rfl | simp [-List.map_set])) ?_
    refine Wp.ret ?_
    obtain rfl := Option.some.inj h
    exact Ret.one rfl (resV_tmp rfl) rfl
  · rintro S' ⟨r2, rfl, hR⟩
    dsimp only at h
    obtain rfl := Option.some.inj h
    exact hR
theorem c_narthexref04_Told (N : Nat) (a0 : Int) (a1 : List TArc) (r : (List Int)) (h : narthexref04_Told N a0 a1 = some r) (H : List Ob) : DCall Try.prog 34 [.c (I a0), .c (.slv (a1.map eArc))] H (.c (.slv (r.map eI))) := DCall.lift (by first | rfl | simp [-List.map_set]) (by first | rfl | simp [-List.map_set]) (fun _ => by simp [-List.map_set]) (w_narthexref04_Told N a0 a1 r h) H
-- narthex/narthexref04.Order
theorem w_narthexref04_Order (N : Nat) (a0 : Int) (a1 : List TArc) (r : (List Int) × Bool) (h : narthexref04_Order N a0 a1 = some r) : Nx.Call Try.prog 14 [.c (I a0), .c (.slv (a1.map eArc))] [] fun r' _ => r' = .tup [.c (.slv (r.1.map eI)), .c (B r.2)] := by
  refine Nx.Call.of_body Try.func14 rfl en14 Try.ntmps14 rfl (fun Γ hok => ?_)
  unfold narthexref04_Order at h
  refine Wp.seq ?_
  refine Wp.text [0, 1] rfl rfl ?_ -- region 0
  refine TextR.assign rfl ?_
  refine TextR.assign rfl ?_
  refine TextR.done (.cons rfl (.cons rfl .nil)) ?_
  refine Wp.seq ?_
  refine Wp.seq ?_
  obtain ⟨y1, hy1, h⟩ := bind_some h
  refine Wp.text [0, 1, 10] rfl rfl ?_ -- region 1
  refine TextR.move rfl ?_
  refine TextR.move rfl ?_
  refine TextR.dcall rfl rfl (c_narthexref04_Check N a0 a1 y1 hy1 _) ?_
  refine TextR.not rfl ?_
  refine TextR.done (.cons rfl (.cons rfl (.cons rfl .nil))) ?_
  refine Wp.condM h rfl (fun hc1 h => ?_) (fun hc1 h => ?_)
  · refine Wp.seq ?_
    refine Wp.text [4, 5] rfl rfl ?_ -- region 2
    refine TextR.assign rfl ?_
    refine TextR.assign rfl ?_
    refine TextR.done (.cons rfl (.cons rfl .nil)) ?_
    refine Wp.weak (keepW (live := [4, 5] ) (.cons rfl (.cons rfl .nil))) ?_
    refine Wp.weak (nzT (e' := [(4, .c (.slv ([].map eI))), (5, .c (B false))]) (H' := []) (by first | rfl | simp [-List.map_set]) (by first | rfl | simp [-List.map_set])) ?_
    refine Wp.ret ?_
    obtain rfl := Option.some.inj h
    exact Ret.two rfl (resV_tmp rfl) (resV_tmp rfl) rfl
  · refine Wp.skip ?_
    refine Wp.seq ?_
    obtain ⟨y2, hy2, h⟩ := bind_some h
    refine Wp.text [0, 6] rfl rfl ?_ -- region 3
    refine TextR.move rfl ?_
    refine TextR.move rfl ?_
    refine TextR.dcall rfl rfl (c_narthexref04_Told N a0 a1 y2 hy2 _) ?_
    refine TextR.assign rfl ?_
    refine TextR.done (.cons rfl (.cons rfl .nil)) ?_
    refine Wp.seq ?_
    refine Wp.seq ?_
    refine Wp.text [6, 17] rfl rfl ?_ -- region 4
    refine TextR.move rfl ?_
    refine TextR.lenM us25 rfl rfl ?_
    refine TextR.move rfl ?_
    refine TextR.int rfl rfl rfl ?_
    refine TextR.done (.cons rfl (.cons rfl .nil)) ?_
    refine Wp.condM h rfl (fun hc2 h => ?_) (fun hc2 h => ?_)
    · refine Wp.seq ?_
      refine Wp.text [4, 5] rfl rfl ?_ -- region 5
      refine TextR.assign rfl ?_
      refine TextR.assign rfl ?_
      refine TextR.done (.cons rfl (.cons rfl .nil)) ?_
      refine Wp.weak (keepW (live := [4, 5] ) (.cons rfl (.cons rfl .nil))) ?_
      refine Wp.weak (nzT (e' := [(4, .c (.slv ([].map eI))), (5, .c (B false))]) (H' := []) (by first | rfl | simp [-List.map_set]) (by first | rfl | simp [-List.map_set])) ?_
      refine Wp.ret ?_
      obtain rfl := Option.some.inj h
      exact Ret.two rfl (resV_tmp rfl) (resV_tmp rfl) rfl
    · refine Wp.skip ?_
      refine Wp.seq ?_
      refine Wp.text [4, 5] rfl rfl ?_ -- region 6
      refine TextR.move rfl ?_
      refine TextR.assign rfl ?_
      refine TextR.assign rfl ?_
      refine TextR.done (.cons rfl (.cons rfl .nil)) ?_
      refine Wp.ret ?_
      obtain rfl := Option.some.inj h
      exact Ret.two rfl (resV_tmp rfl) (resV_tmp rfl) rfl
theorem c_narthexref04_Order (N : Nat) (a0 : Int) (a1 : List TArc) (r : (List Int) × Bool) (h : narthexref04_Order N a0 a1 = some r) (H : List Ob) : DCall Try.prog 14 [.c (I a0), .c (.slv (a1.map eArc))] H (.tup [.c (.slv (r.1.map eI)), .c (B r.2)]) := DCall.lift (by first | rfl | simp [-List.map_set]) (by first | rfl | simp [-List.map_set]) (fun _ => by simp [-List.map_set]) (w_narthexref04_Order N a0 a1 r h) H
-- narthex/narthexref04.Reach
theorem w_narthexref04_Reach (N : Nat) (a0 : Int) (a1 : List TArc) (a2 : Int) (r : (List Int)) (h : narthexref04_Reach N a0 a1 a2 = some r) : Nx.Call Try.prog 45 [.c (I a0), .c (.slv (a1.map eArc)), .c (I a2)] [] fun r' _ => r' = .c (.slv (r.map eI)) := by
  refine Nx.Call.of_body Try.func45 rfl en45 Try.ntmps45 rfl (fun Γ hok => ?_)
  unfold narthexref04_Reach at h
  refine Wp.seq ?_
  refine Wp.text [0, 1, 2] rfl rfl ?_ -- region 0
  refine TextR.assign rfl ?_
  refine TextR.done (.cons rfl (.cons rfl (.cons rfl .nil))) ?_
  refine Wp.seq ?_
  refine Wp.text [0, 1, 2, 7] rfl rfl ?_ -- region 1
  refine TextR.buildSlice  0 se25 rfl rfl rfl .nil ?_
  refine TextR.assign rfl ?_
  refine TextR.done (.cons rfl (.cons rfl (.cons rfl (.cons rfl .nil)))) ?_
  refine Wp.seq ?_
  refine Wp.seq ?_
  refine Wp.text [0, 1, 2, 7, 8] rfl rfl ?_ -- region 2
  refine TextR.assign rfl ?_
  refine TextR.done (.cons rfl (.cons rfl (.cons rfl (.cons rfl (.cons rfl .nil))))) ?_
  obtain ⟨z1, hz1, h⟩ := bind_some h
  refine Wp.fragN (fun S => ∃ wz1_0, ∃ S', St.Weak ⟨Try.prog, 55, Γ⟩ S S' ∧ S' = ⟨[(7, .c (.sl 0 wz1_0 0 z1.length))], [.live wz1_0 1 (z1.map eI)]⟩) ?_ ?_
  · replace h := hz1
    refine Wp.block ?_
    refine Wp.weak (keepW (live := [0, 1, 2, 7, 8]) (.cons rfl (.cons rfl (.cons rfl (.cons rfl (.cons rfl .nil)))))) ?_
    refine Wp.loop (fun m S => ∃ l0_1, ∃ s8_1, ∃ wh0_1, narthexref04_Reach_L1 N a0 a1 a2 m l0_1 s8_1 = some z1 ∧ S = ⟨[(0, .c (I a0)), (1, .c (.slv (a1.map eArc))), (2, .c (I a2)), (7, .c (.sl 0 wh0_1 0 l0_1.length)), (8, .c (I s8_1))], [.live wh0_1 1 (l0_1.map eI)]⟩) N ⟨_, _, _, h, rfl⟩ ?_
    rintro m1 _ ⟨l0_1, s8_1, wh0_1, h, rfl⟩
    cases m1 with
    | zero => rw [narthexref04_Reach_L1.eq_1] at h; cases h
    | succ m1 =>
    rw [narthexref04_Reach_L1.eq_2] at h
    refine Wp.seq ?_
    refine Wp.seq ?_
    refine Wp.text [0, 1, 2, 7, 8, 13] rfl rfl ?_ -- region 3
    refine TextR.move rfl ?_
    refine TextR.move rfl ?_
    refine TextR.int rfl rfl rfl ?_
    refine TextR.done (.cons rfl (.cons rfl (.cons rfl (.cons rfl (.cons rfl (.cons rfl .nil)))))) ?_
    refine Wp.condM h rfl (fun hc2 h => ?_) (fun hc2 h => ?_)
    · refine Wp.skip ?_
      refine Wp.seq ?_
      refine Wp.block ?_
      refine Wp.seq ?_
      refine Wp.text [0, 1, 2, 7, 8, 9] rfl rfl ?_ -- region 5
      refine TextR.assign rfl ?_
      refine TextR.done (.cons rfl (.cons rfl (.cons rfl (.cons rfl (.cons rfl (.cons rfl .nil)))))) ?_
      obtain ⟨z2, hz2, h⟩ := bind_some h
      refine Wp.fragN (fun S => ∃ wz2_0, ∃ S', St.Weak ⟨Try.prog, 55, Γ⟩ S S' ∧ S' = ⟨[(0, .c (I a0)), (1, .c (.slv (a1.map eArc))), (2, .c (I a2)), (7, .c (.sl 0 wz2_0 0 z2.length)), (8, .c (I s8_1))], [.live wz2_0 1 (z2.map eI)]⟩) ?_ ?_
      · replace h := hz2
        refine Wp.block ?_
        refine Wp.weak (keepW (live := [0, 1, 2, 7, 8, 9]) (.cons rfl (.cons rfl (.cons rfl (.cons rfl (.cons rfl (.cons rfl .nil))))))) ?_
        refine Wp.loop (fun m S => ∃ l0_2, ∃ s9_2, ∃ wh0_2, narthexref04_Reach_L2 N a1 a2 m l0_2 s9_2 = some z2 ∧ S = ⟨[(0, .c (I a0)), (1, .c (.slv (a1.map eArc))), (2, .c (I a2)), (7, .c (.sl 0 wh0_2 0 l0_2.length)), (8, .c (I s8_1)), (9, .c (I s9_2))], [.live wh0_2 1 (l0_2.map eI)]⟩) N ⟨_, _, _, h, rfl⟩ ?_
        rintro m2 _ ⟨l0_2, s9_2, wh0_2, h, rfl⟩
        cases m2 with
        | zero => rw [narthexref04_Reach_L2.eq_1] at h; cases h
        | succ m2 =>
        rw [narthexref04_Reach_L2.eq_2] at h
        refine Wp.seq ?_
        refine Wp.seq ?_
        refine Wp.text [0, 1, 2, 7, 8, 9, 19] rfl rfl ?_ -- region 6
        refine TextR.move rfl ?_
        refine TextR.move rfl ?_
        refine TextR.lenM us22 rfl rfl ?_
        refine TextR.int rfl rfl rfl ?_
        refine TextR.done (.cons rfl (.cons rfl (.cons rfl (.cons rfl (.cons rfl (.cons rfl (.cons rfl .nil))))))) ?_
        refine Wp.condM h rfl (fun hc4 h => ?_) (fun hc4 h => ?_)
        · refine Wp.skip ?_
          refine Wp.seq ?_
          refine Wp.block ?_
          refine Wp.seq ?_
          obtain ⟨x3, hx3, h⟩ := bind_some h
          obtain ⟨x4, hx4, h⟩ := bind_some h
          obtain ⟨y5, hy5, h⟩ := bind_some h
          refine Wp.go false none [[], [], [], [], [], [], [], [], [(29, false)], [(29, false)], [(29, false)], [(29, false)], [(29, false)], [(29, false)], [(29, false)], []] [] [0, 1, 2, 7, 8, 9, 37] mixed rfl rfl (by kernel_rfl) ?_ -- region 8
          refine RunR.move rfl rfl rfl ?_
          refine RunR.move rfl rfl rfl ?_
          refine RunR.indexA se22 rfl rfl rfl rfl rfl hx3 rfl ?_
          refine RunR.fieldAddr fo37_0 rfl rfl rfl rfl rfl ?_
          refine RunR.load1M tk3 rfl rfl rfl (at_get hx3) rfl ?_
          refine RunR.move rfl rfl rfl ?_
          refine RunR.int rfl rfl rfl rfl rfl ?_
          refine RunR.move rfl rfl rfl ?_
          refine RunR.move rfl rfl rfl ?_
          refine RunR.move rfl rfl rfl ?_
          refine RunR.move rfl rfl rfl ?_
          refine RunR.indexAG se22 rfl rfl rfl rfl rfl (ifPos hx4 gF) (ifAt hx4 gF) rfl ?_
          refine RunR.fieldAddr fo37_0 rfl rfl rfl rfl rfl ?_
          refine RunR.load1G tk3 rfl rfl rfl (ifAt hx4 gF) rfl ?_
          refine RunR.callH rfl rfl rfl rfl (fun hb => (DCall.borrow (fs := [.c (.slv (l0_2.map eI)), .c (I x4.From)]) (by simp [-List.map_set, obj, List.take_of_length_le]) (by first | rfl | simp [-List.map_set]) rfl (w_narthexref01_Has N l0_2 x4.From y5 (ifT hy5 gF hb)))) ?_
          refine RunR.pickOr rfl rfl rfl rfl ?_
          refine RunR.doneQ (.cons rfl (.cons rfl (.cons rfl (.cons rfl (.cons rfl (.cons rfl (.cons rfl .nil))))))) ?_
          refine Wp.condM h rfl (fun hc5 h => ?_) (fun hc5 h => ?_)
          · refine Wp.seq ?_
            obtain ⟨x6, hx6, h⟩ := bind_some h
            obtain ⟨y7, hy7, h⟩ := bind_some h
            refine Wp.text [0, 1, 2, 7, 8, 9, 45] rfl rfl ?_ -- region 9
            refine TextR.move rfl ?_
            refine TextR.move rfl ?_
            refine TextR.move rfl ?_
            refine TextR.indexA se22 rfl rfl rfl hx6 rfl ?_
            refine TextR.fieldAddr fo37_1 rfl rfl rfl ?_
            refine TextR.load1M tk3 rfl (at_get hx6) rfl ?_
            refine TextR.dcall rfl rfl (DCall.borrow (fs := [.c (.slv (l0_2.map eI)), .c (I x6.To)]) (by simp [-List.map_set, obj, List.take_of_length_le]) (by first | rfl | simp [-List.map_set]) rfl (w_narthexref01_Has N l0_2 x6.To y7 hy7)) ?_
            refine TextR.not rfl ?_
            refine TextR.done (.cons rfl (.cons rfl (.cons rfl (.cons rfl (.cons rfl (.cons rfl (.cons rfl .nil))))))) ?_
            refine Wp.condM h rfl (fun hc6 h => ?_) (fun hc6 h => ?_)
            · obtain ⟨x8, hx8, h⟩ := bind_some h
              obtain ⟨x9, hx9, h⟩ := bind_some h
              refine Wp.text [0, 1, 2, 7, 8, 9] rfl rfl ?_ -- region 10
              refine TextR.move rfl ?_
              refine TextR.move rfl ?_
              refine TextR.move rfl ?_
              refine TextR.indexA se22 rfl rfl rfl hx8 rfl ?_
              refine TextR.fieldAddr fo37_1 rfl rfl rfl ?_
              refine TextR.load1M tk3 rfl (at_get hx8) rfl ?_
              refine TextR.buildSlice (rows := [x8.To].map eI) 1 se25 rfl rfl rfl (.cons .nil) ?_
              refine TextR.appendM eI l0_2 [x8.To] x9 (app_eq hx9) se25 rfl (obj_of rfl) rfl (view_whole (f := eI) (xs := [x8.To]) rfl) (fun _ => rfl) rfl (app_len hx9) .zero ?_
              refine TextR.assign rfl ?_
              refine TextR.done (.cons rfl (.cons rfl (.cons rfl (.cons rfl (.cons rfl (.cons rfl .nil)))))) ?_
              refine Wp.text [0, 1, 2, 7, 8, 9] rfl rfl ?_ -- region 7
              refine TextR.move rfl ?_
              refine TextR.int rfl rfl rfl ?_
              refine TextR.assign rfl ?_
              refine TextR.done (.cons rfl (.cons rfl (.cons rfl (.cons rfl (.cons rfl (.cons rfl .nil)))))) ?_
              exact ⟨m2, Nat.lt_succ_self _, _, (St.Weak.trans (keepW (live := [0, 1, 2, 7, 8, 9]) (.cons rfl (.cons rfl (.cons rfl (.cons rfl (.cons rfl (.cons rfl .nil))))))) (pickT (e' := [(0, .c (I a0)), (1, .c (.slv (a1.map eArc))), (2, .c (I a2)), (7, .c (.sl 0 (wh0_2 + 1) 0 x9.length)), (8, .c (I s8_1)), (9, .c (I (w64 (s9_2 + 1))))]) (H' := [.live (wh0_2 + 1) 1 (x9.map eI)]) [0] [0, 0] 0 hok.len.symm rfl rfl (by decide) (by first | rfl | simp [-List.map_set]) (by first | rfl | simp [-List.map_set]) (by first | rfl | simp [-List.map_set]) (by first | rfl | simp [-List.map_set]))), _, _, _, h, rfl⟩
            · refine Wp.skip ?_
              refine Wp.text [0, 1, 2, 7, 8, 9] rfl rfl ?_ -- region 7
              refine TextR.move rfl ?_
              refine TextR.int rfl rfl rfl ?_
              refine TextR.assign rfl ?_
              refine TextR.done (.cons rfl (.cons rfl (.cons rfl (.cons rfl (.cons rfl (.cons rfl .nil)))))) ?_
              exact ⟨m2, Nat.lt_succ_self _, _, (keepW (live := [0, 1, 2, 7, 8, 9]) (.cons rfl (.cons rfl (.cons rfl (.cons rfl (.cons rfl (.cons rfl .nil))))))), _, _, _, h, rfl⟩
          · refine Wp.skip ?_
            refine Wp.text [0, 1, 2, 7, 8, 9] rfl rfl ?_ -- region 7
            refine TextR.move rfl ?_
            refine TextR.int rfl rfl rfl ?_
            refine TextR.assign rfl ?_
            refine TextR.done (.cons rfl (.cons rfl (.cons rfl (.cons rfl (.cons rfl (.cons rfl .nil)))))) ?_
            exact ⟨m2, Nat.lt_succ_self _, _, (keepW (live := [0, 1, 2, 7, 8, 9]) (.cons rfl (.cons rfl (.cons rfl (.cons rfl (.cons rfl (.cons rfl .nil))))))), _, _, _, h, rfl⟩
        · refine Wp.exit ?_
          obtain rfl := Option.some.inj h
          exact ⟨_, _, (keepW (live := [0, 1, 2, 7, 8]) (.cons rfl (.cons rfl (.cons rfl (.cons rfl (.cons rfl .nil)))))), rfl⟩
      rintro _ ⟨wz2_0, S', hw, rfl⟩
      clear hz2
      refine Wp.weak hw ?_
      refine Wp.text [0, 1, 2, 7, 8] rfl rfl ?_ -- region 4
      refine TextR.move rfl ?_
      refine TextR.int rfl rfl rfl ?_
      refine TextR.assign rfl ?_
      refine TextR.done (.cons rfl (.cons rfl (.cons rfl (.cons rfl (.cons rfl .nil))))) ?_
      exact ⟨m1, Nat.lt_succ_self _, _, (keepW (live := [0, 1, 2, 7, 8]) (.cons rfl (.cons rfl (.cons rfl (.cons rfl (.cons rfl .nil)))))), _, _, _, h, rfl⟩
    · refine Wp.exit ?_
      obtain rfl := Option.some.inj h
      exact ⟨_, _, (keepW (live := [7]) (.cons rfl .nil)), rfl⟩
  rintro _ ⟨wz1_0, S', hw, rfl⟩
  clear hz1
  refine Wp.weak hw ?_
  refine Wp.seq ?_
  refine Wp.text [6] rfl rfl ?_ -- region 11
  refine TextR.move rfl ?_
  refine TextR.assign rfl ?_
  refine TextR.done (.cons rfl .nil) ?_
  refine Wp.weak (keepW (live := [6] ) (.cons rfl .nil)) ?_
  refine Wp.weak (freezeW (h := 0) (ver := wz1_0) (rows := z1.map eI) (e' := [(6, .c (.slv (z1.map eI)))]) (H' := [.dead]) (obj_of rfl) (by first | rfl | simp [-List.map_set]) (by first | rfl | simp [-List.map_set])) ?_
  refine Wp.ret ?_
  obtain rfl := Option.some.inj h
  exact Ret.one rfl (resV_tmp rfl) rfl
theorem c_narthexref04_Reach (N : Nat) (a0 : Int) (a1 : List TArc) (a2 : Int) (r : (List Int)) (h : narthexref04_Reach N a0 a1 a2 = some r) (H : List Ob) : DCall Try.prog 45 [.c (I a0), .c (.slv (a1.map eArc)), .c (I a2)] H (.c (.slv (r.map eI))) := DCall.lift (by first | rfl | simp [-List.map_set]) (by first | rfl | simp [-List.map_set]) (fun _ => by simp [-List.map_set]) (w_narthexref04_Reach N a0 a1 a2 r h) H
-- narthex/narthexref04.Round
theorem w_narthexref04_Round (N : Nat) (a0 : Int) (a1 : List TArc) (r : Bool) (h : narthexref04_Round N a0 a1 = some r) : Nx.Call Try.prog 29 [.c (I a0), .c (.slv (a1.map eArc))] [] fun r' _ => r' = .c (B r) := by
  refine Nx.Call.of_body Try.func29 rfl en29 Try.ntmps29 rfl (fun Γ hok => ?_)
  unfold narthexref04_Round at h
  refine Wp.seq ?_
  refine Wp.text [0, 1] rfl rfl ?_ -- region 0
  refine TextR.assign rfl ?_
  refine TextR.done (.cons rfl (.cons rfl .nil)) ?_
  refine Wp.seq ?_
  refine Wp.seq ?_
  refine Wp.text [0, 1, 5] rfl rfl ?_ -- region 1
  refine TextR.assign rfl ?_
  refine TextR.done (.cons rfl (.cons rfl (.cons rfl .nil))) ?_
  obtain ⟨z1, hz1, h⟩ := bind_some h
  refine Wp.fragR (fun S => ∃ z3, z1 = .inr z3 ∧ ∃ S', St.Weak ⟨Try.prog, 17, Γ⟩ S S' ∧ S' = ⟨[], []⟩) (fun S => ∃ v, z1 = .inl v ∧ Ret Try.prog Try.f29 (fun r' _ => r' = .c (B v)) .ret S) ?_ ?_ ?_
  · replace h := hz1
    refine Wp.block ?_
    refine Wp.weak (keepW (live := [0, 1, 5]) (.cons rfl (.cons rfl (.cons rfl .nil)))) ?_
    refine Wp.loop (fun m S => ∃ s5_1, narthexref04_Round_L1 N a0 a1 m s5_1 = some z1 ∧ S = ⟨[(0, .c (I a0)), (1, .c (.slv (a1.map eArc))), (5, .c (I s5_1))], []⟩) N ⟨_, h, rfl⟩ ?_
    rintro m1 _ ⟨s5_1, h, rfl⟩
    cases m1 with
    | zero => rw [narthexref04_Round_L1.eq_1] at h; cases h
    | succ m1 =>
    rw [narthexref04_Round_L1.eq_2] at h
    refine Wp.seq ?_
    refine Wp.seq ?_
    refine Wp.text [0, 1, 5, 8] rfl rfl ?_ -- region 2
    refine TextR.move rfl ?_
    refine TextR.move rfl ?_
    refine TextR.int rfl rfl rfl ?_
    refine TextR.done (.cons rfl (.cons rfl (.cons rfl (.cons rfl .nil)))) ?_
    refine Wp.condM h rfl (fun hc2 h => ?_) (fun hc2 h => ?_)
    · refine Wp.skip ?_
      refine Wp.seq ?_
      refine Wp.block ?_
      refine Wp.seq ?_
      obtain ⟨y4, hy4, h⟩ := bind_some h
      obtain ⟨y5, hy5, h⟩ := bind_some h
      refine Wp.text [0, 1, 5, 16] rfl rfl ?_ -- region 4
      refine TextR.move rfl ?_
      refine TextR.move rfl ?_
      refine TextR.move rfl ?_
      refine TextR.dcall rfl rfl (c_narthexref04_Reach N a0 a1 s5_1 y4 hy4 _) ?_
      refine TextR.move rfl ?_
      refine TextR.dcall rfl rfl (c_narthexref01_Has N y4 s5_1 y5 hy5 _) ?_
      refine TextR.done (.cons rfl (.cons rfl (.cons rfl (.cons rfl .nil)))) ?_
      refine Wp.condM h rfl (fun hc3 h => ?_) (fun hc3 h => ?_)
      · refine Wp.seq ?_
        refine Wp.text [4] rfl rfl ?_ -- region 5
        refine TextR.assign rfl ?_
        refine TextR.done (.cons rfl .nil) ?_
        refine Wp.ret ?_
        exact ⟨_, (Option.some.inj h).symm, Ret.one rfl (resV_tmp rfl) rfl⟩
      · refine Wp.skip ?_
        refine Wp.text [0, 1, 5] rfl rfl ?_ -- region 3
        refine TextR.move rfl ?_
        refine TextR.int rfl rfl rfl ?_
        refine TextR.assign rfl ?_
        refine TextR.done (.cons rfl (.cons rfl (.cons rfl .nil))) ?_
        exact ⟨m1, Nat.lt_succ_self _, _, (keepW (live := [0, 1, 5]) (.cons rfl (.cons rfl (.cons rfl .nil)))), _, h, rfl⟩
    · refine Wp.exit ?_
      exact ⟨_, (Option.some.inj h).symm, _, (keepW (live := []) .nil), rfl⟩
  · rintro _ ⟨z3, rfl, _, hw, rfl⟩
    dsimp only at h
    clear hz1
    refine Wp.weak hw ?_
    refine Wp.seq ?_
    refine Wp.text [4] rfl rfl ?_ -- region 6
    refine TextR.assign rfl ?_
    refine TextR.done (.cons rfl .nil) ?_
    refine Wp.ret ?_
    obtain rfl := Option.some.inj h
    exact Ret.one rfl (resV_tmp rfl) rfl
  · rintro S' ⟨r2, rfl, hR⟩
    dsimp only at h
    obtain rfl := Option.some.inj h
    exact hR
theorem c_narthexref04_Round (N : Nat) (a0 : Int) (a1 : List TArc) (r : Bool) (h : narthexref04_Round N a0 a1 = some r) (H : List Ob) : DCall Try.prog 29 [.c (I a0), .c (.slv (a1.map eArc))] H (.c (B r)) := DCall.lift (by first | rfl | simp [-List.map_set]) (by first | rfl | simp [-List.map_set]) (fun _ => by simp [-List.map_set]) (w_narthexref04_Round N a0 a1 r h) H
end Go.Proofs.Ytnoffbgiaenmpaa
