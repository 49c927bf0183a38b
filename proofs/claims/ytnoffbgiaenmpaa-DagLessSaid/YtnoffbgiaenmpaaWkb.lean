/- The functions do what their models say. -/
import Derived.Test.YtnoffbgiaenmpaaWka
namespace Go.Proofs.Ytnoffbgiaenmpaa
open Go Go.Nx
set_option linter.unusedVariables false
set_option linter.unusedSimpArgs false
set_option linter.unnecessarySimpa false
set_option maxRecDepth 8000
attribute [local simp] putSeg List.map_take List.map_drop rvL rvK bwL hfVs hfV hfL hfAll hfRows mvV mvL mv0 sh0 mvO mpE mpV mpVs mpO fzL rnL rn0 ok0 nzI nzB nzN nzF nzP nzO nzQ nzC shL shV shO okV okL okO List.take_of_length_le h_Arc hm_Arc ok_eArc okR_eArc fx_eArc fxR_eArc h_I hm_I ok_eI okR_eI fx_eI fxR_eI h_B hm_B ok_eB okR_eB fx_eB fxR_eB h_L_I hm_L_I ok_eL_I okR_eL_I fx_eL_I fxR_eL_I
-- narthex/narthexref04.Depths
theorem w_narthexref04_Depths (N : Nat) (a0 : Int) (a1 : List TArc) (r : (List Int) × Bool) (h : narthexref04_Depths N a0 a1 = some r) : Nx.Call Try.prog 16 [.c (I a0), .c (.slv (a1.map eArc))] [] fun r' _ => r' = .tup [.c (.slv (r.1.map eI)), .c (B r.2)] := by
  refine Nx.Call.of_body Try.func16 rfl en16 Try.ntmps16 rfl (fun Γ hok => ?_)
  unfold narthexref04_Depths at h
  refine Wp.seq ?_
  refine Wp.text [0, 1] rfl rfl ?_ -- region 0
  refine TextR.assign rfl ?_
  refine TextR.assign rfl ?_
  refine TextR.done (.cons rfl (.cons rfl .nil)) ?_
  refine Wp.seq ?_
  refine Wp.seq ?_
  obtain ⟨y1, hy1, h⟩ := bind_some h
  obtain ⟨y2, hy2, h⟩ := bind_some h
  refine Wp.go false none [[], [], [], [], [], [(14, false)], [(14, false)], [(14, false)], []] [] [0, 1, 18] mixed rfl rfl (by kernel_rfl) ?_ -- region 1
  refine RunR.move rfl rfl rfl ?_
  refine RunR.move rfl rfl rfl ?_
  refine RunR.call rfl rfl rfl (fun H => c_narthexref04_Check N a0 a1 y1 hy1 H) ?_
  refine RunR.not rfl rfl rfl ?_
  refine RunR.move rfl rfl rfl ?_
  refine RunR.move rfl rfl rfl ?_
  refine RunR.move rfl rfl rfl ?_
  refine RunR.callG rfl rfl rfl (fun hb H => c_narthexref04_Round N a0 a1 y2 (ifT hy2 gF hb) H) ?_
  refine RunR.pickOr rfl rfl rfl rfl ?_
  refine RunR.doneQ (.cons rfl (.cons rfl (.cons rfl .nil))) ?_
  refine Wp.condM h rfl (fun hc1 h => ?_) (fun hc1 h => ?_)
  · refine Wp.seq ?_
    refine Wp.text [4, 5] rfl rfl ?_ -- region 2
    refine TextR.assign rfl ?_
    refine TextR.assign rfl ?_
    refine TextR.done (.cons rfl (.cons rfl .nil)) ?_
    refine Wp.weak (keepW (live := [4, 5] ) (.cons rfl (.cons rfl .nil))) ?_
    refine Wp.weak (nzT (e' := [(4, .c (.slv ([].map eI))), (5, .c (B false))]) (H' := []) (by first | rfl | simp [-List.map_set]) (by first | rfl | simp [-List.map_set])) ?_
    refine Wp.ret ?_
    obtain rfl := Option.some.inj h
    exact Ret.two rfl (resV_tmp rfl) (resV_tmp rfl) rfl
  · refine Wp.skip ?_
    refine Wp.seq ?_
    refine Wp.text [0, 1, 6] rfl rfl ?_ -- region 3
    refine TextR.buildSlice  0 se25 rfl rfl rfl .nil ?_
    refine TextR.assign rfl ?_
    refine TextR.done (.cons rfl (.cons rfl (.cons rfl .nil))) ?_
    refine Wp.seq ?_
    refine Wp.seq ?_
    refine Wp.text [0, 1, 6, 7] rfl rfl ?_ -- region 4
    refine TextR.assign rfl ?_
    refine TextR.done (.cons rfl (.cons rfl (.cons rfl (.cons rfl .nil)))) ?_
    obtain ⟨z3, hz3, h⟩ := bind_some h
    refine Wp.fragN (fun S => ∃ wz3_0, ∃ S', St.Weak ⟨Try.prog, 65, Γ⟩ S S' ∧ S' = ⟨[(0, .c (I a0)), (1, .c (.slv (a1.map eArc))), (6, .c (.sl 0 wz3_0 0 z3.length))], [.live wz3_0 1 (z3.map eI)]⟩) ?_ ?_
    · replace h := hz3
      refine Wp.block ?_
      refine Wp.weak (keepW (live := [0, 1, 6, 7]) (.cons rfl (.cons rfl (.cons rfl (.cons rfl .nil))))) ?_
      refine Wp.loop (fun m S => ∃ l0_1, ∃ s7_1, ∃ wh0_1, narthexref04_Depths_L1 N a0 m l0_1 s7_1 = some z3 ∧ S = ⟨[(0, .c (I a0)), (1, .c (.slv (a1.map eArc))), (6, .c (.sl 0 wh0_1 0 l0_1.length)), (7, .c (I s7_1))], [.live wh0_1 1 (l0_1.map eI)]⟩) N ⟨_, _, _, h, rfl⟩ ?_
      rintro m1 _ ⟨l0_1, s7_1, wh0_1, h, rfl⟩
      cases m1 with
      | zero => rw [narthexref04_Depths_L1.eq_1] at h; cases h
      | succ m1 =>
      rw [narthexref04_Depths_L1.eq_2] at h
      refine Wp.seq ?_
      refine Wp.seq ?_
      refine Wp.text [0, 1, 6, 7, 22] rfl rfl ?_ -- region 5
      refine TextR.move rfl ?_
      refine TextR.move rfl ?_
      refine TextR.int rfl rfl rfl ?_
      refine TextR.done (.cons rfl (.cons rfl (.cons rfl (.cons rfl (.cons rfl .nil))))) ?_
      refine Wp.condM h rfl (fun hc3 h => ?_) (fun hc3 h => ?_)
      · refine Wp.skip ?_
        refine Wp.seq ?_
        refine Wp.block ?_
        obtain ⟨x4, hx4, h⟩ := bind_some h
        refine Wp.text [0, 1, 6, 7] rfl rfl ?_ -- region 7
        refine TextR.move rfl ?_
        refine TextR.buildSlice (rows := [0].map eI) 1 se25 rfl rfl rfl (.cons .nil) ?_
        refine TextR.appendM eI l0_1 [0] x4 (app_eq hx4) se25 rfl (obj_of rfl) rfl (view_whole (f := eI) (xs := [0]) rfl) (fun _ => rfl) rfl (app_len hx4) .zero ?_
        refine TextR.assign rfl ?_
        refine TextR.done (.cons rfl (.cons rfl (.cons rfl (.cons rfl .nil)))) ?_
        refine Wp.text [0, 1, 6, 7] rfl rfl ?_ -- region 6
        refine TextR.move rfl ?_
        refine TextR.int rfl rfl rfl ?_
        refine TextR.assign rfl ?_
        refine TextR.done (.cons rfl (.cons rfl (.cons rfl (.cons rfl .nil)))) ?_
        exact ⟨m1, Nat.lt_succ_self _, _, (St.Weak.trans (keepW (live := [0, 1, 6, 7]) (.cons rfl (.cons rfl (.cons rfl (.cons rfl .nil))))) (pickT (e' := [(0, .c (I a0)), (1, .c (.slv (a1.map eArc))), (6, .c (.sl 0 (wh0_1 + 1) 0 x4.length)), (7, .c (I (w64 (s7_1 + 1))))]) (H' := [.live (wh0_1 + 1) 1 (x4.map eI)]) [0] [0, 0] 0 hok.len.symm rfl rfl (by decide) (by first | rfl | simp [-List.map_set]) (by first | rfl | simp [-List.map_set]) (by first | rfl | simp [-List.map_set]) (by first | rfl | simp [-List.map_set]))), _, _, _, h, rfl⟩
      · refine Wp.exit ?_
        obtain rfl := Option.some.inj h
        exact ⟨_, _, (keepW (live := [0, 1, 6]) (.cons rfl (.cons rfl (.cons rfl .nil)))), rfl⟩
    rintro _ ⟨wz3_0, S', hw, rfl⟩
    clear hz3
    refine Wp.weak hw ?_
    refine Wp.seq ?_
    refine Wp.seq ?_
    refine Wp.text [0, 1, 6, 8] rfl rfl ?_ -- region 8
    refine TextR.assign rfl ?_
    refine TextR.done (.cons rfl (.cons rfl (.cons rfl (.cons rfl .nil)))) ?_
    obtain ⟨z5, hz5, h⟩ := bind_some h
    refine Wp.fragN (fun S => ∃ S', St.Weak ⟨Try.prog, 65, Γ⟩ S S' ∧ S' = ⟨[(6, .c (.sl 0 wz3_0 0 z5.length))], [.live wz3_0 1 (z5.map eI)]⟩) ?_ ?_
    · replace h := hz5
      refine Wp.block ?_
      refine Wp.weak (keepW (live := [0, 1, 6, 8]) (.cons rfl (.cons rfl (.cons rfl (.cons rfl .nil))))) ?_
      refine Wp.loop (fun m S => ∃ l0_2, ∃ s8_2, narthexref04_Depths_L2 N a0 a1 m l0_2 s8_2 = some z5 ∧ S = ⟨[(0, .c (I a0)), (1, .c (.slv (a1.map eArc))), (6, .c (.sl 0 wz3_0 0 l0_2.length)), (8, .c (I s8_2))], [.live wz3_0 1 (l0_2.map eI)]⟩) N ⟨_, _, h, rfl⟩ ?_
      rintro m2 _ ⟨l0_2, s8_2, h, rfl⟩
      cases m2 with
      | zero => rw [narthexref04_Depths_L2.eq_1] at h; cases h
      | succ m2 =>
      rw [narthexref04_Depths_L2.eq_2] at h
      refine Wp.seq ?_
      refine Wp.seq ?_
      refine Wp.text [0, 1, 6, 8, 30] rfl rfl ?_ -- region 9
      refine TextR.move rfl ?_
      refine TextR.move rfl ?_
      refine TextR.int rfl rfl rfl ?_
      refine TextR.done (.cons rfl (.cons rfl (.cons rfl (.cons rfl (.cons rfl .nil))))) ?_
      refine Wp.condM h rfl (fun hc3 h => ?_) (fun hc3 h => ?_)
      · refine Wp.skip ?_
        refine Wp.seq ?_
        refine Wp.block ?_
        refine Wp.seq ?_
        refine Wp.text [0, 1, 6, 8, 9] rfl rfl ?_ -- region 11
        refine TextR.assign rfl ?_
        refine TextR.done (.cons rfl (.cons rfl (.cons rfl (.cons rfl (.cons rfl .nil))))) ?_
        obtain ⟨z6, hz6, h⟩ := bind_some h
        refine Wp.fragN (fun S => ∃ S', St.Weak ⟨Try.prog, 65, Γ⟩ S S' ∧ S' = ⟨[(0, .c (I a0)), (1, .c (.slv (a1.map eArc))), (6, .c (.sl 0 wz3_0 0 z6.length)), (8, .c (I s8_2))], [.live wz3_0 1 (z6.map eI)]⟩) ?_ ?_
        · replace h := hz6
          refine Wp.block ?_
          refine Wp.weak (keepW (live := [0, 1, 6, 8, 9]) (.cons rfl (.cons rfl (.cons rfl (.cons rfl (.cons rfl .nil)))))) ?_
          refine Wp.loop (fun m S => ∃ l0_3, ∃ s9_3, narthexref04_Depths_L3 N a1 m l0_3 s9_3 = some z6 ∧ S = ⟨[(0, .c (I a0)), (1, .c (.slv (a1.map eArc))), (6, .c (.sl 0 wz3_0 0 l0_3.length)), (8, .c (I s8_2)), (9, .c (I s9_3))], [.live wz3_0 1 (l0_3.map eI)]⟩) N ⟨_, _, h, rfl⟩ ?_
          rintro m3 _ ⟨l0_3, s9_3, h, rfl⟩
          cases m3 with
          | zero => rw [narthexref04_Depths_L3.eq_1] at h; cases h
          | succ m3 =>
          rw [narthexref04_Depths_L3.eq_2] at h
          refine Wp.seq ?_
          refine Wp.seq ?_
          refine Wp.text [0, 1, 6, 8, 9, 36] rfl rfl ?_ -- region 12
          refine TextR.move rfl ?_
          refine TextR.move rfl ?_
          refine TextR.lenM us22 rfl rfl ?_
          refine TextR.int rfl rfl rfl ?_
          refine TextR.done (.cons rfl (.cons rfl (.cons rfl (.cons rfl (.cons rfl (.cons rfl .nil)))))) ?_
          refine Wp.condM h rfl (fun hc5 h => ?_) (fun hc5 h => ?_)
          · refine Wp.skip ?_
            refine Wp.seq ?_
            refine Wp.block ?_
            obtain ⟨x7, hx7, h⟩ := bind_some h
            obtain ⟨x8, hx8, h⟩ := bind_some h
            obtain ⟨x9, hx9, h⟩ := bind_some h
            obtain ⟨x10, hx10, h⟩ := bind_some h
            obtain ⟨x11, hx11, h⟩ := bind_some h
            obtain ⟨x12, hx12, h⟩ := bind_some h
            refine Wp.go true (some ⟨[0], []⟩) [] [] [0, 1, 6, 8, 9] mixed rfl rfl (by kernel_rfl) ?_ -- region 14
            refine RunR.move rfl rfl rfl ?_
            refine RunR.move rfl rfl rfl ?_
            refine RunR.move rfl rfl rfl ?_
            refine RunR.indexA se22 rfl rfl rfl rfl rfl hx7 rfl ?_
            refine RunR.fieldAddr fo37_1 rfl rfl rfl rfl rfl ?_
            refine RunR.load1M tk3 rfl rfl rfl (at_get hx7) rfl ?_
            refine RunR.move rfl rfl rfl ?_
            refine RunR.move rfl rfl rfl ?_
            refine RunR.move rfl rfl rfl ?_
            refine RunR.indexA se22 rfl rfl rfl rfl rfl hx8 rfl ?_
            refine RunR.fieldAddr fo37_1 rfl rfl rfl rfl rfl ?_
            refine RunR.load1M tk3 rfl rfl rfl (at_get hx8) rfl ?_
            refine RunR.indexOA se25 rfl rfl rfl rfl (obj_of rfl) hx9 ?_
            refine RunR.load1O tk3 rfl rfl rfl (obj_of rfl) (at_get hx9) rfl ?_
            refine RunR.move rfl rfl rfl ?_
            refine RunR.move rfl rfl rfl ?_
            refine RunR.move rfl rfl rfl ?_
            refine RunR.indexA se22 rfl rfl rfl rfl rfl hx10 rfl ?_
            refine RunR.fieldAddr fo37_0 rfl rfl rfl rfl rfl ?_
            refine RunR.load1M tk3 rfl rfl rfl (at_get hx10) rfl ?_
            refine RunR.indexOA se25 rfl rfl rfl rfl (obj_of rfl) hx11 ?_
            refine RunR.load1O tk3 rfl rfl rfl (obj_of rfl) (at_get hx11) rfl ?_
            refine RunR.int rfl rfl rfl rfl rfl ?_
            refine RunR.minmax (.inr rfl) rfl rfl rfl ?_
            refine RunR.indexOA se25 rfl rfl rfl rfl (obj_of rfl) hx12 ?_
            refine RunR.storeO (max x9 (w64 (x11 + 1))) tk3 rfl rfl rfl rfl rfl (obj_of rfl) rfl (at_get hx12) rfl rfl .zero ?_
            refine RunR.doneQ (.cons rfl (.cons rfl (.cons rfl (.cons rfl (.cons rfl .nil))))) ?_
            refine Wp.weak (eqW (S' := ⟨[(0, .c (I a0)), (1, .c (.slv (a1.map eArc))), (6, .c (.sl 0 wz3_0 0 (l0_3.set x7.To.toNat (max x9 (w64 (x11 + 1)))).length)), (8, .c (I s8_2)), (9, .c (I s9_3))], [.live wz3_0 1 ((l0_3.set x7.To.toNat (max x9 (w64 (x11 + 1)))).map eI)]⟩) (by first | rfl | (simp only [List.length_set]; done) | (simp only [List.length_set]; rfl))) ?_
            refine Wp.text [0, 1, 6, 8, 9] rfl rfl ?_ -- region 13
            refine TextR.move rfl ?_
            refine TextR.int rfl rfl rfl ?_
            refine TextR.assign rfl ?_
            refine TextR.done (.cons rfl (.cons rfl (.cons rfl (.cons rfl (.cons rfl .nil))))) ?_
            exact ⟨m3, Nat.lt_succ_self _, _, (keepW (live := [0, 1, 6, 8, 9]) (.cons rfl (.cons rfl (.cons rfl (.cons rfl (.cons rfl .nil)))))), _, _, h, rfl⟩
          · refine Wp.exit ?_
            obtain rfl := Option.some.inj h
            exact ⟨_, (keepW (live := [0, 1, 6, 8]) (.cons rfl (.cons rfl (.cons rfl (.cons rfl .nil))))), rfl⟩
        rintro _ ⟨S', hw, rfl⟩
        clear hz6
        refine Wp.weak hw ?_
        refine Wp.text [0, 1, 6, 8] rfl rfl ?_ -- region 10
        refine TextR.move rfl ?_
        refine TextR.int rfl rfl rfl ?_
        refine TextR.assign rfl ?_
        refine TextR.done (.cons rfl (.cons rfl (.cons rfl (.cons rfl .nil)))) ?_
        exact ⟨m2, Nat.lt_succ_self _, _, (keepW (live := [0, 1, 6, 8]) (.cons rfl (.cons rfl (.cons rfl (.cons rfl .nil))))), _, _, h, rfl⟩
      · refine Wp.exit ?_
        obtain rfl := Option.some.inj h
        exact ⟨_, (keepW (live := [6]) (.cons rfl .nil)), rfl⟩
    rintro _ ⟨S', hw, rfl⟩
    clear hz5
    refine Wp.weak hw ?_
    refine Wp.seq ?_
    refine Wp.text [4, 5] rfl rfl ?_ -- region 15
    refine TextR.move rfl ?_
    refine TextR.assign rfl ?_
    refine TextR.assign rfl ?_
    refine TextR.done (.cons rfl (.cons rfl .nil)) ?_
    refine Wp.weak (keepW (live := [4, 5] ) (.cons rfl (.cons rfl .nil))) ?_
    refine Wp.weak (freezeW (h := 0) (ver := wz3_0) (rows := z5.map eI) (e' := [(4, .c (.slv (z5.map eI))), (5, .c (B true))]) (H' := [.dead]) (obj_of rfl) (by first | rfl | simp [-List.map_set]) (by first | rfl | simp [-List.map_set])) ?_
    refine Wp.ret ?_
    obtain rfl := Option.some.inj h
    exact Ret.two rfl (resV_tmp rfl) (resV_tmp rfl) rfl
theorem c_narthexref04_Depths (N : Nat) (a0 : Int) (a1 : List TArc) (r : (List Int) × Bool) (h : narthexref04_Depths N a0 a1 = some r) (H : List Ob) : DCall Try.prog 16 [.c (I a0), .c (.slv (a1.map eArc))] H (.tup [.c (.slv (r.1.map eI)), .c (B r.2)]) := DCall.lift (by first | rfl | simp [-List.map_set]) (by first | rfl | simp [-List.map_set]) (fun _ => by simp [-List.map_set]) (w_narthexref04_Depths N a0 a1 r h) H
-- narthex/narthexlaw04.DagOrders
theorem w_narthexlaw04_DagOrders (N : Nat) (a0 : Int) (a1 : List TArc) (r : Bool) (h : narthexlaw04_DagOrders N a0 a1 = some r) : Nx.Call Try.prog 3 [.c (I a0), .c (.slv (a1.map eArc))] [] fun r' _ => r' = .c (B r) := by
  refine Nx.Call.of_body Try.func3 rfl en3 Try.ntmps3 rfl (fun Γ hok => ?_)
  unfold narthexlaw04_DagOrders at h
  refine Wp.seq ?_
  refine Wp.text [0, 1] rfl rfl ?_ -- region 0
  refine TextR.assign rfl ?_
  refine TextR.done (.cons rfl (.cons rfl .nil)) ?_
  refine Wp.seq ?_
  refine Wp.seq ?_
  obtain ⟨y1, hy1, h⟩ := bind_some h
  obtain ⟨y2, hy2, h⟩ := bind_some h
  refine Wp.go false none [[], [], [], [(15, false)], [(15, false)], [(15, false)], [(15, false)], []] [] [0, 1, 20] mixed rfl rfl (by kernel_rfl) ?_ -- region 1
  refine RunR.call rfl rfl rfl (fun H => c_narthexlaw04_awake N y1 hy1 H) ?_
  refine RunR.not rfl rfl rfl ?_
  refine RunR.move rfl rfl rfl ?_
  refine RunR.move rfl rfl rfl ?_
  refine RunR.move rfl rfl rfl ?_
  refine RunR.callG rfl rfl rfl (fun hb H => c_narthexlaw04_few N a0 a1 y2 (ifT hy2 gF hb) H) ?_
  refine RunR.not rfl rfl rfl ?_
  refine RunR.pickOr rfl rfl rfl rfl ?_
  refine RunR.doneQ (.cons rfl (.cons rfl (.cons rfl .nil))) ?_
  refine Wp.condM h rfl (fun hc1 h => ?_) (fun hc1 h => ?_)
  · refine Wp.seq ?_
    obtain ⟨y3, hy3, h⟩ := bind_some h
    refine Wp.text [4] rfl rfl ?_ -- region 2
    refine TextR.dcall rfl rfl (c_narthexlaw04_awake N y3 hy3 _) ?_
    refine TextR.assign rfl ?_
    refine TextR.done (.cons rfl .nil) ?_
    refine Wp.ret ?_
    obtain rfl := Option.some.inj h
    exact Ret.one rfl (resV_tmp rfl) rfl
  · refine Wp.skip ?_
    refine Wp.seq ?_
    obtain ⟨y4, hy4, h⟩ := bind_some h
    obtain ⟨y5, hy5, h⟩ := bind_some h
    refine Wp.text [0, 1, 5, 6] rfl rfl ?_ -- region 3
    refine TextR.move rfl ?_
    refine TextR.move rfl ?_
    refine TextR.dcall rfl rfl (c_narthexlaw04_own N a1 y4 hy4 _) ?_
    refine TextR.dcall rfl rfl (c_dag_Order N a0 y4 y5 hy5 _) ?_
    refine TextR.move rfl ?_
    refine TextR.extract rfl rfl ?_
    refine TextR.extract rfl rfl ?_
    refine TextR.assign rfl ?_
    refine TextR.assign rfl ?_
    refine TextR.done (.cons rfl (.cons rfl (.cons rfl (.cons rfl .nil)))) ?_
    refine Wp.seq ?_
    obtain ⟨y6, hy6, h⟩ := bind_some h
    refine Wp.text [0, 1, 5, 6, 7, 8] rfl rfl ?_ -- region 4
    refine TextR.move rfl ?_
    refine TextR.move rfl ?_
    refine TextR.dcall rfl rfl (c_narthexref04_Order N a0 a1 y6 hy6 _) ?_
    refine TextR.move rfl ?_
    refine TextR.extract rfl rfl ?_
    refine TextR.extract rfl rfl ?_
    refine TextR.assign rfl ?_
    refine TextR.assign rfl ?_
    refine TextR.done (.cons rfl (.cons rfl (.cons rfl (.cons rfl (.cons rfl (.cons rfl .nil)))))) ?_
    refine Wp.seq ?_
    obtain ⟨y7, hy7, h⟩ := bind_some h
    obtain ⟨y8, hy8, h⟩ := bind_some h
    refine Wp.text [0, 1, 5, 6, 7, 8, 9, 10] rfl rfl ?_ -- region 5
    refine TextR.move rfl ?_
    refine TextR.move rfl ?_
    refine TextR.dcall rfl rfl (c_narthexlaw04_own N a1 y7 hy7 _) ?_
    refine TextR.dcall rfl rfl (c_dag_Depths N a0 y7 y8 hy8 _) ?_
    refine TextR.move rfl ?_
    refine TextR.extract rfl rfl ?_
    refine TextR.extract rfl rfl ?_
    refine TextR.assign rfl ?_
    refine TextR.assign rfl ?_
    refine TextR.done (.cons rfl (.cons rfl (.cons rfl (.cons rfl (.cons rfl (.cons rfl (.cons rfl (.cons rfl .nil)))))))) ?_
    refine Wp.seq ?_
    obtain ⟨y9, hy9, h⟩ := bind_some h
    refine Wp.text [0, 1, 5, 6, 7, 8, 9, 10, 11, 12] rfl rfl ?_ -- region 6
    refine TextR.move rfl ?_
    refine TextR.move rfl ?_
    refine TextR.dcall rfl rfl (c_narthexref04_Depths N a0 a1 y9 hy9 _) ?_
    refine TextR.move rfl ?_
    refine TextR.extract rfl rfl ?_
    refine TextR.extract rfl rfl ?_
    refine TextR.assign rfl ?_
    refine TextR.assign rfl ?_
    refine TextR.done (.cons rfl (.cons rfl (.cons rfl (.cons rfl (.cons rfl (.cons rfl (.cons rfl (.cons rfl (.cons rfl (.cons rfl .nil)))))))))) ?_
    refine Wp.seq ?_
    obtain ⟨y10, hy10, h⟩ := bind_some h
    obtain ⟨y11, hy11, h⟩ := bind_some h
    obtain ⟨y12, hy12, h⟩ := bind_some h
    obtain ⟨y13, hy13, h⟩ := bind_some h
    obtain ⟨y14, hy14, h⟩ := bind_some h
    obtain ⟨y15, hy15, h⟩ := bind_some h
    obtain ⟨y16, hy16, h⟩ := bind_some h
    obtain ⟨y17, hy17, h⟩ := bind_some h
    refine Wp.go false none [[], [], [], [], [(51, true)], [(51, true)], [(51, true)], [], [], [(56, true)], [(56, true)], [(56, true)], [], [], [(61, true)], [(61, true)], [(61, true)], [], [], [(66, true)], [(66, true)], [(66, true)], [(66, true)], [(66, true)], [(66, true)], [(66, true)], [(66, true)], [(66, true)], [], [], [(77, true)], [(77, true)], [(77, true)], [(77, true)], [(81, false), (77, true)], [(81, false), (77, true)], [(81, false), (77, true)], [(81, false), (77, true)], [(81, false), (77, true)], [(77, true)], [], []] [] [4] mixed rfl rfl (by kernel_rfl) ?_ -- region 7
    refine RunR.move rfl rfl rfl ?_
    refine RunR.move rfl rfl rfl ?_
    refine RunR.call rfl rfl rfl (fun H => c_narthexref01_Same N y5.1 y6.1 y10 hy10 H) ?_
    refine RunR.move rfl rfl rfl ?_
    refine RunR.move rfl rfl rfl ?_
    refine RunR.move rfl rfl rfl ?_
    refine RunR.eqBool (by kernel_rfl) rfl rfl rfl rfl ?_
    refine RunR.pickAnd rfl rfl rfl rfl ?_
    refine RunR.move rfl rfl rfl ?_
    refine RunR.move rfl rfl rfl ?_
    refine RunR.move rfl rfl rfl ?_
    refine RunR.callG rfl rfl rfl (fun hb H => c_narthexref01_Same N y8.1 y9.1 y11 (ifT hy11 gT hb) H) ?_
    refine RunR.pickAnd rfl rfl rfl rfl ?_
    refine RunR.move rfl rfl rfl ?_
    refine RunR.move rfl rfl rfl ?_
    refine RunR.move rfl rfl rfl ?_
    refine RunR.eqBool (by kernel_rfl) rfl rfl rfl rfl ?_
    refine RunR.pickAnd rfl rfl rfl rfl ?_
    refine RunR.move rfl rfl rfl ?_
    refine RunR.move rfl rfl rfl ?_
    refine RunR.move rfl rfl rfl ?_
    refine RunR.callG rfl rfl rfl (fun hb H => c_narthexlaw04_own N a1 y12 (ifT hy12 gT hb) H) ?_
    refine RunR.callG rfl rfl rfl (fun hb H => c_dag_Check N a0 y12 y13 (ifT hy13 gT hb) H) ?_
    refine RunR.int rfl rfl rfl rfl rfl ?_
    refine RunR.move rfl rfl rfl ?_
    refine RunR.move rfl rfl rfl ?_
    refine RunR.callG rfl rfl rfl (fun hb H => c_narthexref04_Check N a0 a1 y14 (ifT hy14 gT hb) H) ?_
    refine RunR.eqBool (by kernel_rfl) rfl rfl rfl rfl ?_
    refine RunR.pickAnd rfl rfl rfl rfl ?_
    refine RunR.move rfl rfl rfl ?_
    refine RunR.move rfl rfl rfl ?_
    refine RunR.move rfl rfl rfl ?_
    refine RunR.callG rfl rfl rfl (fun hb H => c_narthexref04_Check N a0 a1 y15 (ifT hy15 gT hb) H) ?_
    refine RunR.move rfl rfl rfl ?_
    refine RunR.move rfl rfl rfl ?_
    refine RunR.move rfl rfl rfl ?_
    refine RunR.callG rfl rfl rfl (fun hb H => c_narthexlaw04_own N a1 y16 (ifT hy16 (fun hb => (gAnd (gT (gN hb)) (gF hb))) hb) H) ?_
    refine RunR.callG rfl rfl rfl (fun hb H => c_dag_Check N a0 y16 y17 (ifT hy17 (fun hb => (gAnd (gT (gN hb)) (gF hb))) hb) H) ?_
    refine RunR.int rfl rfl rfl rfl rfl ?_
    refine RunR.pickOr rfl rfl rfl rfl ?_
    refine RunR.pickAnd rfl rfl rfl rfl ?_
    refine RunR.assign rfl rfl rfl ?_
    refine RunR.doneQ (.cons rfl .nil) ?_
    refine Wp.ret ?_
    obtain rfl := Option.some.inj h
    exact Ret.one rfl (resV_tmp rfl) rfl
theorem c_narthexlaw04_DagOrders (N : Nat) (a0 : Int) (a1 : List TArc) (r : Bool) (h : narthexlaw04_DagOrders N a0 a1 = some r) (H : List Ob) : DCall Try.prog 3 [.c (I a0), .c (.slv (a1.map eArc))] H (.c (B r)) := DCall.lift (by first | rfl | simp [-List.map_set]) (by first | rfl | simp [-List.map_set]) (fun _ => by simp [-List.map_set]) (w_narthexlaw04_DagOrders N a0 a1 r h) H
-- narthex/narthexref04.Cycle
theorem w_narthexref04_Cycle (N : Nat) (a0 : Int) (a1 : List TArc) (r : (List Int) × Bool) (h : narthexref04_Cycle N a0 a1 = some r) : Nx.Call Try.prog 21 [.c (I a0), .c (.slv (a1.map eArc))] [] fun r' _ => r' = .tup [.c (.slv (r.1.map eI)), .c (B r.2)] := by
  refine Nx.Call.of_body Try.func21 rfl en21 Try.ntmps21 rfl (fun Γ hok => ?_)
  unfold narthexref04_Cycle at h
  refine Wp.seq ?_
  refine Wp.text [0, 1] rfl rfl ?_ -- region 0
  refine TextR.assign rfl ?_
  refine TextR.assign rfl ?_
  refine TextR.done (.cons rfl (.cons rfl .nil)) ?_
  refine Wp.seq ?_
  refine Wp.seq ?_
  obtain ⟨y1, hy1, h⟩ := bind_some h
  refine Wp.text [0, 1, 20] rfl rfl ?_ -- region 1
  refine TextR.move rfl ?_
  refine TextR.move rfl ?_
  refine TextR.dcall rfl rfl (c_narthexref04_Check N a0 a1 y1 hy1 _) ?_
  refine TextR.not rfl ?_
  refine TextR.done (.cons rfl (.cons rfl (.cons rfl .nil))) ?_
  refine Wp.condM h rfl (fun hc1 h => ?_) (fun hc1 h => ?_)
  · refine Wp.seq ?_
    refine Wp.text [4, 5] rfl rfl ?_ -- region 2
    refine TextR.assign rfl ?_
    refine TextR.assign rfl ?_
    refine TextR.done (.cons rfl (.cons rfl .nil)) ?_
    refine Wp.weak (keepW (live := [4, 5] ) (.cons rfl (.cons rfl .nil))) ?_
    refine Wp.weak (nzT (e' := [(4, .c (.slv ([].map eI))), (5, .c (B false))]) (H' := []) (by first | rfl | simp [-List.map_set]) (by first | rfl | simp [-List.map_set])) ?_
    refine Wp.ret ?_
    obtain rfl := Option.some.inj h
    exact Ret.two rfl (resV_tmp rfl) (resV_tmp rfl) rfl
  · refine Wp.skip ?_
    refine Wp.seq ?_
    obtain ⟨y2, hy2, h⟩ := bind_some h
    refine Wp.text [0, 1, 6] rfl rfl ?_ -- region 3
    refine TextR.move rfl ?_
    refine TextR.move rfl ?_
    refine TextR.dcall rfl rfl (c_narthexref04_Told N a0 a1 y2 hy2 _) ?_
    refine TextR.assign rfl ?_
    refine TextR.done (.cons rfl (.cons rfl (.cons rfl .nil))) ?_
    refine Wp.seq ?_
    refine Wp.text [0, 1, 6, 7] rfl rfl ?_ -- region 4
    refine TextR.assign rfl ?_
    refine TextR.done (.cons rfl (.cons rfl (.cons rfl (.cons rfl .nil)))) ?_
    refine Wp.seq ?_
    obtain ⟨z3, hz3, h⟩ := bind_some h
    refine Wp.fragN (fun S => ∃ S', St.Weak ⟨Try.prog, 130, Γ⟩ S S' ∧ S' = ⟨[(0, .c (I a0)), (1, .c (.slv (a1.map eArc))), (6, .c (.slv (y2.map eI))), (7, .c (I z3))], []⟩) ?_ ?_
    · replace h := hz3
      refine Wp.block ?_
      refine Wp.weak (keepW (live := [0, 1, 6, 7]) (.cons rfl (.cons rfl (.cons rfl (.cons rfl .nil))))) ?_
      refine Wp.loop (fun m S => ∃ s7_1, narthexref04_Cycle_L1 N a0 y2 m s7_1 = some z3 ∧ S = ⟨[(0, .c (I a0)), (1, .c (.slv (a1.map eArc))), (6, .c (.slv (y2.map eI))), (7, .c (I s7_1))], []⟩) N ⟨_, h, rfl⟩ ?_
      rintro m1 _ ⟨s7_1, h, rfl⟩
      cases m1 with
      | zero => rw [narthexref04_Cycle_L1.eq_1] at h; cases h
      | succ m1 =>
      rw [narthexref04_Cycle_L1.eq_2] at h
      refine Wp.seq ?_
      refine Wp.seq ?_
      obtain ⟨y4, hy4, h⟩ := bind_some h
      refine Wp.go false none [[], [], [], [], [(27, true)], [(27, true)], [(27, true)], []] [] [0, 1, 6, 7, 31] mixed rfl rfl (by kernel_rfl) ?_ -- region 5
      refine RunR.move rfl rfl rfl ?_
      refine RunR.move rfl rfl rfl ?_
      refine RunR.int rfl rfl rfl rfl rfl ?_
      refine RunR.move rfl rfl rfl ?_
      refine RunR.move rfl rfl rfl ?_
      refine RunR.move rfl rfl rfl ?_
      refine RunR.callG rfl rfl rfl (fun hb H => c_narthexref01_Has N y2 s7_1 y4 (ifT hy4 gT hb) H) ?_
      refine RunR.pickAnd rfl rfl rfl rfl ?_
      refine RunR.doneQ (.cons rfl (.cons rfl (.cons rfl (.cons rfl (.cons rfl .nil))))) ?_
      refine Wp.condM h rfl (fun hc3 h => ?_) (fun hc3 h => ?_)
      · refine Wp.skip ?_
        refine Wp.block ?_
        refine Wp.text [0, 1, 6, 7] rfl rfl ?_ -- region 6
        refine TextR.move rfl ?_
        refine TextR.int rfl rfl rfl ?_
        refine TextR.assign rfl ?_
        refine TextR.done (.cons rfl (.cons rfl (.cons rfl (.cons rfl .nil)))) ?_
        exact ⟨m1, Nat.lt_succ_self _, _, (keepW (live := [0, 1, 6, 7]) (.cons rfl (.cons rfl (.cons rfl (.cons rfl .nil))))), _, h, rfl⟩
      · refine Wp.exit ?_
        obtain rfl := Option.some.inj h
        exact ⟨_, (keepW (live := [0, 1, 6, 7]) (.cons rfl (.cons rfl (.cons rfl (.cons rfl .nil))))), rfl⟩
    rintro _ ⟨S', hw, rfl⟩
    clear hz3
    refine Wp.weak hw ?_
    refine Wp.seq ?_
    refine Wp.seq ?_
    refine Wp.text [0, 1, 6, 7, 36] rfl rfl ?_ -- region 7
    refine TextR.move rfl ?_
    refine TextR.move rfl ?_
    refine TextR.int rfl rfl rfl ?_
    refine TextR.done (.cons rfl (.cons rfl (.cons rfl (.cons rfl (.cons rfl .nil))))) ?_
    refine Wp.condM h rfl (fun hc2 h => ?_) (fun hc2 h => ?_)
    · refine Wp.seq ?_
      refine Wp.text [4, 5] rfl rfl ?_ -- region 8
      refine TextR.assign rfl ?_
      refine TextR.assign rfl ?_
      refine TextR.done (.cons rfl (.cons rfl .nil)) ?_
      refine Wp.weak (keepW (live := [4, 5] ) (.cons rfl (.cons rfl .nil))) ?_
      refine Wp.weak (nzT (e' := [(4, .c (.slv ([].map eI))), (5, .c (B false))]) (H' := []) (by first | rfl | simp [-List.map_set]) (by first | rfl | simp [-List.map_set])) ?_
      refine Wp.ret ?_
      obtain rfl := Option.some.inj h
      exact Ret.two rfl (resV_tmp rfl) (resV_tmp rfl) rfl
    · refine Wp.skip ?_
      refine Wp.seq ?_
      refine Wp.text [0, 1, 6, 7, 8] rfl rfl ?_ -- region 9
      refine TextR.buildSlice  0 se25 rfl rfl rfl .nil ?_
      refine TextR.assign rfl ?_
      refine TextR.done (.cons rfl (.cons rfl (.cons rfl (.cons rfl (.cons rfl .nil))))) ?_
      refine Wp.seq ?_
      obtain ⟨z5, hz5, h⟩ := bind_some h
      refine Wp.fragN (fun S => ∃ wz5_0, ∃ S', St.Weak ⟨Try.prog, 130, Γ⟩ S S' ∧ S' = ⟨[(7, .c (I z5.2)), (8, .c (.sl 0 wz5_0 0 z5.1.length))], [.live wz5_0 1 (z5.1.map eI)]⟩) ?_ ?_
      · replace h := hz5
        refine Wp.block ?_
        refine Wp.weak (keepW (live := [0, 1, 6, 7, 8]) (.cons rfl (.cons rfl (.cons rfl (.cons rfl (.cons rfl .nil)))))) ?_
        refine Wp.loop (fun m S => ∃ l0_2, ∃ s7_2, ∃ wh0_2, narthexref04_Cycle_L2 N a0 a1 y2 m l0_2 s7_2 = some z5 ∧ S = ⟨[(0, .c (I a0)), (1, .c (.slv (a1.map eArc))), (6, .c (.slv (y2.map eI))), (7, .c (I s7_2)), (8, .c (.sl 0 wh0_2 0 l0_2.length))], [.live wh0_2 1 (l0_2.map eI)]⟩) N ⟨_, _, _, h, rfl⟩ ?_
        rintro m2 _ ⟨l0_2, s7_2, wh0_2, h, rfl⟩
        cases m2 with
        | zero => rw [narthexref04_Cycle_L2.eq_1] at h; cases h
        | succ m2 =>
        rw [narthexref04_Cycle_L2.eq_2] at h
        refine Wp.seq ?_
        refine Wp.seq ?_
        obtain ⟨y6, hy6, h⟩ := bind_some h
        refine Wp.text [0, 1, 6, 7, 8, 41] rfl rfl ?_ -- region 10
        refine TextR.move rfl ?_
        refine TextR.move rfl ?_
        refine TextR.dcall rfl rfl (DCall.borrow (fs := [.c (.slv (l0_2.map eI)), .c (I s7_2)]) (by simp [-List.map_set, obj, List.take_of_length_le]) (by first | rfl | simp [-List.map_set]) rfl (w_narthexref01_Has N l0_2 s7_2 y6 hy6)) ?_
        refine TextR.not rfl ?_
        refine TextR.done (.cons rfl (.cons rfl (.cons rfl (.cons rfl (.cons rfl (.cons rfl .nil)))))) ?_
        refine Wp.condM h rfl (fun hc4 h => ?_) (fun hc4 h => ?_)
        · refine Wp.skip ?_
          refine Wp.block ?_
          refine Wp.seq ?_
          obtain ⟨x7, hx7, h⟩ := bind_some h
          refine Wp.text [0, 1, 6, 7, 8] rfl rfl ?_ -- region 11
          refine TextR.move rfl ?_
          refine TextR.buildSlice (rows := [s7_2].map eI) 1 se25 rfl rfl rfl (.cons .nil) ?_
          refine TextR.move rfl ?_
          refine TextR.appendM eI [s7_2] l0_2 x7 (app_eq hx7) se25 rfl rfl rfl (view_whole (f := eI) (xs := l0_2) (obj_of rfl)) (fun _ => rfl) rfl (app_len hx7) (.succ .zero) ?_
          refine TextR.assign rfl ?_
          refine TextR.done (.cons rfl (.cons rfl (.cons rfl (.cons rfl (.cons rfl .nil))))) ?_
          refine Wp.seq ?_
          refine Wp.text [0, 1, 6, 7, 8, 9] rfl rfl ?_ -- region 12
          refine TextR.assign rfl ?_
          refine TextR.done (.cons rfl (.cons rfl (.cons rfl (.cons rfl (.cons rfl (.cons rfl .nil)))))) ?_
          refine Wp.seq ?_
          obtain ⟨z8, hz8, h⟩ := bind_some h
          refine Wp.fragN (fun S => ∃ S', St.Weak ⟨Try.prog, 130, Γ⟩ S S' ∧ S' = ⟨[(0, .c (I a0)), (1, .c (.slv (a1.map eArc))), (6, .c (.slv (y2.map eI))), (8, .c (.sl 0 1 0 x7.length)), (9, .c (I z8))], [.live 1 1 (x7.map eI)]⟩) ?_ ?_
          · replace h := hz8
            refine Wp.block ?_
            refine Wp.weak (St.Weak.trans (keepW (live := [0, 1, 6, 7, 8, 9]) (.cons rfl (.cons rfl (.cons rfl (.cons rfl (.cons rfl (.cons rfl .nil))))))) (pickT (e' := [(0, .c (I a0)), (1, .c (.slv (a1.map eArc))), (6, .c (.slv (y2.map eI))), (7, .c (I s7_2)), (8, .c (.sl 0 1 0 x7.length)), (9, .c (I 0))]) (H' := [.live 1 1 (x7.map eI)]) [1] [0, 0] 0 hok.len.symm rfl rfl (by decide) (by first | rfl | simp [-List.map_set]) (by first | rfl | simp [-List.map_set]) (by first | rfl | simp [-List.map_set]) (by first | rfl | simp [-List.map_set]))) ?_
            refine Wp.loop (fun m S => ∃ s9_3, narthexref04_Cycle_L3 N a0 a1 y2 s7_2 m s9_3 = some z8 ∧ S = ⟨[(0, .c (I a0)), (1, .c (.slv (a1.map eArc))), (6, .c (.slv (y2.map eI))), (7, .c (I s7_2)), (8, .c (.sl 0 1 0 x7.length)), (9, .c (I s9_3))], [.live 1 1 (x7.map eI)]⟩) N ⟨_, h, rfl⟩ ?_
            rintro m3 _ ⟨s9_3, h, rfl⟩
            cases m3 with
            | zero => rw [narthexref04_Cycle_L3.eq_1] at h; cases h
            | succ m3 =>
            rw [narthexref04_Cycle_L3.eq_2] at h
            refine Wp.seq ?_
            refine Wp.seq ?_
            refine Wp.text [0, 1, 6, 7, 8, 9, 48] rfl rfl ?_ -- region 13
            refine TextR.move rfl ?_
            refine TextR.move rfl ?_
            refine TextR.int rfl rfl rfl ?_
            refine TextR.done (.cons rfl (.cons rfl (.cons rfl (.cons rfl (.cons rfl (.cons rfl (.cons rfl .nil))))))) ?_
            refine Wp.condM h rfl (fun hc6 h => ?_) (fun hc6 h => ?_)
            · refine Wp.skip ?_
              refine Wp.block ?_
              refine Wp.seq ?_
              obtain ⟨y9, hy9, h⟩ := bind_some h
              refine Wp.text [0, 1, 6, 7, 8, 9, 10] rfl rfl ?_ -- region 14
              refine TextR.move rfl ?_
              refine TextR.move rfl ?_
              refine TextR.dcall rfl rfl (c_narthexref01_Has N y2 s9_3 y9 hy9 _) ?_
              refine TextR.not rfl ?_
              refine TextR.assign rfl ?_
              refine TextR.done (.cons rfl (.cons rfl (.cons rfl (.cons rfl (.cons rfl (.cons rfl (.cons rfl .nil))))))) ?_
              refine Wp.seq ?_
              refine Wp.text [0, 1, 6, 7, 8, 9, 10, 11] rfl rfl ?_ -- region 15
              refine TextR.assign rfl ?_
              refine TextR.done (.cons rfl (.cons rfl (.cons rfl (.cons rfl (.cons rfl (.cons rfl (.cons rfl (.cons rfl .nil)))))))) ?_
              refine Wp.seq ?_
              refine Wp.seq ?_
              refine Wp.text [0, 1, 6, 7, 8, 9, 10, 11, 12] rfl rfl ?_ -- region 16
              refine TextR.assign rfl ?_
              refine TextR.done (.cons rfl (.cons rfl (.cons rfl (.cons rfl (.cons rfl (.cons rfl (.cons rfl (.cons rfl (.cons rfl .nil))))))))) ?_
              obtain ⟨z10, hz10, h⟩ := bind_some h
              refine Wp.fragN (fun S => ∃ S', St.Weak ⟨Try.prog, 130, Γ⟩ S S' ∧ S' = ⟨[(0, .c (I a0)), (1, .c (.slv (a1.map eArc))), (6, .c (.slv (y2.map eI))), (7, .c (I s7_2)), (8, .c (.sl 0 1 0 x7.length)), (9, .c (I s9_3)), (10, .c (B (!y9))), (11, .c (B z10))], [.live 1 1 (x7.map eI)]⟩) ?_ ?_
              · replace h := hz10
                refine Wp.block ?_
                refine Wp.weak (keepW (live := [0, 1, 6, 7, 8, 9, 10, 11, 12]) (.cons rfl (.cons rfl (.cons rfl (.cons rfl (.cons rfl (.cons rfl (.cons rfl (.cons rfl (.cons rfl .nil)))))))))) ?_
                refine Wp.loop (fun m S => ∃ s11_4, ∃ s12_4, narthexref04_Cycle_L4 N a1 s7_2 s9_3 m s11_4 s12_4 = some z10 ∧ S = ⟨[(0, .c (I a0)), (1, .c (.slv (a1.map eArc))), (6, .c (.slv (y2.map eI))), (7, .c (I s7_2)), (8, .c (.sl 0 1 0 x7.length)), (9, .c (I s9_3)), (10, .c (B (!y9))), (11, .c (B s11_4)), (12, .c (I s12_4))], [.live 1 1 (x7.map eI)]⟩) N ⟨_, _, h, rfl⟩ ?_
                rintro m4 _ ⟨s11_4, s12_4, h, rfl⟩
                cases m4 with
                | zero => rw [narthexref04_Cycle_L4.eq_1] at h; cases h
                | succ m4 =>
                rw [narthexref04_Cycle_L4.eq_2] at h
                refine Wp.seq ?_
                refine Wp.seq ?_
                refine Wp.text [0, 1, 6, 7, 8, 9, 10, 11, 12, 56] rfl rfl ?_ -- region 17
                refine TextR.move rfl ?_
                refine TextR.move rfl ?_
                refine TextR.lenM us22 rfl rfl ?_
                refine TextR.int rfl rfl rfl ?_
                refine TextR.done (.cons rfl (.cons rfl (.cons rfl (.cons rfl (.cons rfl (.cons rfl (.cons rfl (.cons rfl (.cons rfl (.cons rfl .nil)))))))))) ?_
                refine Wp.condM h rfl (fun hc8 h => ?_) (fun hc8 h => ?_)
                · refine Wp.skip ?_
                  refine Wp.seq ?_
                  refine Wp.block ?_
                  obtain ⟨x11, hx11, h⟩ := bind_some h
                  obtain ⟨x12, hx12, h⟩ := bind_some h
                  refine Wp.go false none [[], [], [(60, false)], [(60, false)], [(60, false)], [(60, false)], [(60, false)], [(60, false)], [(60, false)], [(60, false)], [(68, true), (60, false)], [(68, true), (60, false)], [(68, true), (60, false)], [(68, true), (60, false)], [(68, true), (60, false)], [(68, true), (60, false)], [(68, true), (60, false)], [(60, false)], [], []] [] [0, 1, 6, 7, 8, 9, 10, 11, 12] mixed rfl rfl (by kernel_rfl) ?_ -- region 19
                  refine RunR.move rfl rfl rfl ?_
                  refine RunR.move rfl rfl rfl ?_
                  refine RunR.move rfl rfl rfl ?_
                  refine RunR.move rfl rfl rfl ?_
                  refine RunR.indexAG se22 rfl rfl rfl rfl rfl (ifPos hx11 gF) (ifAt hx11 gF) rfl ?_
                  refine RunR.fieldAddr fo37_0 rfl rfl rfl rfl rfl ?_
                  refine RunR.load1G tk3 rfl rfl rfl (ifAt hx11 gF) rfl ?_
                  refine RunR.move rfl rfl rfl ?_
                  refine RunR.int rfl rfl rfl rfl rfl ?_
                  refine RunR.move rfl rfl rfl ?_
                  refine RunR.move rfl rfl rfl ?_
                  refine RunR.move rfl rfl rfl ?_
                  refine RunR.indexAG se22 rfl rfl rfl rfl rfl (ifPos hx12 (fun hb => (gAnd (gF (gN hb)) (gT hb)))) (ifAt hx12 (fun hb => (gAnd (gF (gN hb)) (gT hb)))) rfl ?_
                  refine RunR.fieldAddr fo37_1 rfl rfl rfl rfl rfl ?_
                  refine RunR.load1G tk3 rfl rfl rfl (ifAt hx12 (fun hb => (gAnd (gF (gN hb)) (gT hb)))) rfl ?_
                  refine RunR.move rfl rfl rfl ?_
                  refine RunR.int rfl rfl rfl rfl rfl ?_
                  refine RunR.pickAnd rfl rfl rfl rfl ?_
                  refine RunR.pickOr rfl rfl rfl rfl ?_
                  refine RunR.assign rfl rfl rfl ?_
                  refine RunR.doneQ (.cons rfl (.cons rfl (.cons rfl (.cons rfl (.cons rfl (.cons rfl (.cons rfl (.cons rfl (.cons rfl .nil))))))))) ?_
                  refine Wp.text [0, 1, 6, 7, 8, 9, 10, 11, 12] rfl rfl ?_ -- region 18
                  refine TextR.move rfl ?_
                  refine TextR.int rfl rfl rfl ?_
                  refine TextR.assign rfl ?_
                  refine TextR.done (.cons rfl (.cons rfl (.cons rfl (.cons rfl (.cons rfl (.cons rfl (.cons rfl (.cons rfl (.cons rfl .nil))))))))) ?_
                  exact ⟨m4, Nat.lt_succ_self _, _, (keepW (live := [0, 1, 6, 7, 8, 9, 10, 11, 12]) (.cons rfl (.cons rfl (.cons rfl (.cons rfl (.cons rfl (.cons rfl (.cons rfl (.cons rfl (.cons rfl .nil)))))))))), _, _, h, rfl⟩
                · refine Wp.exit ?_
                  obtain rfl := Option.some.inj h
                  exact ⟨_, (keepW (live := [0, 1, 6, 7, 8, 9, 10, 11]) (.cons rfl (.cons rfl (.cons rfl (.cons rfl (.cons rfl (.cons rfl (.cons rfl (.cons rfl .nil))))))))), rfl⟩
              rintro _ ⟨S', hw, rfl⟩
              clear hz10
              refine Wp.weak hw ?_
              refine Wp.seq ?_
              refine Wp.seq ?_
              refine Wp.go false none [[], [], [(79, true)], []] [] [0, 1, 6, 7, 8, 9, 81] mixed rfl rfl (by kernel_rfl) ?_ -- region 20
              refine RunR.move rfl rfl rfl ?_
              refine RunR.move rfl rfl rfl ?_
              refine RunR.move rfl rfl rfl ?_
              refine RunR.pickAnd rfl rfl rfl rfl ?_
              refine RunR.doneQ (.cons rfl (.cons rfl (.cons rfl (.cons rfl (.cons rfl (.cons rfl (.cons rfl .nil))))))) ?_
              refine Wp.condM h rfl (fun hc7 h => ?_) (fun hc7 h => ?_)
              · refine Wp.exit ?_
                obtain rfl := Option.some.inj h
                exact ⟨_, (keepW (live := [0, 1, 6, 8, 9]) (.cons rfl (.cons rfl (.cons rfl (.cons rfl (.cons rfl .nil)))))), rfl⟩
              · refine Wp.skip ?_
                refine Wp.text [0, 1, 6, 7, 8, 9] rfl rfl ?_ -- region 21
                refine TextR.move rfl ?_
                refine TextR.int rfl rfl rfl ?_
                refine TextR.assign rfl ?_
                refine TextR.done (.cons rfl (.cons rfl (.cons rfl (.cons rfl (.cons rfl (.cons rfl .nil)))))) ?_
                exact ⟨m3, Nat.lt_succ_self _, _, (keepW (live := [0, 1, 6, 7, 8, 9]) (.cons rfl (.cons rfl (.cons rfl (.cons rfl (.cons rfl (.cons rfl .nil))))))), _, h, rfl⟩
            · refine Wp.exit ?_
              obtain rfl := Option.some.inj h
              exact ⟨_, (keepW (live := [0, 1, 6, 8, 9]) (.cons rfl (.cons rfl (.cons rfl (.cons rfl (.cons rfl .nil)))))), rfl⟩
          rintro _ ⟨S', hw, rfl⟩
          clear hz8
          refine Wp.weak hw ?_
          refine Wp.text [0, 1, 6, 7, 8] rfl rfl ?_ -- region 22
          refine TextR.move rfl ?_
          refine TextR.assign rfl ?_
          refine TextR.done (.cons rfl (.cons rfl (.cons rfl (.cons rfl (.cons rfl .nil))))) ?_
          exact ⟨m2, Nat.lt_succ_self _, _, (keepW (live := [0, 1, 6, 7, 8]) (.cons rfl (.cons rfl (.cons rfl (.cons rfl (.cons rfl .nil)))))), _, _, _, h, rfl⟩
        · refine Wp.exit ?_
          obtain rfl := Option.some.inj h
          exact ⟨_, _, (keepW (live := [7, 8]) (.cons rfl (.cons rfl .nil))), rfl⟩
      rintro _ ⟨wz5_0, S', hw, rfl⟩
      clear hz5
      refine Wp.weak hw ?_
      refine Wp.seq ?_
      refine Wp.text [7, 8, 13] rfl rfl ?_ -- region 23
      refine TextR.buildSlice  1 se25 rfl rfl rfl (.cons .nil) ?_
      refine TextR.assign rfl ?_
      refine TextR.done (.cons rfl (.cons rfl (.cons rfl .nil))) ?_
      refine Wp.seq ?_
      refine Wp.seq ?_
      refine Wp.text [7, 8, 13, 14] rfl rfl ?_ -- region 24
      refine TextR.assign rfl ?_
      refine TextR.done (.cons rfl (.cons rfl (.cons rfl (.cons rfl .nil)))) ?_
      obtain ⟨z13, hz13, h⟩ := bind_some h
      refine Wp.fragN (fun S => ∃ wz13_0, ∃ S', St.Weak ⟨Try.prog, 130, Γ⟩ S S' ∧ S' = ⟨[(13, .c (.sl 0 wz13_0 0 z13.length))], [.live wz13_0 1 (z13.map eI)]⟩) ?_ ?_
      · replace h := hz13
        refine Wp.block ?_
        refine Wp.weak (keepW (live := [7, 8, 13, 14]) (.cons rfl (.cons rfl (.cons rfl (.cons rfl .nil))))) ?_
        refine Wp.loop (fun m S => ∃ l1_5, ∃ s14_5, ∃ wh1_5, narthexref04_Cycle_L5 N z5 m l1_5 s14_5 = some z13 ∧ S = ⟨[(7, .c (I z5.2)), (8, .c (.sl 0 wz5_0 0 z5.1.length)), (13, .c (.sl 1 wh1_5 0 l1_5.length)), (14, .c (I s14_5))], [.live wz5_0 1 (z5.1.map eI), .live wh1_5 1 (l1_5.map eI)]⟩) N ⟨_, _, _, h, rfl⟩ ?_
        rintro m5 _ ⟨l1_5, s14_5, wh1_5, h, rfl⟩
        cases m5 with
        | zero => rw [narthexref04_Cycle_L5.eq_1] at h; cases h
        | succ m5 =>
        rw [narthexref04_Cycle_L5.eq_2] at h
        refine Wp.seq ?_
        refine Wp.seq ?_
        refine Wp.text [7, 8, 13, 14, 89] rfl rfl ?_ -- region 25
        refine TextR.move rfl ?_
        refine TextR.move rfl ?_
        refine TextR.len us25 rfl rfl ?_
        refine TextR.int rfl rfl rfl ?_
        refine TextR.done (.cons rfl (.cons rfl (.cons rfl (.cons rfl (.cons rfl .nil))))) ?_
        refine Wp.condM h rfl (fun hc4 h => ?_) (fun hc4 h => ?_)
        · refine Wp.skip ?_
          refine Wp.seq ?_
          refine Wp.block ?_
          refine Wp.seq ?_
          obtain ⟨x14, hx14, h⟩ := bind_some h
          obtain ⟨x15, hx15, h⟩ := bind_some h
          refine Wp.text [7, 8, 13, 14] rfl rfl ?_ -- region 27
          refine TextR.move rfl ?_
          refine TextR.move rfl ?_
          refine TextR.move rfl ?_
          refine TextR.indexOA se25 rfl rfl (obj_of rfl) hx14 ?_
          refine TextR.load1O tk3 rfl (obj_of rfl) (at_get hx14) rfl ?_
          refine TextR.buildSlice (rows := [x14].map eI) 2 se25 rfl rfl rfl (.cons (.cons .nil)) ?_
          refine TextR.appendM eI l1_5 [x14] x15 (app_eq hx15) se25 rfl (obj_of rfl) rfl (view_whole (f := eI) (xs := [x14]) rfl) (fun _ => rfl) rfl (app_len hx15) (.succ .zero) ?_
          refine TextR.assign rfl ?_
          refine TextR.done (.cons rfl (.cons rfl (.cons rfl (.cons rfl .nil)))) ?_
          refine Wp.seq ?_
          obtain ⟨x16, hx16, h⟩ := bind_some h
          refine Wp.text [7, 8, 13, 14, 104] rfl rfl ?_ -- region 28
          refine TextR.move rfl ?_
          refine TextR.move rfl ?_
          refine TextR.indexOA se25 rfl rfl (obj_of rfl) hx16 ?_
          refine TextR.load1O tk3 rfl (obj_of rfl) (at_get hx16) rfl ?_
          refine TextR.move rfl ?_
          refine TextR.int rfl rfl rfl ?_
          refine TextR.done (.cons rfl (.cons rfl (.cons rfl (.cons rfl (.cons rfl .nil))))) ?_
          refine Wp.condM h rfl (fun hc5 h => ?_) (fun hc5 h => ?_)
          · refine Wp.exit ?_
            obtain rfl := Option.some.inj h
            exact ⟨_, _, (St.Weak.trans (keepW (live := [13]) (.cons rfl .nil)) (pickT (e' := [(13, .c (.sl 0 (wh1_5 + 1) 0 x15.length))]) (H' := [.live (wh1_5 + 1) 1 (x15.map eI)]) [1] [0, 0, 0] 0 hok.len.symm rfl rfl (by decide) (by first | rfl | simp [-List.map_set]) (by first | rfl | simp [-List.map_set]) (by first | rfl | simp [-List.map_set]) (by first | rfl | simp [-List.map_set]))), rfl⟩
          · refine Wp.skip ?_
            refine Wp.text [7, 8, 13, 14] rfl rfl ?_ -- region 26
            refine TextR.move rfl ?_
            refine TextR.int rfl rfl rfl ?_
            refine TextR.assign rfl ?_
            refine TextR.done (.cons rfl (.cons rfl (.cons rfl (.cons rfl .nil)))) ?_
            exact ⟨m5, Nat.lt_succ_self _, _, (St.Weak.trans (keepW (live := [7, 8, 13, 14]) (.cons rfl (.cons rfl (.cons rfl (.cons rfl .nil))))) (pickT (e' := [(7, .c (I z5.2)), (8, .c (.sl 0 wz5_0 0 z5.1.length)), (13, .c (.sl 1 (wh1_5 + 1) 0 x15.length)), (14, .c (I (w64 (s14_5 + 1))))]) (H' := [.live wz5_0 1 (z5.1.map eI), .live (wh1_5 + 1) 1 (x15.map eI)]) [0, 1] [0, 1, 0] 0 hok.len.symm rfl rfl (by decide) (by first | rfl | simp [-List.map_set]) (by first | rfl | simp [-List.map_set]) (by first | rfl | simp [-List.map_set]) (by first | rfl | simp [-List.map_set]))), _, _, _, h, rfl⟩
        · refine Wp.exit ?_
          obtain rfl := Option.some.inj h
          exact ⟨_, _, (St.Weak.trans (keepW (live := [13]) (.cons rfl .nil)) (pickT (e' := [(13, .c (.sl 0 wh1_5 0 l1_5.length))]) (H' := [.live wh1_5 1 (l1_5.map eI)]) [1] [0, 0] 0 hok.len.symm rfl rfl (by decide) (by first | rfl | simp [-List.map_set]) (by first | rfl | simp [-List.map_set]) (by first | rfl | simp [-List.map_set]) (by first | rfl | simp [-List.map_set]))), rfl⟩
      rintro _ ⟨wz13_0, S', hw, rfl⟩
      clear hz13
      refine Wp.weak hw ?_
      refine Wp.seq ?_
      refine Wp.text [13, 15] rfl rfl ?_ -- region 29
      refine TextR.assign rfl ?_
      refine TextR.done (.cons rfl (.cons rfl .nil)) ?_
      refine Wp.seq ?_
      refine Wp.seq ?_
      refine Wp.text [13, 15, 16] rfl rfl ?_ -- region 30
      refine TextR.assign rfl ?_
      refine TextR.done (.cons rfl (.cons rfl (.cons rfl .nil))) ?_
      obtain ⟨z17, hz17, h⟩ := bind_some h
      refine Wp.fragN (fun S => ∃ S', St.Weak ⟨Try.prog, 130, Γ⟩ S S' ∧ S' = ⟨[(13, .c (.sl 0 wz13_0 0 z13.length)), (15, .c (I z17))], [.live wz13_0 1 (z13.map eI)]⟩) ?_ ?_
      · replace h := hz17
        refine Wp.block ?_
        refine Wp.weak (keepW (live := [13, 15, 16]) (.cons rfl (.cons rfl (.cons rfl .nil)))) ?_
        refine Wp.loop (fun m S => ∃ s15_6, ∃ s16_6, narthexref04_Cycle_L6 N z13 m s15_6 s16_6 = some z17 ∧ S = ⟨[(13, .c (.sl 0 wz13_0 0 z13.length)), (15, .c (I s15_6)), (16, .c (I s16_6))], [.live wz13_0 1 (z13.map eI)]⟩) N ⟨_, _, h, rfl⟩ ?_
        rintro m6 _ ⟨s15_6, s16_6, h, rfl⟩
        cases m6 with
        | zero => rw [narthexref04_Cycle_L6.eq_1] at h; cases h
        | succ m6 =>
        rw [narthexref04_Cycle_L6.eq_2] at h
        refine Wp.seq ?_
        refine Wp.seq ?_
        refine Wp.text [13, 15, 16, 108] rfl rfl ?_ -- region 31
        refine TextR.move rfl ?_
        refine TextR.move rfl ?_
        refine TextR.len us25 rfl rfl ?_
        refine TextR.int rfl rfl rfl ?_
        refine TextR.done (.cons rfl (.cons rfl (.cons rfl (.cons rfl .nil)))) ?_
        refine Wp.condM h rfl (fun hc4 h => ?_) (fun hc4 h => ?_)
        · refine Wp.skip ?_
          refine Wp.seq ?_
          refine Wp.block ?_
          refine Wp.seq ?_
          obtain ⟨x18, hx18, h⟩ := bind_some h
          obtain ⟨x19, hx19, h⟩ := bind_some h
          refine Wp.go true (some ⟨[], []⟩) [] [] [13, 15, 16, 119] mixed rfl rfl (by kernel_rfl) ?_ -- region 33
          refine RunR.move rfl rfl rfl ?_
          refine RunR.move rfl rfl rfl ?_
          refine RunR.indexOA se25 rfl rfl rfl rfl (obj_of rfl) hx18 ?_
          refine RunR.load1O tk3 rfl rfl rfl (obj_of rfl) (at_get hx18) rfl ?_
          refine RunR.move rfl rfl rfl ?_
          refine RunR.move rfl rfl rfl ?_
          refine RunR.indexOA se25 rfl rfl rfl rfl (obj_of rfl) hx19 ?_
          refine RunR.load1O tk3 rfl rfl rfl (obj_of rfl) (at_get hx19) rfl ?_
          refine RunR.int rfl rfl rfl rfl rfl ?_
          refine RunR.doneQ (.cons rfl (.cons rfl (.cons rfl (.cons rfl .nil)))) ?_
          refine Wp.condM h rfl (fun hc5 h => ?_) (fun hc5 h => ?_)
          · refine Wp.text [13, 15, 16] rfl rfl ?_ -- region 34
            refine TextR.move rfl ?_
            refine TextR.assign rfl ?_
            refine TextR.done (.cons rfl (.cons rfl (.cons rfl .nil))) ?_
            refine Wp.text [13, 15, 16] rfl rfl ?_ -- region 32
            refine TextR.move rfl ?_
            refine TextR.int rfl rfl rfl ?_
            refine TextR.assign rfl ?_
            refine TextR.done (.cons rfl (.cons rfl (.cons rfl .nil))) ?_
            exact ⟨m6, Nat.lt_succ_self _, _, (keepW (live := [13, 15, 16]) (.cons rfl (.cons rfl (.cons rfl .nil)))), _, _, h, rfl⟩
          · refine Wp.skip ?_
            refine Wp.text [13, 15, 16] rfl rfl ?_ -- region 32
            refine TextR.move rfl ?_
            refine TextR.int rfl rfl rfl ?_
            refine TextR.assign rfl ?_
            refine TextR.done (.cons rfl (.cons rfl (.cons rfl .nil))) ?_
            exact ⟨m6, Nat.lt_succ_self _, _, (keepW (live := [13, 15, 16]) (.cons rfl (.cons rfl (.cons rfl .nil)))), _, _, h, rfl⟩
        · refine Wp.exit ?_
          obtain rfl := Option.some.inj h
          exact ⟨_, (keepW (live := [13, 15]) (.cons rfl (.cons rfl .nil))), rfl⟩
      rintro _ ⟨S', hw, rfl⟩
      clear hz17
      refine Wp.weak hw ?_
      refine Wp.seq ?_
      obtain ⟨x20, hx20, h⟩ := bind_some h
      obtain ⟨x21, hx21, h⟩ := bind_some h
      obtain ⟨x22, hx22, h⟩ := bind_some h
      obtain ⟨x23, hx23, h⟩ := bind_some h
      refine Wp.go true (some ⟨[1], []⟩) [] [false, true, true, true, false, true, true, true, true, false, false] [4, 5] mixed rfl rfl (by kernel_rfl) ?_ -- region 35
      refine RunR.buildSlice  1 se25 rfl rfl rfl rfl rfl (.cons .nil) ?_
      refine RunR.move rfl rfl rfl ?_
      refine RunR.move rfl rfl rfl ?_
      refine RunR.sliceOM se25 rfl rfl rfl rfl rfl (obj_of rfl) rfl rfl hx20 ?_
      refine RunR.appendM eI ([] : List Int) ((z13.drop (Int.toNat z17)).take x20.length) x21 (app_eq hx21) se25 rfl rfl rfl rfl rfl (view_piece (f := eI) (xs := z13) (obj_of rfl) (by have q0 := sub_le hx20; first | exact q0 | (simp only [List.length_set, List.length_take, List.length_drop, length_cpy, length_clr] at *; omega))) (fun _ => rfl) rfl (app_len hx21) (.succ .zero) ?_
      refine RunR.move rfl rfl rfl ?_
      refine RunR.move rfl rfl rfl ?_
      refine RunR.sliceOM se25 rfl rfl rfl rfl rfl (obj_of rfl) rfl rfl hx22 ?_
      refine RunR.appendM eI x21 ((z13.drop 0).take x22.length) x23 (app_eq hx23) se25 rfl rfl rfl rfl rfl (view_piece (f := eI) (xs := z13) (obj_of rfl) (by have q0 := sub_le hx22; first | exact q0 | (simp only [List.length_set, List.length_take, List.length_drop, length_cpy, length_clr] at *; omega))) (fun _ => rfl) rfl (app_len hx23) (.succ .zero) ?_
      refine RunR.assign rfl rfl rfl ?_
      refine RunR.assign rfl rfl rfl ?_
      refine RunR.doneQ (.cons rfl (.cons rfl .nil)) ?_
      refine Wp.weak (keepW (live := [4, 5] ) (.cons rfl (.cons rfl .nil))) ?_
      refine Wp.weak (freezeW (h := 1) (ver := 2) (rows := x23.map eI) (e' := [(4, .c (.slv (x23.map eI))), (5, .c (B true))]) (H' := [.live wz13_0 1 (z13.map eI), .dead]) rfl (by first | rfl | simp [-List.map_set]) (by first | rfl | simp [-List.map_set])) ?_
      refine Wp.ret ?_
      obtain rfl := Option.some.inj h
      exact Ret.two rfl (resV_tmp rfl) (resV_tmp rfl) rfl
theorem c_narthexref04_Cycle (N : Nat) (a0 : Int) (a1 : List TArc) (r : (List Int) × Bool) (h : narthexref04_Cycle N a0 a1 = some r) (H : List Ob) : DCall Try.prog 21 [.c (I a0), .c (.slv (a1.map eArc))] H (.tup [.c (.slv (r.1.map eI)), .c (B r.2)]) := DCall.lift (by first | rfl | simp [-List.map_set]) (by first | rfl | simp [-List.map_set]) (fun _ => by simp [-List.map_set]) (w_narthexref04_Cycle N a0 a1 r h) H
-- narthex/narthexlaw04.DagCycles
theorem w_narthexlaw04_DagCycles (N : Nat) (a0 : Int) (a1 : List TArc) (r : Bool) (h : narthexlaw04_DagCycles N a0 a1 = some r) : Nx.Call Try.prog 4 [.c (I a0), .c (.slv (a1.map eArc))] [] fun r' _ => r' = .c (B r) := by
  refine Nx.Call.of_body Try.func4 rfl en4 Try.ntmps4 rfl (fun Γ hok => ?_)
  unfold narthexlaw04_DagCycles at h
  refine Wp.seq ?_
  refine Wp.text [0, 1] rfl rfl ?_ -- region 0
  refine TextR.assign rfl ?_
  refine TextR.done (.cons rfl (.cons rfl .nil)) ?_
  refine Wp.seq ?_
  refine Wp.seq ?_
  obtain ⟨y1, hy1, h⟩ := bind_some h
  obtain ⟨y2, hy2, h⟩ := bind_some h
  refine Wp.go false none [[], [], [], [(11, false)], [(11, false)], [(11, false)], [(11, false)], []] [] [0, 1, 16] mixed rfl rfl (by kernel_rfl) ?_ -- region 1
  refine RunR.call rfl rfl rfl (fun H => c_narthexlaw04_awake N y1 hy1 H) ?_
  refine RunR.not rfl rfl rfl ?_
  refine RunR.move rfl rfl rfl ?_
  refine RunR.move rfl rfl rfl ?_
  refine RunR.move rfl rfl rfl ?_
  refine RunR.callG rfl rfl rfl (fun hb H => c_narthexlaw04_few N a0 a1 y2 (ifT hy2 gF hb) H) ?_
  refine RunR.not rfl rfl rfl ?_
  refine RunR.pickOr rfl rfl rfl rfl ?_
  refine RunR.doneQ (.cons rfl (.cons rfl (.cons rfl .nil))) ?_
  refine Wp.condM h rfl (fun hc1 h => ?_) (fun hc1 h => ?_)
  · refine Wp.seq ?_
    obtain ⟨y3, hy3, h⟩ := bind_some h
    refine Wp.text [4] rfl rfl ?_ -- region 2
    refine TextR.dcall rfl rfl (c_narthexlaw04_awake N y3 hy3 _) ?_
    refine TextR.assign rfl ?_
    refine TextR.done (.cons rfl .nil) ?_
    refine Wp.ret ?_
    obtain rfl := Option.some.inj h
    exact Ret.one rfl (resV_tmp rfl) rfl
  · refine Wp.skip ?_
    refine Wp.seq ?_
    obtain ⟨y4, hy4, h⟩ := bind_some h
    obtain ⟨y5, hy5, h⟩ := bind_some h
    refine Wp.text [0, 1, 5, 6] rfl rfl ?_ -- region 3
    refine TextR.move rfl ?_
    refine TextR.move rfl ?_
    refine TextR.dcall rfl rfl (c_narthexlaw04_own N a1 y4 hy4 _) ?_
    refine TextR.dcall rfl rfl (c_dag_Cycle N a0 y4 y5 hy5 _) ?_
    refine TextR.move rfl ?_
    refine TextR.extract rfl rfl ?_
    refine TextR.extract rfl rfl ?_
    refine TextR.assign rfl ?_
    refine TextR.assign rfl ?_
    refine TextR.done (.cons rfl (.cons rfl (.cons rfl (.cons rfl .nil)))) ?_
    refine Wp.seq ?_
    obtain ⟨y6, hy6, h⟩ := bind_some h
    refine Wp.text [5, 6, 7, 8] rfl rfl ?_ -- region 4
    refine TextR.move rfl ?_
    refine TextR.move rfl ?_
    refine TextR.dcall rfl rfl (c_narthexref04_Cycle N a0 a1 y6 hy6 _) ?_
    refine TextR.move rfl ?_
    refine TextR.extract rfl rfl ?_
    refine TextR.extract rfl rfl ?_
    refine TextR.assign rfl ?_
    refine TextR.assign rfl ?_
    refine TextR.done (.cons rfl (.cons rfl (.cons rfl (.cons rfl .nil)))) ?_
    refine Wp.seq ?_
    obtain ⟨y7, hy7, h⟩ := bind_some h
    refine Wp.go false none [[], [], [], [], [(34, true)], [(34, true)], [(34, true)], [], []] [] [4] mixed rfl rfl (by kernel_rfl) ?_ -- region 5
    refine RunR.move rfl rfl rfl ?_
    refine RunR.move rfl rfl rfl ?_
    refine RunR.call rfl rfl rfl (fun H => c_narthexref01_Same N y5.1 y6.1 y7 hy7 H) ?_
    refine RunR.move rfl rfl rfl ?_
    refine RunR.move rfl rfl rfl ?_
    refine RunR.move rfl rfl rfl ?_
    refine RunR.eqBool (by kernel_rfl) rfl rfl rfl rfl ?_
    refine RunR.pickAnd rfl rfl rfl rfl ?_
    refine RunR.assign rfl rfl rfl ?_
    refine RunR.doneQ (.cons rfl .nil) ?_
    refine Wp.ret ?_
    obtain rfl := Option.some.inj h
    exact Ret.one rfl (resV_tmp rfl) rfl
theorem c_narthexlaw04_DagCycles (N : Nat) (a0 : Int) (a1 : List TArc) (r : Bool) (h : narthexlaw04_DagCycles N a0 a1 = some r) (H : List Ob) : DCall Try.prog 4 [.c (I a0), .c (.slv (a1.map eArc))] H (.c (B r)) := DCall.lift (by first | rfl | simp [-List.map_set]) (by first | rfl | simp [-List.map_set]) (fun _ => by simp [-List.map_set]) (w_narthexlaw04_DagCycles N a0 a1 r h) H
-- narthex/narthexref04.Flip
theorem w_narthexref04_Flip (N : Nat) (a0 : List TArc) (a1 : Int) (r : (List TArc)) (h : narthexref04_Flip N a0 a1 = some r) : Nx.Call Try.prog 24 [.c (.slv (a0.map eArc)), .c (I a1)] [] fun r' _ => r' = .c (.slv (r.map eArc)) := by
  refine Nx.Call.of_body Try.func24 rfl en24 Try.ntmps24 rfl (fun Γ hok => ?_)
  unfold narthexref04_Flip at h
  refine Wp.seq ?_
  refine Wp.text [0, 1] rfl rfl ?_ -- region 0
  refine TextR.assign rfl ?_
  refine TextR.done (.cons rfl (.cons rfl .nil)) ?_
  refine Wp.seq ?_
  refine Wp.text [0, 1, 5] rfl rfl ?_ -- region 1
  refine TextR.buildSlice  0 se22 rfl rfl rfl .nil ?_
  refine TextR.assign rfl ?_
  refine TextR.done (.cons rfl (.cons rfl (.cons rfl .nil))) ?_
  refine Wp.seq ?_
  refine Wp.seq ?_
  refine Wp.text [0, 1, 5, 6] rfl rfl ?_ -- region 2
  refine TextR.assign rfl ?_
  refine TextR.done (.cons rfl (.cons rfl (.cons rfl (.cons rfl .nil)))) ?_
  obtain ⟨z1, hz1, h⟩ := bind_some h
  refine Wp.fragN (fun S => ∃ wz1_0, ∃ S', St.Weak ⟨Try.prog, 33, Γ⟩ S S' ∧ S' = ⟨[(5, .c (.sl 0 wz1_0 0 z1.length))], [.live wz1_0 2 (z1.map eArc)]⟩) ?_ ?_
  · replace h := hz1
    refine Wp.block ?_
    refine Wp.weak (keepW (live := [0, 1, 5, 6]) (.cons rfl (.cons rfl (.cons rfl (.cons rfl .nil))))) ?_
    refine Wp.loop (fun m S => ∃ l0_1, ∃ s6_1, ∃ wh0_1, narthexref04_Flip_L1 N a0 a1 m l0_1 s6_1 = some z1 ∧ S = ⟨[(0, .c (.slv (a0.map eArc))), (1, .c (I a1)), (5, .c (.sl 0 wh0_1 0 l0_1.length)), (6, .c (I s6_1))], [.live wh0_1 2 (l0_1.map eArc)]⟩) N ⟨_, _, _, h, rfl⟩ ?_
    rintro m1 _ ⟨l0_1, s6_1, wh0_1, h, rfl⟩
    cases m1 with
    | zero => rw [narthexref04_Flip_L1.eq_1] at h; cases h
    | succ m1 =>
    rw [narthexref04_Flip_L1.eq_2] at h
    refine Wp.seq ?_
    refine Wp.seq ?_
    refine Wp.text [0, 1, 5, 6, 12] rfl rfl ?_ -- region 3
    refine TextR.move rfl ?_
    refine TextR.move rfl ?_
    refine TextR.lenM us22 rfl rfl ?_
    refine TextR.int rfl rfl rfl ?_
    refine TextR.done (.cons rfl (.cons rfl (.cons rfl (.cons rfl (.cons rfl .nil))))) ?_
    refine Wp.condM h rfl (fun hc2 h => ?_) (fun hc2 h => ?_)
    · refine Wp.skip ?_
      refine Wp.seq ?_
      refine Wp.block ?_
      refine Wp.seq ?_
      obtain ⟨x2, hx2, h⟩ := bind_some h
      refine Wp.text [0, 1, 5, 6, 7] rfl rfl ?_ -- region 5
      refine TextR.move rfl ?_
      refine TextR.move rfl ?_
      refine TextR.indexA se22 rfl rfl rfl hx2 rfl ?_
      refine TextR.loadNM tk37 rfl (at_get hx2) rfl ?_
      refine TextR.alloc 1 zc37 rfl rfl (.cons .nil) ?_
      refine TextR.store1 tk37 rfl rfl rfl rfl rfl rfl (.succ .zero) ?_
      refine TextR.done (.cons rfl (.cons rfl (.cons rfl (.cons rfl (.cons rfl .nil))))) ?_
      refine Wp.seq ?_
      refine Wp.seq ?_
      refine Wp.text [0, 1, 5, 6, 7, 22] rfl rfl ?_ -- region 6
      refine TextR.fieldAddr fo37_0 rfl rfl rfl ?_
      refine TextR.load1 tk3 rfl rfl ?_
      refine TextR.move rfl ?_
      refine TextR.int rfl rfl rfl ?_
      refine TextR.done (.cons rfl (.cons rfl (.cons rfl (.cons rfl (.cons rfl (.cons rfl .nil)))))) ?_
      refine Wp.condM h rfl (fun hc3 h => ?_) (fun hc3 h => ?_)
      · refine Wp.text [0, 1, 5, 6, 7] rfl rfl ?_ -- region 7
        refine TextR.fieldAddr fo37_1 rfl rfl rfl ?_
        refine TextR.load1 tk3 rfl rfl ?_
        refine TextR.fieldAddr fo37_0 rfl rfl rfl ?_
        refine TextR.load1 tk3 rfl rfl ?_
        refine TextR.build cm37 rfl ?_
        refine TextR.store1 tk37 rfl rfl rfl rfl rfl rfl (.succ .zero) ?_
        refine TextR.done (.cons rfl (.cons rfl (.cons rfl (.cons rfl (.cons rfl .nil))))) ?_
        obtain ⟨x3, hx3, h⟩ := bind_some h
        refine Wp.text [0, 1, 5, 6] rfl rfl ?_ -- region 8
        refine TextR.move rfl ?_
        refine TextR.loadN (cs := [I x2.To, I x2.From]) tk37 rfl rfl ?_
        refine TextR.buildSlice (rows := [(⟨x2.To, x2.From⟩ : TArc)].map eArc) 2 se22 rfl rfl rfl (.cons (.cons .nil)) ?_
        refine TextR.appendM eArc l0_1 [(⟨x2.To, x2.From⟩ : TArc)] x3 (app_eq hx3) se22 rfl (obj_of rfl) rfl (view_whole (f := eArc) (xs := [(⟨x2.To, x2.From⟩ : TArc)]) rfl) (fun _ => rfl) rfl (app_len hx3) .zero ?_
        refine TextR.assign rfl ?_
        refine TextR.done (.cons rfl (.cons rfl (.cons rfl (.cons rfl .nil)))) ?_
        refine Wp.text [0, 1, 5, 6] rfl rfl ?_ -- region 4
        refine TextR.move rfl ?_
        refine TextR.int rfl rfl rfl ?_
        refine TextR.assign rfl ?_
        refine TextR.done (.cons rfl (.cons rfl (.cons rfl (.cons rfl .nil)))) ?_
        exact ⟨m1, Nat.lt_succ_self _, _, (St.Weak.trans (keepW (live := [0, 1, 5, 6]) (.cons rfl (.cons rfl (.cons rfl (.cons rfl .nil))))) (pickT (e' := [(0, .c (.slv (a0.map eArc))), (1, .c (I a1)), (5, .c (.sl 0 (wh0_1 + 1) 0 x3.length)), (6, .c (I (w64 (s6_1 + 1))))]) (H' := [.live (wh0_1 + 1) 2 (x3.map eArc)]) [0] [0, 0, 0] 0 hok.len.symm rfl rfl (by decide) (by first | rfl | simp [-List.map_set]) (by first | rfl | simp [-List.map_set]) (by first | rfl | simp [-List.map_set]) (by first | rfl | simp [-List.map_set]))), _, _, _, h, rfl⟩
      · refine Wp.skip ?_
        obtain ⟨x4, hx4, h⟩ := bind_some h
        refine Wp.text [0, 1, 5, 6] rfl rfl ?_ -- region 8
        refine TextR.move rfl ?_
        refine TextR.loadN (cs := [I x2.From, I x2.To]) tk37 rfl rfl ?_
        refine TextR.buildSlice (rows := [x2].map eArc) 2 se22 rfl rfl rfl (.cons (.cons .nil)) ?_
        refine TextR.appendM eArc l0_1 [x2] x4 (app_eq hx4) se22 rfl (obj_of rfl) rfl (view_whole (f := eArc) (xs := [x2]) rfl) (fun _ => rfl) rfl (app_len hx4) .zero ?_
        refine TextR.assign rfl ?_
        refine TextR.done (.cons rfl (.cons rfl (.cons rfl (.cons rfl .nil)))) ?_
        refine Wp.text [0, 1, 5, 6] rfl rfl ?_ -- region 4
        refine TextR.move rfl ?_
        refine TextR.int rfl rfl rfl ?_
        refine TextR.assign rfl ?_
        refine TextR.done (.cons rfl (.cons rfl (.cons rfl (.cons rfl .nil)))) ?_
        exact ⟨m1, Nat.lt_succ_self _, _, (St.Weak.trans (keepW (live := [0, 1, 5, 6]) (.cons rfl (.cons rfl (.cons rfl (.cons rfl .nil))))) (pickT (e' := [(0, .c (.slv (a0.map eArc))), (1, .c (I a1)), (5, .c (.sl 0 (wh0_1 + 1) 0 x4.length)), (6, .c (I (w64 (s6_1 + 1))))]) (H' := [.live (wh0_1 + 1) 2 (x4.map eArc)]) [0] [0, 0, 0] 0 hok.len.symm rfl rfl (by decide) (by first | rfl | simp [-List.map_set]) (by first | rfl | simp [-List.map_set]) (by first | rfl | simp [-List.map_set]) (by first | rfl | simp [-List.map_set]))), _, _, _, h, rfl⟩
    · refine Wp.exit ?_
      obtain rfl := Option.some.inj h
      exact ⟨_, _, (keepW (live := [5]) (.cons rfl .nil)), rfl⟩
  rintro _ ⟨wz1_0, S', hw, rfl⟩
  clear hz1
  refine Wp.weak hw ?_
  refine Wp.seq ?_
  refine Wp.text [4] rfl rfl ?_ -- region 9
  refine TextR.move rfl ?_
  refine TextR.assign rfl ?_
  refine TextR.done (.cons rfl .nil) ?_
  refine Wp.weak (keepW (live := [4] ) (.cons rfl .nil)) ?_
  refine Wp.weak (freezeW (h := 0) (ver := wz1_0) (rows := z1.map eArc) (e' := [(4, .c (.slv (z1.map eArc)))]) (H' := [.dead]) (obj_of rfl) (by first | rfl | simp [-List.map_set]) (by first | rfl | simp [-List.map_set])) ?_
  refine Wp.ret ?_
  obtain rfl := Option.some.inj h
  exact Ret.one rfl (resV_tmp rfl) rfl
theorem c_narthexref04_Flip (N : Nat) (a0 : List TArc) (a1 : Int) (r : (List TArc)) (h : narthexref04_Flip N a0 a1 = some r) (H : List Ob) : DCall Try.prog 24 [.c (.slv (a0.map eArc)), .c (I a1)] H (.c (.slv (r.map eArc))) := DCall.lift (by first | rfl | simp [-List.map_set]) (by first | rfl | simp [-List.map_set]) (fun _ => by simp [-List.map_set]) (w_narthexref04_Flip N a0 a1 r h) H
-- narthex/narthexref04.Same
theorem w_narthexref04_Same (N : Nat) (a0 : List TArc) (a1 : List TArc) (r : Bool) (h : narthexref04_Same N a0 a1 = some r) : Nx.Call Try.prog 22 [.c (.slv (a0.map eArc)), .c (.slv (a1.map eArc))] [] fun r' _ => r' = .c (B r) := by
  refine Nx.Call.of_body Try.func22 rfl en22 Try.ntmps22 rfl (fun Γ hok => ?_)
  unfold narthexref04_Same at h
  refine Wp.seq ?_
  refine Wp.text [0, 1] rfl rfl ?_ -- region 0
  refine TextR.assign rfl ?_
  refine TextR.done (.cons rfl (.cons rfl .nil)) ?_
  refine Wp.seq ?_
  refine Wp.seq ?_
  refine Wp.text [0, 1, 10] rfl rfl ?_ -- region 1
  refine TextR.move rfl ?_
  refine TextR.lenM us22 rfl rfl ?_
  refine TextR.move rfl ?_
  refine TextR.lenM us22 rfl rfl ?_
  refine TextR.int rfl rfl rfl ?_
  refine TextR.done (.cons rfl (.cons rfl (.cons rfl .nil))) ?_
  refine Wp.condM h rfl (fun hc1 h => ?_) (fun hc1 h => ?_)
  · refine Wp.seq ?_
    refine Wp.text [4] rfl rfl ?_ -- region 2
    refine TextR.assign rfl ?_
    refine TextR.done (.cons rfl .nil) ?_
    refine Wp.ret ?_
    obtain rfl := Option.some.inj h
    exact Ret.one rfl (resV_tmp rfl) rfl
  · refine Wp.skip ?_
    refine Wp.seq ?_
    refine Wp.seq ?_
    refine Wp.text [0, 1, 5] rfl rfl ?_ -- region 3
    refine TextR.assign rfl ?_
    refine TextR.done (.cons rfl (.cons rfl (.cons rfl .nil))) ?_
    obtain ⟨z1, hz1, h⟩ := bind_some h
    refine Wp.fragR (fun S => ∃ z3, z1 = .inr z3 ∧ ∃ S', St.Weak ⟨Try.prog, 26, Γ⟩ S S' ∧ S' = ⟨[], []⟩) (fun S => ∃ v, z1 = .inl v ∧ Ret Try.prog Try.f22 (fun r' _ => r' = .c (B v)) .ret S) ?_ ?_ ?_
    · replace h := hz1
      refine Wp.block ?_
      refine Wp.weak (keepW (live := [0, 1, 5]) (.cons rfl (.cons rfl (.cons rfl .nil)))) ?_
      refine Wp.loop (fun m S => ∃ s5_1, narthexref04_Same_L1 N a0 a1 m s5_1 = some z1 ∧ S = ⟨[(0, .c (.slv (a0.map eArc))), (1, .c (.slv (a1.map eArc))), (5, .c (I s5_1))], []⟩) N ⟨_, h, rfl⟩ ?_
      rintro m1 _ ⟨s5_1, h, rfl⟩
      cases m1 with
      | zero => rw [narthexref04_Same_L1.eq_1] at h; cases h
      | succ m1 =>
      rw [narthexref04_Same_L1.eq_2] at h
      refine Wp.seq ?_
      refine Wp.seq ?_
      refine Wp.text [0, 1, 5, 14] rfl rfl ?_ -- region 4
      refine TextR.move rfl ?_
      refine TextR.move rfl ?_
      refine TextR.lenM us22 rfl rfl ?_
      refine TextR.int rfl rfl rfl ?_
      refine TextR.done (.cons rfl (.cons rfl (.cons rfl (.cons rfl .nil)))) ?_
      refine Wp.condM h rfl (fun hc3 h => ?_) (fun hc3 h => ?_)
      · refine Wp.skip ?_
        refine Wp.seq ?_
        refine Wp.block ?_
        refine Wp.seq ?_
        obtain ⟨x4, hx4, h⟩ := bind_some h
        obtain ⟨x5, hx5, h⟩ := bind_some h
        refine Wp.go true (some ⟨[], []⟩) [] [] [0, 1, 5, 25] mixed rfl rfl (by kernel_rfl) ?_ -- region 6
        refine RunR.move rfl rfl rfl ?_
        refine RunR.move rfl rfl rfl ?_
        refine RunR.indexA se22 rfl rfl rfl rfl rfl hx4 rfl ?_
        refine RunR.loadNM tk37 rfl rfl rfl (at_get hx4) rfl ?_
        refine RunR.move rfl rfl rfl ?_
        refine RunR.move rfl rfl rfl ?_
        refine RunR.indexA se22 rfl rfl rfl rfl rfl hx5 rfl ?_
        refine RunR.loadNM tk37 rfl rfl rfl (at_get hx5) rfl ?_
        refine RunR.neAgg eqs37 rfl rfl rfl rfl (q_Arc x4 x5) ?_
        refine RunR.doneQ (.cons rfl (.cons rfl (.cons rfl (.cons rfl .nil)))) ?_
        refine Wp.condM h rfl (fun hc4 h => ?_) (fun hc4 h => ?_)
        · refine Wp.seq ?_
          refine Wp.text [4] rfl rfl ?_ -- region 7
          refine TextR.assign rfl ?_
          refine TextR.done (.cons rfl .nil) ?_
          refine Wp.ret ?_
          exact ⟨_, (Option.some.inj h).symm, Ret.one rfl (resV_tmp rfl) rfl⟩
        · refine Wp.skip ?_
          refine Wp.text [0, 1, 5] rfl rfl ?_ -- region 5
          refine TextR.move rfl ?_
          refine TextR.int rfl rfl rfl ?_
          refine TextR.assign rfl ?_
          refine TextR.done (.cons rfl (.cons rfl (.cons rfl .nil))) ?_
          exact ⟨m1, Nat.lt_succ_self _, _, (keepW (live := [0, 1, 5]) (.cons rfl (.cons rfl (.cons rfl .nil)))), _, h, rfl⟩
      · refine Wp.exit ?_
        exact ⟨_, (Option.some.inj h).symm, _, (keepW (live := []) .nil), rfl⟩
    · rintro _ ⟨z3, rfl, _, hw, rfl⟩
      dsimp only at h
      clear hz1
      refine Wp.weak hw ?_
      refine Wp.seq ?_
      refine Wp.text [4] rfl rfl ?_ -- region 8
      refine TextR.assign rfl ?_
      refine TextR.done (.cons rfl .nil) ?_
      refine Wp.ret ?_
      obtain rfl := Option.some.inj h
      exact Ret.one rfl (resV_tmp rfl) rfl
    · rintro S' ⟨r2, rfl, hR⟩
      dsimp only at h
      obtain rfl := Option.some.inj h
      exact hR
theorem c_narthexref04_Same (N : Nat) (a0 : List TArc) (a1 : List TArc) (r : Bool) (h : narthexref04_Same N a0 a1 = some r) (H : List Ob) : DCall Try.prog 22 [.c (.slv (a0.map eArc)), .c (.slv (a1.map eArc))] H (.c (B r)) := DCall.lift (by first | rfl | simp [-List.map_set]) (by first | rfl | simp [-List.map_set]) (fun _ => by simp [-List.map_set]) (w_narthexref04_Same N a0 a1 r h) H
-- narthex/narthexref04.Sinks
theorem w_narthexref04_Sinks (N : Nat) (a0 : Int) (a1 : List TArc) (r : (List Int)) (h : narthexref04_Sinks N a0 a1 = some r) : Nx.Call Try.prog 26 [.c (I a0), .c (.slv (a1.map eArc))] [] fun r' _ => r' = .c (.slv (r.map eI)) := by
  refine Nx.Call.of_body Try.func26 rfl en26 Try.ntmps26 rfl (fun Γ hok => ?_)
  unfold narthexref04_Sinks at h
  refine Wp.seq ?_
  refine Wp.text [0, 1] rfl rfl ?_ -- region 0
  refine TextR.assign rfl ?_
  refine TextR.done (.cons rfl (.cons rfl .nil)) ?_
  refine Wp.seq ?_
  refine Wp.text [0, 1, 5] rfl rfl ?_ -- region 1
  refine TextR.buildSlice  0 se25 rfl rfl rfl .nil ?_
  refine TextR.assign rfl ?_
  refine TextR.done (.cons rfl (.cons rfl (.cons rfl .nil))) ?_
  refine Wp.seq ?_
  refine Wp.seq ?_
  refine Wp.text [0, 1, 5, 6] rfl rfl ?_ -- region 2
  refine TextR.assign rfl ?_
  refine TextR.done (.cons rfl (.cons rfl (.cons rfl (.cons rfl .nil)))) ?_
  obtain ⟨z1, hz1, h⟩ := bind_some h
  refine Wp.fragN (fun S => ∃ wz1_0, ∃ S', St.Weak ⟨Try.prog, 43, Γ⟩ S S' ∧ S' = ⟨[(5, .c (.sl 0 wz1_0 0 z1.length))], [.live wz1_0 1 (z1.map eI)]⟩) ?_ ?_
  · replace h := hz1
    refine Wp.block ?_
    refine Wp.weak (keepW (live := [0, 1, 5, 6]) (.cons rfl (.cons rfl (.cons rfl (.cons rfl .nil))))) ?_
    refine Wp.loop (fun m S => ∃ l0_1, ∃ s6_1, ∃ wh0_1, narthexref04_Sinks_L1 N a0 a1 m l0_1 s6_1 = some z1 ∧ S = ⟨[(0, .c (I a0)), (1, .c (.slv (a1.map eArc))), (5, .c (.sl 0 wh0_1 0 l0_1.length)), (6, .c (I s6_1))], [.live wh0_1 1 (l0_1.map eI)]⟩) N ⟨_, _, _, h, rfl⟩ ?_
    rintro m1 _ ⟨l0_1, s6_1, wh0_1, h, rfl⟩
    cases m1 with
    | zero => rw [narthexref04_Sinks_L1.eq_1] at h; cases h
    | succ m1 =>
    rw [narthexref04_Sinks_L1.eq_2] at h
    refine Wp.seq ?_
    refine Wp.seq ?_
    obtain ⟨y2, hy2, h⟩ := bind_some h
    refine Wp.go false none [[], [], [], [], [(13, true)], [(13, true)], [(13, true)], []] [] [0, 1, 5, 6, 17] mixed rfl rfl (by kernel_rfl) ?_ -- region 3
    refine RunR.move rfl rfl rfl ?_
    refine RunR.move rfl rfl rfl ?_
    refine RunR.int rfl rfl rfl rfl rfl ?_
    refine RunR.move rfl rfl rfl ?_
    refine RunR.move rfl rfl rfl ?_
    refine RunR.move rfl rfl rfl ?_
    refine RunR.callG rfl rfl rfl (fun hb H => c_narthexref04_Check N a0 a1 y2 (ifT hy2 gT hb) H) ?_
    refine RunR.pickAnd rfl rfl rfl rfl ?_
    refine RunR.doneQ (.cons rfl (.cons rfl (.cons rfl (.cons rfl (.cons rfl .nil))))) ?_
    refine Wp.condM h rfl (fun hc2 h => ?_) (fun hc2 h => ?_)
    · refine Wp.skip ?_
      refine Wp.seq ?_
      refine Wp.block ?_
      refine Wp.seq ?_
      refine Wp.text [0, 1, 5, 6, 7] rfl rfl ?_ -- region 5
      refine TextR.assign rfl ?_
      refine TextR.done (.cons rfl (.cons rfl (.cons rfl (.cons rfl (.cons rfl .nil))))) ?_
      refine Wp.seq ?_
      refine Wp.seq ?_
      refine Wp.text [0, 1, 5, 6, 7, 8] rfl rfl ?_ -- region 6
      refine TextR.assign rfl ?_
      refine TextR.done (.cons rfl (.cons rfl (.cons rfl (.cons rfl (.cons rfl (.cons rfl .nil)))))) ?_
      obtain ⟨z3, hz3, h⟩ := bind_some h
      refine Wp.fragN (fun S => ∃ S', St.Weak ⟨Try.prog, 43, Γ⟩ S S' ∧ S' = ⟨[(0, .c (I a0)), (1, .c (.slv (a1.map eArc))), (5, .c (.sl 0 wh0_1 0 l0_1.length)), (6, .c (I s6_1)), (7, .c (B z3))], [.live wh0_1 1 (l0_1.map eI)]⟩) ?_ ?_
      · replace h := hz3
        refine Wp.block ?_
        refine Wp.weak (keepW (live := [0, 1, 5, 6, 7, 8]) (.cons rfl (.cons rfl (.cons rfl (.cons rfl (.cons rfl (.cons rfl .nil))))))) ?_
        refine Wp.loop (fun m S => ∃ s7_2, ∃ s8_2, narthexref04_Sinks_L2 N a1 s6_1 m s7_2 s8_2 = some z3 ∧ S = ⟨[(0, .c (I a0)), (1, .c (.slv (a1.map eArc))), (5, .c (.sl 0 wh0_1 0 l0_1.length)), (6, .c (I s6_1)), (7, .c (B s7_2)), (8, .c (I s8_2))], [.live wh0_1 1 (l0_1.map eI)]⟩) N ⟨_, _, h, rfl⟩ ?_
        rintro m2 _ ⟨s7_2, s8_2, h, rfl⟩
        cases m2 with
        | zero => rw [narthexref04_Sinks_L2.eq_1] at h; cases h
        | succ m2 =>
        rw [narthexref04_Sinks_L2.eq_2] at h
        refine Wp.seq ?_
        refine Wp.seq ?_
        refine Wp.text [0, 1, 5, 6, 7, 8, 23] rfl rfl ?_ -- region 7
        refine TextR.move rfl ?_
        refine TextR.move rfl ?_
        refine TextR.lenM us22 rfl rfl ?_
        refine TextR.int rfl rfl rfl ?_
        refine TextR.done (.cons rfl (.cons rfl (.cons rfl (.cons rfl (.cons rfl (.cons rfl (.cons rfl .nil))))))) ?_
        refine Wp.condM h rfl (fun hc4 h => ?_) (fun hc4 h => ?_)
        · refine Wp.skip ?_
          refine Wp.seq ?_
          refine Wp.block ?_
          obtain ⟨x4, hx4, h⟩ := bind_some h
          refine Wp.go false none [[], [], [(27, false)], [(27, false)], [(27, false)], [(27, false)], [(27, false)], [(27, false)], [(27, false)], [], []] [] [0, 1, 5, 6, 7, 8] mixed rfl rfl (by kernel_rfl) ?_ -- region 9
          refine RunR.move rfl rfl rfl ?_
          refine RunR.move rfl rfl rfl ?_
          refine RunR.move rfl rfl rfl ?_
          refine RunR.move rfl rfl rfl ?_
          refine RunR.indexAG se22 rfl rfl rfl rfl rfl (ifPos hx4 gF) (ifAt hx4 gF) rfl ?_
          refine RunR.fieldAddr fo37_0 rfl rfl rfl rfl rfl ?_
          refine RunR.load1G tk3 rfl rfl rfl (ifAt hx4 gF) rfl ?_
          refine RunR.move rfl rfl rfl ?_
          refine RunR.int rfl rfl rfl rfl rfl ?_
          refine RunR.pickOr rfl rfl rfl rfl ?_
          refine RunR.assign rfl rfl rfl ?_
          refine RunR.doneQ (.cons rfl (.cons rfl (.cons rfl (.cons rfl (.cons rfl (.cons rfl .nil)))))) ?_
          refine Wp.text [0, 1, 5, 6, 7, 8] rfl rfl ?_ -- region 8
          refine TextR.move rfl ?_
          refine TextR.int rfl rfl rfl ?_
          refine TextR.assign rfl ?_
          refine TextR.done (.cons rfl (.cons rfl (.cons rfl (.cons rfl (.cons rfl (.cons rfl .nil)))))) ?_
          exact ⟨m2, Nat.lt_succ_self _, _, (keepW (live := [0, 1, 5, 6, 7, 8]) (.cons rfl (.cons rfl (.cons rfl (.cons rfl (.cons rfl (.cons rfl .nil))))))), _, _, h, rfl⟩
        · refine Wp.exit ?_
          obtain rfl := Option.some.inj h
          exact ⟨_, (keepW (live := [0, 1, 5, 6, 7]) (.cons rfl (.cons rfl (.cons rfl (.cons rfl (.cons rfl .nil)))))), rfl⟩
      rintro _ ⟨S', hw, rfl⟩
      clear hz3
      refine Wp.weak hw ?_
      refine Wp.seq ?_
      refine Wp.text [0, 1, 5, 6, 37] rfl rfl ?_ -- region 10
      refine TextR.move rfl ?_
      refine TextR.not rfl ?_
      refine TextR.done (.cons rfl (.cons rfl (.cons rfl (.cons rfl (.cons rfl .nil))))) ?_
      refine Wp.condM h rfl (fun hc3 h => ?_) (fun hc3 h => ?_)
      · obtain ⟨x5, hx5, h⟩ := bind_some h
        refine Wp.text [0, 1, 5, 6] rfl rfl ?_ -- region 11
        refine TextR.move rfl ?_
        refine TextR.move rfl ?_
        refine TextR.buildSlice (rows := [s6_1].map eI) 1 se25 rfl rfl rfl (.cons .nil) ?_
        refine TextR.appendM eI l0_1 [s6_1] x5 (app_eq hx5) se25 rfl (obj_of rfl) rfl (view_whole (f := eI) (xs := [s6_1]) rfl) (fun _ => rfl) rfl (app_len hx5) .zero ?_
        refine TextR.assign rfl ?_
        refine TextR.done (.cons rfl (.cons rfl (.cons rfl (.cons rfl .nil)))) ?_
        refine Wp.text [0, 1, 5, 6] rfl rfl ?_ -- region 4
        refine TextR.move rfl ?_
        refine TextR.int rfl rfl rfl ?_
        refine TextR.assign rfl ?_
        refine TextR.done (.cons rfl (.cons rfl (.cons rfl (.cons rfl .nil)))) ?_
        exact ⟨m1, Nat.lt_succ_self _, _, (St.Weak.trans (keepW (live := [0, 1, 5, 6]) (.cons rfl (.cons rfl (.cons rfl (.cons rfl .nil))))) (pickT (e' := [(0, .c (I a0)), (1, .c (.slv (a1.map eArc))), (5, .c (.sl 0 (wh0_1 + 1) 0 x5.length)), (6, .c (I (w64 (s6_1 + 1))))]) (H' := [.live (wh0_1 + 1) 1 (x5.map eI)]) [0] [0, 0] 0 hok.len.symm rfl rfl (by decide) (by first | rfl | simp [-List.map_set]) (by first | rfl | simp [-List.map_set]) (by first | rfl | simp [-List.map_set]) (by first | rfl | simp [-List.map_set]))), _, _, _, h, rfl⟩
      · refine Wp.skip ?_
        refine Wp.text [0, 1, 5, 6] rfl rfl ?_ -- region 4
        refine TextR.move rfl ?_
        refine TextR.int rfl rfl rfl ?_
        refine TextR.assign rfl ?_
        refine TextR.done (.cons rfl (.cons rfl (.cons rfl (.cons rfl .nil)))) ?_
        exact ⟨m1, Nat.lt_succ_self _, _, (keepW (live := [0, 1, 5, 6]) (.cons rfl (.cons rfl (.cons rfl (.cons rfl .nil))))), _, _, _, h, rfl⟩
    · refine Wp.exit ?_
      obtain rfl := Option.some.inj h
      exact ⟨_, _, (keepW (live := [5]) (.cons rfl .nil)), rfl⟩
  rintro _ ⟨wz1_0, S', hw, rfl⟩
  clear hz1
  refine Wp.weak hw ?_
  refine Wp.seq ?_
  refine Wp.text [4] rfl rfl ?_ -- region 12
  refine TextR.move rfl ?_
  refine TextR.assign rfl ?_
  refine TextR.done (.cons rfl .nil) ?_
  refine Wp.weak (keepW (live := [4] ) (.cons rfl .nil)) ?_
  refine Wp.weak (freezeW (h := 0) (ver := wz1_0) (rows := z1.map eI) (e' := [(4, .c (.slv (z1.map eI)))]) (H' := [.dead]) (obj_of rfl) (by first | rfl | simp [-List.map_set]) (by first | rfl | simp [-List.map_set])) ?_
  refine Wp.ret ?_
  obtain rfl := Option.some.inj h
  exact Ret.one rfl (resV_tmp rfl) rfl
theorem c_narthexref04_Sinks (N : Nat) (a0 : Int) (a1 : List TArc) (r : (List Int)) (h : narthexref04_Sinks N a0 a1 = some r) (H : List Ob) : DCall Try.prog 26 [.c (I a0), .c (.slv (a1.map eArc))] H (.c (.slv (r.map eI))) := DCall.lift (by first | rfl | simp [-List.map_set]) (by first | rfl | simp [-List.map_set]) (fun _ => by simp [-List.map_set]) (w_narthexref04_Sinks N a0 a1 r h) H
-- narthex/narthexlaw04.DagFlips
theorem w_narthexlaw04_DagFlips (N : Nat) (a0 : Int) (a1 : List TArc) (a2 : Int) (r : Bool) (h : narthexlaw04_DagFlips N a0 a1 a2 = some r) : Nx.Call Try.prog 5 [.c (I a0), .c (.slv (a1.map eArc)), .c (I a2)] [] fun r' _ => r' = .c (B r) := by
  refine Nx.Call.of_body Try.func5 rfl en5 Try.ntmps5 rfl (fun Γ hok => ?_)
  unfold narthexlaw04_DagFlips at h
  refine Wp.seq ?_
  refine Wp.text [0, 1, 2] rfl rfl ?_ -- region 0
  refine TextR.assign rfl ?_
  refine TextR.done (.cons rfl (.cons rfl (.cons rfl .nil))) ?_
  refine Wp.seq ?_
  refine Wp.seq ?_
  obtain ⟨y1, hy1, h⟩ := bind_some h
  obtain ⟨y2, hy2, h⟩ := bind_some h
  refine Wp.go false none [[], [], [], [(9, false)], [(9, false)], [(9, false)], [(9, false)], []] [] [0, 1, 2, 14] mixed rfl rfl (by kernel_rfl) ?_ -- region 1
  refine RunR.call rfl rfl rfl (fun H => c_narthexlaw04_awake N y1 hy1 H) ?_
  refine RunR.not rfl rfl rfl ?_
  refine RunR.move rfl rfl rfl ?_
  refine RunR.move rfl rfl rfl ?_
  refine RunR.move rfl rfl rfl ?_
  refine RunR.callG rfl rfl rfl (fun hb H => c_narthexlaw04_few N a0 a1 y2 (ifT hy2 gF hb) H) ?_
  refine RunR.not rfl rfl rfl ?_
  refine RunR.pickOr rfl rfl rfl rfl ?_
  refine RunR.doneQ (.cons rfl (.cons rfl (.cons rfl (.cons rfl .nil)))) ?_
  refine Wp.condM h rfl (fun hc1 h => ?_) (fun hc1 h => ?_)
  · refine Wp.seq ?_
    obtain ⟨y3, hy3, h⟩ := bind_some h
    refine Wp.text [6] rfl rfl ?_ -- region 2
    refine TextR.dcall rfl rfl (c_narthexlaw04_awake N y3 hy3 _) ?_
    refine TextR.assign rfl ?_
    refine TextR.done (.cons rfl .nil) ?_
    refine Wp.ret ?_
    obtain rfl := Option.some.inj h
    exact Ret.one rfl (resV_tmp rfl) rfl
  · refine Wp.skip ?_
    refine Wp.seq ?_
    obtain ⟨y4, hy4, h⟩ := bind_some h
    obtain ⟨y5, hy5, h⟩ := bind_some h
    obtain ⟨y6, hy6, h⟩ := bind_some h
    obtain ⟨y7, hy7, h⟩ := bind_some h
    obtain ⟨y8, hy8, h⟩ := bind_some h
    obtain ⟨y9, hy9, h⟩ := bind_some h
    obtain ⟨y10, hy10, h⟩ := bind_some h
    obtain ⟨y11, hy11, h⟩ := bind_some h
    refine Wp.go false none [[], [], [], [], [], [], [], [], [], [(24, true)], [(24, true)], [(24, true)], [(24, true)], [(24, true)], [(24, true)], [(24, true)], [(24, true)], [], []] [] [6] mixed rfl rfl (by kernel_rfl) ?_ -- region 3
    refine RunR.move rfl rfl rfl ?_
    refine RunR.call rfl rfl rfl (fun H => c_narthexlaw04_own N a1 y4 hy4 H) ?_
    refine RunR.move rfl rfl rfl ?_
    refine RunR.call rfl rfl rfl (fun H => c_dag_Flip N y4 a2 y5 hy5 H) ?_
    refine RunR.move rfl rfl rfl ?_
    refine RunR.move rfl rfl rfl ?_
    refine RunR.call rfl rfl rfl (fun H => c_narthexref04_Flip N a1 a2 y6 hy6 H) ?_
    refine RunR.call rfl rfl rfl (fun H => c_narthexref04_Same N y5 y6 y7 hy7 H) ?_
    refine RunR.move rfl rfl rfl ?_
    refine RunR.move rfl rfl rfl ?_
    refine RunR.move rfl rfl rfl ?_
    refine RunR.callG rfl rfl rfl (fun hb H => c_narthexlaw04_own N a1 y8 (ifT hy8 gT hb) H) ?_
    refine RunR.callG rfl rfl rfl (fun hb H => c_dag_Sinks N a0 y8 y9 (ifT hy9 gT hb) H) ?_
    refine RunR.move rfl rfl rfl ?_
    refine RunR.move rfl rfl rfl ?_
    refine RunR.callG rfl rfl rfl (fun hb H => c_narthexref04_Sinks N a0 a1 y10 (ifT hy10 gT hb) H) ?_
    refine RunR.callG rfl rfl rfl (fun hb H => c_narthexref01_Same N y9 y10 y11 (ifT hy11 gT hb) H) ?_
    refine RunR.pickAnd rfl rfl rfl rfl ?_
    refine RunR.assign rfl rfl rfl ?_
    refine RunR.doneQ (.cons rfl .nil) ?_
    refine Wp.ret ?_
    obtain rfl := Option.some.inj h
    exact Ret.one rfl (resV_tmp rfl) rfl
theorem c_narthexlaw04_DagFlips (N : Nat) (a0 : Int) (a1 : List TArc) (a2 : Int) (r : Bool) (h : narthexlaw04_DagFlips N a0 a1 a2 = some r) (H : List Ob) : DCall Try.prog 5 [.c (I a0), .c (.slv (a1.map eArc)), .c (I a2)] H (.c (B r)) := DCall.lift (by first | rfl | simp [-List.map_set]) (by first | rfl | simp [-List.map_set]) (fun _ => by simp [-List.map_set]) (w_narthexlaw04_DagFlips N a0 a1 a2 r h) H
-- narthex/narthexlaw04.DagDeep
theorem w_narthexlaw04_DagDeep (N : Nat) (a0 : Int) (a1 : List TArc) (r : Bool) (h : narthexlaw04_DagDeep N a0 a1 = some r) : Nx.Call Try.prog 6 [.c (I a0), .c (.slv (a1.map eArc))] [] fun r' _ => r' = .c (B r) := by
  refine Nx.Call.of_body Try.func6 rfl en6 Try.ntmps6 rfl (fun Γ hok => ?_)
  unfold narthexlaw04_DagDeep at h
  refine Wp.seq ?_
  refine Wp.text [0, 1] rfl rfl ?_ -- region 0
  refine TextR.assign rfl ?_
  refine TextR.done (.cons rfl (.cons rfl .nil)) ?_
  refine Wp.seq ?_
  refine Wp.seq ?_
  obtain ⟨y1, hy1, h⟩ := bind_some h
  obtain ⟨y2, hy2, h⟩ := bind_some h
  refine Wp.go false none [[], [], [], [(13, false)], [(13, false)], [(13, false)], [(13, false)], []] [] [0, 1, 18] mixed rfl rfl (by kernel_rfl) ?_ -- region 1
  refine RunR.call rfl rfl rfl (fun H => c_narthexlaw04_awake N y1 hy1 H) ?_
  refine RunR.not rfl rfl rfl ?_
  refine RunR.move rfl rfl rfl ?_
  refine RunR.move rfl rfl rfl ?_
  refine RunR.move rfl rfl rfl ?_
  refine RunR.callG rfl rfl rfl (fun hb H => c_narthexlaw04_few N a0 a1 y2 (ifT hy2 gF hb) H) ?_
  refine RunR.not rfl rfl rfl ?_
  refine RunR.pickOr rfl rfl rfl rfl ?_
  refine RunR.doneQ (.cons rfl (.cons rfl (.cons rfl .nil))) ?_
  refine Wp.condM h rfl (fun hc1 h => ?_) (fun hc1 h => ?_)
  · refine Wp.seq ?_
    obtain ⟨y3, hy3, h⟩ := bind_some h
    refine Wp.text [4] rfl rfl ?_ -- region 2
    refine TextR.dcall rfl rfl (c_narthexlaw04_awake N y3 hy3 _) ?_
    refine TextR.assign rfl ?_
    refine TextR.done (.cons rfl .nil) ?_
    refine Wp.ret ?_
    obtain rfl := Option.some.inj h
    exact Ret.one rfl (resV_tmp rfl) rfl
  · refine Wp.skip ?_
    refine Wp.seq ?_
    obtain ⟨y4, hy4, h⟩ := bind_some h
    obtain ⟨y5, hy5, h⟩ := bind_some h
    refine Wp.text [0, 1, 5, 6] rfl rfl ?_ -- region 3
    refine TextR.move rfl ?_
    refine TextR.move rfl ?_
    refine TextR.dcall rfl rfl (c_narthexlaw04_own N a1 y4 hy4 _) ?_
    refine TextR.dcall rfl rfl (c_dag_Depths N a0 y4 y5 hy5 _) ?_
    refine TextR.move rfl ?_
    refine TextR.extract rfl rfl ?_
    refine TextR.extract rfl rfl ?_
    refine TextR.assign rfl ?_
    refine TextR.assign rfl ?_
    refine TextR.done (.cons rfl (.cons rfl (.cons rfl (.cons rfl .nil)))) ?_
    refine Wp.seq ?_
    refine Wp.seq ?_
    refine Wp.text [0, 1, 5, 28] rfl rfl ?_ -- region 4
    refine TextR.move rfl ?_
    refine TextR.not rfl ?_
    refine TextR.done (.cons rfl (.cons rfl (.cons rfl (.cons rfl .nil)))) ?_
    refine Wp.condM h rfl (fun hc2 h => ?_) (fun hc2 h => ?_)
    · refine Wp.seq ?_
      refine Wp.text [4] rfl rfl ?_ -- region 5
      refine TextR.move rfl ?_
      refine TextR.lenM us25 rfl rfl ?_
      refine TextR.int rfl rfl rfl ?_
      refine TextR.assign rfl ?_
      refine TextR.done (.cons rfl .nil) ?_
      refine Wp.ret ?_
      obtain rfl := Option.some.inj h
      exact Ret.one rfl (resV_tmp rfl) rfl
    · refine Wp.skip ?_
      refine Wp.seq ?_
      refine Wp.text [0, 1, 5, 7] rfl rfl ?_ -- region 6
      refine TextR.buildSlice  0 se25 rfl rfl rfl .nil ?_
      refine TextR.assign rfl ?_
      refine TextR.done (.cons rfl (.cons rfl (.cons rfl (.cons rfl .nil)))) ?_
      refine Wp.seq ?_
      refine Wp.seq ?_
      refine Wp.text [0, 1, 5, 7, 8] rfl rfl ?_ -- region 7
      refine TextR.assign rfl ?_
      refine TextR.done (.cons rfl (.cons rfl (.cons rfl (.cons rfl (.cons rfl .nil))))) ?_
      obtain ⟨z6, hz6, h⟩ := bind_some h
      refine Wp.fragN (fun S => ∃ wz6_0, ∃ S', St.Weak ⟨Try.prog, 69, Γ⟩ S S' ∧ S' = ⟨[(5, .c (.slv (y5.1.map eI))), (7, .c (.sl 0 wz6_0 0 z6.length))], [.live wz6_0 1 (z6.map eI)]⟩) ?_ ?_
      · replace h := hz6
        refine Wp.block ?_
        refine Wp.weak (keepW (live := [0, 1, 5, 7, 8]) (.cons rfl (.cons rfl (.cons rfl (.cons rfl (.cons rfl .nil)))))) ?_
        refine Wp.loop (fun m S => ∃ l0_1, ∃ s8_1, ∃ wh0_1, narthexlaw04_DagDeep_L1 N a0 a1 y5 m l0_1 s8_1 = some z6 ∧ S = ⟨[(0, .c (I a0)), (1, .c (.slv (a1.map eArc))), (5, .c (.slv (y5.1.map eI))), (7, .c (.sl 0 wh0_1 0 l0_1.length)), (8, .c (I s8_1))], [.live wh0_1 1 (l0_1.map eI)]⟩) N ⟨_, _, _, h, rfl⟩ ?_
        rintro m1 _ ⟨l0_1, s8_1, wh0_1, h, rfl⟩
        cases m1 with
        | zero => rw [narthexlaw04_DagDeep_L1.eq_1] at h; cases h
        | succ m1 =>
        rw [narthexlaw04_DagDeep_L1.eq_2] at h
        refine Wp.seq ?_
        refine Wp.seq ?_
        refine Wp.text [0, 1, 5, 7, 8, 35] rfl rfl ?_ -- region 8
        refine TextR.move rfl ?_
        refine TextR.move rfl ?_
        refine TextR.int rfl rfl rfl ?_
        refine TextR.done (.cons rfl (.cons rfl (.cons rfl (.cons rfl (.cons rfl (.cons rfl .nil)))))) ?_
        refine Wp.condM h rfl (fun hc4 h => ?_) (fun hc4 h => ?_)
        · refine Wp.skip ?_
          refine Wp.seq ?_
          refine Wp.block ?_
          refine Wp.seq ?_
          refine Wp.text [0, 1, 5, 7, 8, 9] rfl rfl ?_ -- region 10
          refine TextR.assign rfl ?_
          refine TextR.done (.cons rfl (.cons rfl (.cons rfl (.cons rfl (.cons rfl (.cons rfl .nil)))))) ?_
          refine Wp.seq ?_
          refine Wp.seq ?_
          refine Wp.text [0, 1, 5, 7, 8, 9, 10] rfl rfl ?_ -- region 11
          refine TextR.assign rfl ?_
          refine TextR.done (.cons rfl (.cons rfl (.cons rfl (.cons rfl (.cons rfl (.cons rfl (.cons rfl .nil))))))) ?_
          obtain ⟨z7, hz7, h⟩ := bind_some h
          refine Wp.fragN (fun S => ∃ S', St.Weak ⟨Try.prog, 69, Γ⟩ S S' ∧ S' = ⟨[(0, .c (I a0)), (1, .c (.slv (a1.map eArc))), (5, .c (.slv (y5.1.map eI))), (7, .c (.sl 0 wh0_1 0 l0_1.length)), (8, .c (I s8_1)), (9, .c (I z7))], [.live wh0_1 1 (l0_1.map eI)]⟩) ?_ ?_
          · replace h := hz7
            refine Wp.block ?_
            refine Wp.weak (keepW (live := [0, 1, 5, 7, 8, 9, 10]) (.cons rfl (.cons rfl (.cons rfl (.cons rfl (.cons rfl (.cons rfl (.cons rfl .nil)))))))) ?_
            refine Wp.loop (fun m S => ∃ s9_2, ∃ s10_2, narthexlaw04_DagDeep_L2 N a1 y5 s8_1 m s9_2 s10_2 = some z7 ∧ S = ⟨[(0, .c (I a0)), (1, .c (.slv (a1.map eArc))), (5, .c (.slv (y5.1.map eI))), (7, .c (.sl 0 wh0_1 0 l0_1.length)), (8, .c (I s8_1)), (9, .c (I s9_2)), (10, .c (I s10_2))], [.live wh0_1 1 (l0_1.map eI)]⟩) N ⟨_, _, h, rfl⟩ ?_
            rintro m2 _ ⟨s9_2, s10_2, h, rfl⟩
            cases m2 with
            | zero => rw [narthexlaw04_DagDeep_L2.eq_1] at h; cases h
            | succ m2 =>
            rw [narthexlaw04_DagDeep_L2.eq_2] at h
            refine Wp.seq ?_
            refine Wp.seq ?_
            refine Wp.text [0, 1, 5, 7, 8, 9, 10, 41] rfl rfl ?_ -- region 12
            refine TextR.move rfl ?_
            refine TextR.move rfl ?_
            refine TextR.lenM us22 rfl rfl ?_
            refine TextR.int rfl rfl rfl ?_
            refine TextR.done (.cons rfl (.cons rfl (.cons rfl (.cons rfl (.cons rfl (.cons rfl (.cons rfl (.cons rfl .nil)))))))) ?_
            refine Wp.condM h rfl (fun hc6 h => ?_) (fun hc6 h => ?_)
            · refine Wp.skip ?_
              refine Wp.seq ?_
              refine Wp.block ?_
              refine Wp.seq ?_
              obtain ⟨x8, hx8, h⟩ := bind_some h
              refine Wp.text [0, 1, 5, 7, 8, 9, 10, 50] rfl rfl ?_ -- region 14
              refine TextR.move rfl ?_
              refine TextR.move rfl ?_
              refine TextR.indexA se22 rfl rfl rfl hx8 rfl ?_
              refine TextR.fieldAddr fo37_1 rfl rfl rfl ?_
              refine TextR.load1M tk3 rfl (at_get hx8) rfl ?_
              refine TextR.move rfl ?_
              refine TextR.int rfl rfl rfl ?_
              refine TextR.done (.cons rfl (.cons rfl (.cons rfl (.cons rfl (.cons rfl (.cons rfl (.cons rfl (.cons rfl .nil)))))))) ?_
              refine Wp.condM h rfl (fun hc7 h => ?_) (fun hc7 h => ?_)
              · obtain ⟨x9, hx9, h⟩ := bind_some h
                obtain ⟨x10, hx10, h⟩ := bind_some h
                refine Wp.text [0, 1, 5, 7, 8, 9, 10] rfl rfl ?_ -- region 15
                refine TextR.move rfl ?_
                refine TextR.move rfl ?_
                refine TextR.move rfl ?_
                refine TextR.move rfl ?_
                refine TextR.indexA se22 rfl rfl rfl hx9 rfl ?_
                refine TextR.fieldAddr fo37_0 rfl rfl rfl ?_
                refine TextR.load1M tk3 rfl (at_get hx9) rfl ?_
                refine TextR.indexA se25 rfl rfl rfl hx10 rfl ?_
                refine TextR.load1M tk3 rfl (at_get hx10) rfl ?_
                refine TextR.int rfl rfl rfl ?_
                refine TextR.minmax (.inr rfl) rfl ?_
                refine TextR.assign rfl ?_
                refine TextR.done (.cons rfl (.cons rfl (.cons rfl (.cons rfl (.cons rfl (.cons rfl (.cons rfl .nil))))))) ?_
                refine Wp.text [0, 1, 5, 7, 8, 9, 10] rfl rfl ?_ -- region 13
                refine TextR.move rfl ?_
                refine TextR.int rfl rfl rfl ?_
                refine TextR.assign rfl ?_
                refine TextR.done (.cons rfl (.cons rfl (.cons rfl (.cons rfl (.cons rfl (.cons rfl (.cons rfl .nil))))))) ?_
                exact ⟨m2, Nat.lt_succ_self _, _, (keepW (live := [0, 1, 5, 7, 8, 9, 10]) (.cons rfl (.cons rfl (.cons rfl (.cons rfl (.cons rfl (.cons rfl (.cons rfl .nil)))))))), _, _, h, rfl⟩
              · refine Wp.skip ?_
                refine Wp.text [0, 1, 5, 7, 8, 9, 10] rfl rfl ?_ -- region 13
                refine TextR.move rfl ?_
                refine TextR.int rfl rfl rfl ?_
                refine TextR.assign rfl ?_
                refine TextR.done (.cons rfl (.cons rfl (.cons rfl (.cons rfl (.cons rfl (.cons rfl (.cons rfl .nil))))))) ?_
                exact ⟨m2, Nat.lt_succ_self _, _, (keepW (live := [0, 1, 5, 7, 8, 9, 10]) (.cons rfl (.cons rfl (.cons rfl (.cons rfl (.cons rfl (.cons rfl (.cons rfl .nil)))))))), _, _, h, rfl⟩
            · refine Wp.exit ?_
              obtain rfl := Option.some.inj h
              exact ⟨_, (keepW (live := [0, 1, 5, 7, 8, 9]) (.cons rfl (.cons rfl (.cons rfl (.cons rfl (.cons rfl (.cons rfl .nil))))))), rfl⟩
          rintro _ ⟨S', hw, rfl⟩
          clear hz7
          refine Wp.weak hw ?_
          obtain ⟨x11, hx11, h⟩ := bind_some h
          refine Wp.text [0, 1, 5, 7, 8] rfl rfl ?_ -- region 16
          refine TextR.move rfl ?_
          refine TextR.move rfl ?_
          refine TextR.buildSlice (rows := [z7].map eI) 1 se25 rfl rfl rfl (.cons .nil) ?_
          refine TextR.appendM eI l0_1 [z7] x11 (app_eq hx11) se25 rfl (obj_of rfl) rfl (view_whole (f := eI) (xs := [z7]) rfl) (fun _ => rfl) rfl (app_len hx11) .zero ?_
          refine TextR.assign rfl ?_
          refine TextR.done (.cons rfl (.cons rfl (.cons rfl (.cons rfl (.cons rfl .nil))))) ?_
          refine Wp.text [0, 1, 5, 7, 8] rfl rfl ?_ -- region 9
          refine TextR.move rfl ?_
          refine TextR.int rfl rfl rfl ?_
          refine TextR.assign rfl ?_
          refine TextR.done (.cons rfl (.cons rfl (.cons rfl (.cons rfl (.cons rfl .nil))))) ?_
          exact ⟨m1, Nat.lt_succ_self _, _, (St.Weak.trans (keepW (live := [0, 1, 5, 7, 8]) (.cons rfl (.cons rfl (.cons rfl (.cons rfl (.cons rfl .nil)))))) (pickT (e' := [(0, .c (I a0)), (1, .c (.slv (a1.map eArc))), (5, .c (.slv (y5.1.map eI))), (7, .c (.sl 0 (wh0_1 + 1) 0 x11.length)), (8, .c (I (w64 (s8_1 + 1))))]) (H' := [.live (wh0_1 + 1) 1 (x11.map eI)]) [0] [0, 0] 0 hok.len.symm rfl rfl (by decide) (by first | rfl | simp [-List.map_set]) (by first | rfl | simp [-List.map_set]) (by first | rfl | simp [-List.map_set]) (by first | rfl | simp [-List.map_set]))), _, _, _, h, rfl⟩
        · refine Wp.exit ?_
          obtain rfl := Option.some.inj h
          exact ⟨_, _, (keepW (live := [5, 7]) (.cons rfl (.cons rfl .nil))), rfl⟩
      rintro _ ⟨wz6_0, S', hw, rfl⟩
      clear hz6
      refine Wp.weak hw ?_
      refine Wp.seq ?_
      obtain ⟨y12, hy12, h⟩ := bind_some h
      refine Wp.text [4] rfl rfl ?_ -- region 17
      refine TextR.move rfl ?_
      refine TextR.move rfl ?_
      refine TextR.dcall rfl rfl (DCall.borrow (fs := [.c (.slv (y5.1.map eI)), .c (.slv (z6.map eI))]) (by simp [-List.map_set, obj, List.take_of_length_le]) (by first | rfl | simp [-List.map_set]) rfl (w_narthexref01_Same N y5.1 z6 y12 hy12)) ?_
      refine TextR.assign rfl ?_
      refine TextR.done (.cons rfl .nil) ?_
      refine Wp.ret ?_
      obtain rfl := Option.some.inj h
      exact Ret.one rfl (resV_tmp rfl) rfl
theorem c_narthexlaw04_DagDeep (N : Nat) (a0 : Int) (a1 : List TArc) (r : Bool) (h : narthexlaw04_DagDeep N a0 a1 = some r) (H : List Ob) : DCall Try.prog 6 [.c (I a0), .c (.slv (a1.map eArc))] H (.c (B r)) := DCall.lift (by first | rfl | simp [-List.map_set]) (by first | rfl | simp [-List.map_set]) (fun _ => by simp [-List.map_set]) (w_narthexlaw04_DagDeep N a0 a1 r h) H
-- narthex/narthexlaw04.DagLess
theorem w_narthexlaw04_DagLess (N : Nat) (a0 : Int) (a1 : List TArc) (a2 : Int) (r : Bool) (h : narthexlaw04_DagLess N a0 a1 a2 = some r) : Nx.Call Try.prog 7 [.c (I a0), .c (.slv (a1.map eArc)), .c (.v (.int .u8 a2))] [] fun r' _ => r' = .c (B r) := by
  refine Nx.Call.of_body Try.func7 rfl en7 Try.ntmps7 rfl (fun Γ hok => ?_)
  unfold narthexlaw04_DagLess at h
  refine Wp.seq ?_
  refine Wp.text [0, 1, 2] rfl rfl ?_ -- region 0
  refine TextR.assign rfl ?_
  refine TextR.done (.cons rfl (.cons rfl (.cons rfl .nil))) ?_
  refine Wp.seq ?_
  refine Wp.seq ?_
  obtain ⟨y1, hy1, h⟩ := bind_some h
  obtain ⟨y2, hy2, h⟩ := bind_some h
  refine Wp.go false none [[], [], [], [(15, false)], [(15, false)], [(15, false)], [(15, false)], [], [], [(21, false)], [(21, false)], [(21, false)], []] [] [0, 1, 2, 25] mixed rfl rfl (by kernel_rfl) ?_ -- region 1
  refine RunR.call rfl rfl rfl (fun H => c_narthexlaw04_awake N y1 hy1 H) ?_
  refine RunR.not rfl rfl rfl ?_
  refine RunR.move rfl rfl rfl ?_
  refine RunR.move rfl rfl rfl ?_
  refine RunR.move rfl rfl rfl ?_
  refine RunR.callG rfl rfl rfl (fun hb H => c_narthexlaw04_few N a0 a1 y2 (ifT hy2 gF hb) H) ?_
  refine RunR.not rfl rfl rfl ?_
  refine RunR.pickOr rfl rfl rfl rfl ?_
  refine RunR.move rfl rfl rfl ?_
  refine RunR.move rfl rfl rfl ?_
  refine RunR.lenM us22 rfl rfl rfl rfl ?_
  refine RunR.int rfl rfl rfl rfl rfl ?_
  refine RunR.pickOr rfl rfl rfl rfl ?_
  refine RunR.doneQ (.cons rfl (.cons rfl (.cons rfl (.cons rfl .nil)))) ?_
  refine Wp.condM h rfl (fun hc1 h => ?_) (fun hc1 h => ?_)
  · refine Wp.seq ?_
    obtain ⟨y3, hy3, h⟩ := bind_some h
    refine Wp.text [6] rfl rfl ?_ -- region 2
    refine TextR.dcall rfl rfl (c_narthexlaw04_awake N y3 hy3 _) ?_
    refine TextR.assign rfl ?_
    refine TextR.done (.cons rfl .nil) ?_
    refine Wp.ret ?_
    obtain rfl := Option.some.inj h
    exact Ret.one rfl (resV_tmp rfl) rfl
  · refine Wp.skip ?_
    refine Wp.seq ?_
    obtain ⟨y4, hy4, h⟩ := bind_some h
    obtain ⟨y5, hy5, h⟩ := bind_some h
    refine Wp.text [0, 1, 2, 7, 8] rfl rfl ?_ -- region 3
    refine TextR.move rfl ?_
    refine TextR.move rfl ?_
    refine TextR.dcall rfl rfl (c_narthexlaw04_own N a1 y4 hy4 _) ?_
    refine TextR.dcall rfl rfl (c_dag_Depths N a0 y4 y5 hy5 _) ?_
    refine TextR.move rfl ?_
    refine TextR.extract rfl rfl ?_
    refine TextR.extract rfl rfl ?_
    refine TextR.assign rfl ?_
    refine TextR.assign rfl ?_
    refine TextR.done (.cons rfl (.cons rfl (.cons rfl (.cons rfl (.cons rfl .nil))))) ?_
    refine Wp.seq ?_
    refine Wp.seq ?_
    refine Wp.text [0, 1, 2, 7, 35] rfl rfl ?_ -- region 4
    refine TextR.move rfl ?_
    refine TextR.not rfl ?_
    refine TextR.done (.cons rfl (.cons rfl (.cons rfl (.cons rfl (.cons rfl .nil))))) ?_
    refine Wp.condM h rfl (fun hc2 h => ?_) (fun hc2 h => ?_)
    · refine Wp.seq ?_
      refine Wp.text [6] rfl rfl ?_ -- region 5
      refine TextR.assign rfl ?_
      refine TextR.done (.cons rfl .nil) ?_
      refine Wp.ret ?_
      obtain rfl := Option.some.inj h
      exact Ret.one rfl (resV_tmp rfl) rfl
    · refine Wp.skip ?_
      refine Wp.seq ?_
      obtain ⟨x6, hx6, h⟩ := bind_some h
      refine Wp.text [0, 1, 7, 9] rfl rfl ?_ -- region 6
      refine TextR.move rfl ?_
      refine TextR.convert ik5 ik3 rfl ?_
      refine TextR.move rfl ?_
      refine TextR.lenM us22 rfl rfl ?_
      refine TextR.int (l := .v (.int .i64 x6)) rfl rfl (rem_eq hx6) ?_
      refine TextR.assign rfl ?_
      refine TextR.done (.cons rfl (.cons rfl (.cons rfl (.cons rfl .nil)))) ?_
      refine Wp.seq ?_
      obtain ⟨x7, hx7, h⟩ := bind_some h
      obtain ⟨y8, hy8, h⟩ := bind_some h
      obtain ⟨x9, hx9, h⟩ := bind_some h
      obtain ⟨x10, hx10, h⟩ := bind_some h
      obtain ⟨y11, hy11, h⟩ := bind_some h
      refine Wp.go true (some ⟨[0], [13]⟩) [] [true, false, false, false, false, true, true, true, true, false, false, false, false, false, false, false] [7, 10, 11] mixed rfl rfl (by kernel_rfl) ?_ -- region 7
      refine RunR.move rfl rfl rfl ?_
      refine RunR.move rfl rfl rfl ?_
      refine RunR.move rfl rfl rfl ?_
      refine RunR.sliceM se22 rfl rfl rfl rfl rfl rfl rfl hx7 (fun _ => rfl) ?_
      refine RunR.turn rfl rfl rfl rfl (.more rfl .nil) (by exact o_narthexlaw04_own N x7 y8 hy8 0 rfl .nil) ?_
      refine RunR.move rfl rfl rfl ?_
      refine RunR.move rfl rfl rfl ?_
      refine RunR.int rfl rfl rfl rfl rfl ?_
      refine RunR.sliceM se22 rfl rfl rfl rfl rfl rfl rfl hx9 (fun _ => rfl) ?_
      refine RunR.frz (x0 := .c (.sl 0 1 0 x10.length)) (H0 := [.live 1 2 (x10.map eArc)]) (x := .c (.slv (x10.map eArc))) (RunR.appendM eArc y8 x9 x10 (app_eq hx10) se22 rfl rfl rfl rfl rfl rfl (fun _ => rfl) rfl (app_len hx10) .zero (RunR.nil ⟨rfl, rfl⟩)) rfl rfl rfl rfl (Frz.of_weak fun Γ => (freezeW (F := ⟨Try.prog, 1, Γ⟩) (h := 0) (ver := 1) (rows := x10.map eArc) (e' := [(0, .c (.slv (x10.map eArc)))]) (H' := [.dead]) rfl (by first | rfl | simp [-List.map_set]) (by first | rfl | simp [-List.map_set]))) (.turn rfl .nil) ?_
      refine RunR.call rfl rfl rfl (fun H => c_dag_Depths N a0 x10 y11 hy11 H) ?_
      refine RunR.move rfl rfl rfl ?_
      refine RunR.extract rfl rfl rfl rfl ?_
      refine RunR.extract rfl rfl rfl rfl ?_
      refine RunR.assign rfl rfl rfl ?_
      refine RunR.assign rfl rfl rfl ?_
      refine RunR.doneQ (.cons rfl (.cons rfl (.cons rfl .nil))) ?_
      refine Wp.seq ?_
      refine Wp.seq ?_
      refine Wp.text [7, 10, 11, 12] rfl rfl ?_ -- region 8
      refine TextR.assign rfl ?_
      refine TextR.done (.cons rfl (.cons rfl (.cons rfl (.cons rfl .nil)))) ?_
      obtain ⟨z12, hz12, h⟩ := bind_some h
      refine Wp.fragR (fun S => ∃ z14, z12 = .inr z14 ∧ ∃ S', St.Weak ⟨Try.prog, 84, Γ⟩ S S' ∧ S' = ⟨[(7, .c (.slv (y5.1.map eI))), (10, .c (.slv (y11.1.map eI))), (11, .c (B y11.2))], []⟩) (fun S => ∃ v, z12 = .inl v ∧ Ret Try.prog Try.f7 (fun r' _ => r' = .c (B v)) .ret S) ?_ ?_ ?_
      · replace h := hz12
        refine Wp.block ?_
        refine Wp.weak (St.Weak.trans (keepW (live := [7, 10, 11, 12]) (.cons rfl (.cons rfl (.cons rfl (.cons rfl .nil))))) (pickT (e' := [(7, .c (.slv (y5.1.map eI))), (10, .c (.slv (y11.1.map eI))), (11, .c (B y11.2)), (12, .c (I 0))]) (H' := []) [] [0] 0 hok.len.symm rfl rfl (by decide) (by first | rfl | simp [-List.map_set]) (by first | rfl | simp [-List.map_set]) (by first | rfl | simp [-List.map_set]) (by first | rfl | simp [-List.map_set]))) ?_
        refine Wp.loop (fun m S => ∃ s12_1, narthexlaw04_DagLess_L1 N y5 y11 m s12_1 = some z12 ∧ S = ⟨[(7, .c (.slv (y5.1.map eI))), (10, .c (.slv (y11.1.map eI))), (11, .c (B y11.2)), (12, .c (I s12_1))], []⟩) N ⟨_, h, rfl⟩ ?_
        rintro m1 _ ⟨s12_1, h, rfl⟩
        cases m1 with
        | zero => rw [narthexlaw04_DagLess_L1.eq_1] at h; cases h
        | succ m1 =>
        rw [narthexlaw04_DagLess_L1.eq_2] at h
        refine Wp.seq ?_
        refine Wp.seq ?_
        refine Wp.go false none [[], [], [], [], [], [(59, true)], [(59, true)], [(59, true)], [(59, true)], []] [] [7, 10, 11, 12, 64] mixed rfl rfl (by kernel_rfl) ?_ -- region 9
        refine RunR.move rfl rfl rfl ?_
        refine RunR.move rfl rfl rfl ?_
        refine RunR.lenM us25 rfl rfl rfl rfl ?_
        refine RunR.int rfl rfl rfl rfl rfl ?_
        refine RunR.move rfl rfl rfl ?_
        refine RunR.move rfl rfl rfl ?_
        refine RunR.move rfl rfl rfl ?_
        refine RunR.lenM us25 rfl rfl rfl rfl ?_
        refine RunR.int rfl rfl rfl rfl rfl ?_
        refine RunR.pickAnd rfl rfl rfl rfl ?_
        refine RunR.doneQ (.cons rfl (.cons rfl (.cons rfl (.cons rfl (.cons rfl .nil))))) ?_
        refine Wp.condM h rfl (fun hc4 h => ?_) (fun hc4 h => ?_)
        · refine Wp.skip ?_
          refine Wp.seq ?_
          refine Wp.block ?_
          refine Wp.seq ?_
          obtain ⟨x15, hx15, h⟩ := bind_some h
          obtain ⟨x16, hx16, h⟩ := bind_some h
          refine Wp.go true (some ⟨[], []⟩) [] [] [7, 10, 11, 12, 75] mixed rfl rfl (by kernel_rfl) ?_ -- region 11
          refine RunR.move rfl rfl rfl ?_
          refine RunR.move rfl rfl rfl ?_
          refine RunR.indexA se25 rfl rfl rfl rfl rfl hx15 rfl ?_
          refine RunR.load1M tk3 rfl rfl rfl (at_get hx15) rfl ?_
          refine RunR.move rfl rfl rfl ?_
          refine RunR.move rfl rfl rfl ?_
          refine RunR.indexA se25 rfl rfl rfl rfl rfl hx16 rfl ?_
          refine RunR.load1M tk3 rfl rfl rfl (at_get hx16) rfl ?_
          refine RunR.int rfl rfl rfl rfl rfl ?_
          refine RunR.doneQ (.cons rfl (.cons rfl (.cons rfl (.cons rfl (.cons rfl .nil))))) ?_
          refine Wp.condM h rfl (fun hc5 h => ?_) (fun hc5 h => ?_)
          · refine Wp.seq ?_
            refine Wp.text [6] rfl rfl ?_ -- region 12
            refine TextR.assign rfl ?_
            refine TextR.done (.cons rfl .nil) ?_
            refine Wp.ret ?_
            exact ⟨_, (Option.some.inj h).symm, Ret.one rfl (resV_tmp rfl) rfl⟩
          · refine Wp.skip ?_
            refine Wp.text [7, 10, 11, 12] rfl rfl ?_ -- region 10
            refine TextR.move rfl ?_
            refine TextR.int rfl rfl rfl ?_
            refine TextR.assign rfl ?_
            refine TextR.done (.cons rfl (.cons rfl (.cons rfl (.cons rfl .nil)))) ?_
            exact ⟨m1, Nat.lt_succ_self _, _, (keepW (live := [7, 10, 11, 12]) (.cons rfl (.cons rfl (.cons rfl (.cons rfl .nil))))), _, h, rfl⟩
        · refine Wp.exit ?_
          exact ⟨_, (Option.some.inj h).symm, _, (keepW (live := [7, 10, 11]) (.cons rfl (.cons rfl (.cons rfl .nil)))), rfl⟩
      · rintro _ ⟨z14, rfl, _, hw, rfl⟩
        dsimp only at h
        clear hz12
        refine Wp.weak hw ?_
        refine Wp.seq ?_
        refine Wp.go false none [[], [], [(77, true)], [(77, true)], [(77, true)], [(77, true)], [(77, true)], [], []] [] [6] mixed rfl rfl (by kernel_rfl) ?_ -- region 13
        refine RunR.move rfl rfl rfl ?_
        refine RunR.move rfl rfl rfl ?_
        refine RunR.move rfl rfl rfl ?_
        refine RunR.lenM us25 rfl rfl rfl rfl ?_
        refine RunR.move rfl rfl rfl ?_
        refine RunR.lenM us25 rfl rfl rfl rfl ?_
        refine RunR.int rfl rfl rfl rfl rfl ?_
        refine RunR.pickAnd rfl rfl rfl rfl ?_
        refine RunR.assign rfl rfl rfl ?_
        refine RunR.doneQ (.cons rfl .nil) ?_
        refine Wp.ret ?_
        obtain rfl := Option.some.inj h
        exact Ret.one rfl (resV_tmp rfl) rfl
      · rintro S' ⟨r13, rfl, hR⟩
        dsimp only at h
        obtain rfl := Option.some.inj h
        exact hR
theorem c_narthexlaw04_DagLess (N : Nat) (a0 : Int) (a1 : List TArc) (a2 : Int) (r : Bool) (h : narthexlaw04_DagLess N a0 a1 a2 = some r) (H : List Ob) : DCall Try.prog 7 [.c (I a0), .c (.slv (a1.map eArc)), .c (.v (.int .u8 a2))] H (.c (B r)) := DCall.lift (by first | rfl | simp [-List.map_set]) (by first | rfl | simp [-List.map_set]) (fun _ => by simp [-List.map_set]) (w_narthexlaw04_DagLess N a0 a1 a2 r h) H
-- narthex/narthexlaw04.has
theorem w_narthexlaw04_has (N : Nat) (a0 : List TArc) (a1 : TArc) (r : Bool) (h : narthexlaw04_has N a0 a1 = some r) : Nx.Call Try.prog 27 [.c (.slv (a0.map eArc)), .agg (eArc a1)] [] fun r' _ => r' = .c (B r) := by
  refine Nx.Call.of_body Try.func27 rfl en27 Try.ntmps27 rfl (fun Γ hok => ?_)
  unfold narthexlaw04_has at h
  refine Wp.seq ?_
  refine Wp.text [0, 3] rfl rfl ?_ -- region 0
  refine TextR.box (cs := [I a1.From, I a1.To]) 0 rfl rfl rfl rfl .nil ?_
  refine TextR.assign rfl ?_
  refine TextR.done (.cons rfl (.cons rfl .nil)) ?_
  refine Wp.seq ?_
  refine Wp.seq ?_
  refine Wp.text [0, 3, 5] rfl rfl ?_ -- region 1
  refine TextR.assign rfl ?_
  refine TextR.done (.cons rfl (.cons rfl (.cons rfl .nil))) ?_
  obtain ⟨z1, hz1, h⟩ := bind_some h
  refine Wp.fragR (fun S => ∃ z3, z1 = .inr z3 ∧ ∃ S', St.Weak ⟨Try.prog, 18, Γ⟩ S S' ∧ S' = ⟨[], []⟩) (fun S => ∃ v, z1 = .inl v ∧ Ret Try.prog Try.f27 (fun r' _ => r' = .c (B v)) .ret S) ?_ ?_ ?_
  · replace h := hz1
    refine Wp.block ?_
    refine Wp.weak (keepW (live := [0, 3, 5]) (.cons rfl (.cons rfl (.cons rfl .nil)))) ?_
    refine Wp.loop (fun m S => ∃ s5_1, narthexlaw04_has_L1 N a0 a1 m s5_1 = some z1 ∧ S = ⟨[(0, .c (.slv (a0.map eArc))), (3, .c (.ptr 0 0 0 0)), (5, .c (I s5_1))], [.live 0 2 [[I a1.From, I a1.To]]]⟩) N ⟨_, h, rfl⟩ ?_
    rintro m1 _ ⟨s5_1, h, rfl⟩
    cases m1 with
    | zero => rw [narthexlaw04_has_L1.eq_1] at h; cases h
    | succ m1 =>
    rw [narthexlaw04_has_L1.eq_2] at h
    refine Wp.seq ?_
    refine Wp.seq ?_
    refine Wp.text [0, 3, 5, 9] rfl rfl ?_ -- region 2
    refine TextR.move rfl ?_
    refine TextR.move rfl ?_
    refine TextR.lenM us22 rfl rfl ?_
    refine TextR.int rfl rfl rfl ?_
    refine TextR.done (.cons rfl (.cons rfl (.cons rfl (.cons rfl .nil)))) ?_
    refine Wp.condM h rfl (fun hc2 h => ?_) (fun hc2 h => ?_)
    · refine Wp.skip ?_
      refine Wp.seq ?_
      refine Wp.block ?_
      refine Wp.seq ?_
      obtain ⟨x4, hx4, h⟩ := bind_some h
      refine Wp.go true (some ⟨[], []⟩) [] [] [0, 3, 5, 17] mixed rfl rfl (by kernel_rfl) ?_ -- region 4
      refine RunR.move rfl rfl rfl ?_
      refine RunR.move rfl rfl rfl ?_
      refine RunR.indexA se22 rfl rfl rfl rfl rfl hx4 rfl ?_
      refine RunR.loadNM tk37 rfl rfl rfl (at_get hx4) rfl ?_
      refine RunR.loadN (cs := [I a1.From, I a1.To]) tk37 rfl rfl rfl rfl ?_
      refine RunR.eqAgg eqs37 rfl rfl rfl rfl (q_Arc x4 a1) ?_
      refine RunR.doneQ (.cons rfl (.cons rfl (.cons rfl (.cons rfl .nil)))) ?_
      refine Wp.condM h rfl (fun hc3 h => ?_) (fun hc3 h => ?_)
      · refine Wp.seq ?_
        refine Wp.text [4] rfl rfl ?_ -- region 5
        refine TextR.assign rfl ?_
        refine TextR.done (.cons rfl .nil) ?_
        refine Wp.ret ?_
        exact ⟨_, (Option.some.inj h).symm, Ret.one rfl (resV_tmp rfl) rfl⟩
      · refine Wp.skip ?_
        refine Wp.text [0, 3, 5] rfl rfl ?_ -- region 3
        refine TextR.move rfl ?_
        refine TextR.int rfl rfl rfl ?_
        refine TextR.assign rfl ?_
        refine TextR.done (.cons rfl (.cons rfl (.cons rfl .nil))) ?_
        exact ⟨m1, Nat.lt_succ_self _, _, (keepW (live := [0, 3, 5]) (.cons rfl (.cons rfl (.cons rfl .nil)))), _, h, rfl⟩
    · refine Wp.exit ?_
      exact ⟨_, (Option.some.inj h).symm, _, (St.Weak.trans (keepW (live := []) .nil) (pickT (e' := []) (H' := []) [] [0] 0 hok.len.symm rfl rfl (by decide) (by first | rfl | simp [-List.map_set]) (by first | rfl | simp [-List.map_set]) (by first | rfl | simp [-List.map_set]) (by first | rfl | simp [-List.map_set]))), rfl⟩
  · rintro _ ⟨z3, rfl, _, hw, rfl⟩
    dsimp only at h
    clear hz1
    refine Wp.weak hw ?_
    refine Wp.seq ?_
    refine Wp.text [4] rfl rfl ?_ -- region 6
    refine TextR.assign rfl ?_
    refine TextR.done (.cons rfl .nil) ?_
    refine Wp.ret ?_
    obtain rfl := Option.some.inj h
    exact Ret.one rfl (resV_tmp rfl) rfl
  · rintro S' ⟨r2, rfl, hR⟩
    dsimp only at h
    obtain rfl := Option.some.inj h
    exact hR
theorem c_narthexlaw04_has (N : Nat) (a0 : List TArc) (a1 : TArc) (r : Bool) (h : narthexlaw04_has N a0 a1 = some r) (H : List Ob) : DCall Try.prog 27 [.c (.slv (a0.map eArc)), .agg (eArc a1)] H (.c (B r)) := DCall.lift (by first | rfl | simp [-List.map_set]) (by first | rfl | simp [-List.map_set]) (fun _ => by simp [-List.map_set]) (w_narthexlaw04_has N a0 a1 r h) H
-- narthex/set.Has
theorem w_set_Has (N : Nat) (a0 : List Int) (a1 : Int) (r : Bool) (h : set_Has N a0 a1 = some r) : Nx.Call Try.prog 28 [.c (.slv (a0.map eI)), .c (I a1)] [] fun r' _ => r' = .c (B r) := by
  refine Nx.Call.of_body Try.func28 rfl en28 Try.ntmps28 rfl (fun Γ hok => ?_)
  unfold set_Has at h
  refine Wp.seq ?_
  refine Wp.text [0, 1] rfl rfl ?_ -- region 0
  refine TextR.assign rfl ?_
  refine TextR.done (.cons rfl (.cons rfl .nil)) ?_
  refine Wp.seq ?_
  obtain ⟨y1, hy1, h⟩ := bind_some h
  refine Wp.text [4] rfl rfl ?_ -- region 1
  refine TextR.move rfl ?_
  refine TextR.move rfl ?_
  refine TextR.dcall rfl rfl (c_slices_Contains_int N a0 a1 y1 hy1 _) ?_
  refine TextR.assign rfl ?_
  refine TextR.done (.cons rfl .nil) ?_
  refine Wp.ret ?_
  obtain rfl := Option.some.inj h
  exact Ret.one rfl (resV_tmp rfl) rfl
theorem c_set_Has (N : Nat) (a0 : List Int) (a1 : Int) (r : Bool) (h : set_Has N a0 a1 = some r) (H : List Ob) : DCall Try.prog 28 [.c (.slv (a0.map eI)), .c (I a1)] H (.c (B r)) := DCall.lift (by first | rfl | simp [-List.map_set]) (by first | rfl | simp [-List.map_set]) (fun _ => by simp [-List.map_set]) (w_set_Has N a0 a1 r h) H
-- narthex/narthexlaw04.DagSink
theorem w_narthexlaw04_DagSink (N : Nat) (a0 : Int) (a1 : List TArc) (a2 : Int) (a3 : Int) (r : Bool) (h : narthexlaw04_DagSink N a0 a1 a2 a3 = some r) : Nx.Call Try.prog 8 [.c (I a0), .c (.slv (a1.map eArc)), .c (I a2), .c (I a3)] [] fun r' _ => r' = .c (B r) := by
  refine Nx.Call.of_body Try.func8 rfl en8 Try.ntmps8 rfl (fun Γ hok => ?_)
  unfold narthexlaw04_DagSink at h
  refine Wp.seq ?_
  refine Wp.text [0, 1, 2, 3] rfl rfl ?_ -- region 0
  refine TextR.assign rfl ?_
  refine TextR.done (.cons rfl (.cons rfl (.cons rfl (.cons rfl .nil)))) ?_
  refine Wp.seq ?_
  refine Wp.seq ?_
  obtain ⟨y1, hy1, h⟩ := bind_some h
  obtain ⟨y2, hy2, h⟩ := bind_some h
  obtain ⟨y3, hy3, h⟩ := bind_some h
  obtain ⟨y4, hy4, h⟩ := bind_some h
  refine Wp.go false none [[], [], [], [(20, false)], [(20, false)], [(20, false)], [(20, false)], [], [], [(26, false)], [(26, false)], [(26, false)], [(26, false)], [(26, false)], [], [], [(33, false)], [(33, false)], [], [], [(37, false)], [(37, false)], [(37, false)], [], [], [(42, false)], [(42, false)], [], [], [(46, false)], [(46, false)], [(46, false)], [], [], [(51, false)], [(51, false)], [(51, false)], []] [] [0, 1, 2, 3, 55] mixed rfl rfl (by kernel_rfl) ?_ -- region 1
  refine RunR.call rfl rfl rfl (fun H => c_narthexlaw04_awake N y1 hy1 H) ?_
  refine RunR.not rfl rfl rfl ?_
  refine RunR.move rfl rfl rfl ?_
  refine RunR.move rfl rfl rfl ?_
  refine RunR.move rfl rfl rfl ?_
  refine RunR.callG rfl rfl rfl (fun hb H => c_narthexlaw04_few N a0 a1 y2 (ifT hy2 gF hb) H) ?_
  refine RunR.not rfl rfl rfl ?_
  refine RunR.pickOr rfl rfl rfl rfl ?_
  refine RunR.move rfl rfl rfl ?_
  refine RunR.move rfl rfl rfl ?_
  refine RunR.move rfl rfl rfl ?_
  refine RunR.callG rfl rfl rfl (fun hb H => c_narthexlaw04_own N a1 y3 (ifT hy3 gF hb) H) ?_
  refine RunR.callG rfl rfl rfl (fun hb H => c_dag_Check N a0 y3 y4 (ifT hy4 gF hb) H) ?_
  refine RunR.int rfl rfl rfl rfl rfl ?_
  refine RunR.pickOr rfl rfl rfl rfl ?_
  refine RunR.move rfl rfl rfl ?_
  refine RunR.move rfl rfl rfl ?_
  refine RunR.int rfl rfl rfl rfl rfl ?_
  refine RunR.pickOr rfl rfl rfl rfl ?_
  refine RunR.move rfl rfl rfl ?_
  refine RunR.move rfl rfl rfl ?_
  refine RunR.move rfl rfl rfl ?_
  refine RunR.int rfl rfl rfl rfl rfl ?_
  refine RunR.pickOr rfl rfl rfl rfl ?_
  refine RunR.move rfl rfl rfl ?_
  refine RunR.move rfl rfl rfl ?_
  refine RunR.int rfl rfl rfl rfl rfl ?_
  refine RunR.pickOr rfl rfl rfl rfl ?_
  refine RunR.move rfl rfl rfl ?_
  refine RunR.move rfl rfl rfl ?_
  refine RunR.move rfl rfl rfl ?_
  refine RunR.int rfl rfl rfl rfl rfl ?_
  refine RunR.pickOr rfl rfl rfl rfl ?_
  refine RunR.move rfl rfl rfl ?_
  refine RunR.move rfl rfl rfl ?_
  refine RunR.move rfl rfl rfl ?_
  refine RunR.int rfl rfl rfl rfl rfl ?_
  refine RunR.pickOr rfl rfl rfl rfl ?_
  refine RunR.doneQ (.cons rfl (.cons rfl (.cons rfl (.cons rfl (.cons rfl .nil))))) ?_
  refine Wp.condM h rfl (fun hc1 h => ?_) (fun hc1 h => ?_)
  · refine Wp.seq ?_
    obtain ⟨y5, hy5, h⟩ := bind_some h
    refine Wp.text [8] rfl rfl ?_ -- region 2
    refine TextR.dcall rfl rfl (c_narthexlaw04_awake N y5 hy5 _) ?_
    refine TextR.assign rfl ?_
    refine TextR.done (.cons rfl .nil) ?_
    refine Wp.ret ?_
    obtain rfl := Option.some.inj h
    exact Ret.one rfl (resV_tmp rfl) rfl
  · refine Wp.skip ?_
    refine Wp.seq ?_
    obtain ⟨y6, hy6, h⟩ := bind_some h
    obtain ⟨y7, hy7, h⟩ := bind_some h
    refine Wp.text [0, 1, 2, 3, 10] rfl rfl ?_ -- region 3
    refine TextR.move rfl ?_
    refine TextR.move rfl ?_
    refine TextR.dcall rfl rfl (c_narthexlaw04_own N a1 y6 hy6 _) ?_
    refine TextR.dcall rfl rfl (c_dag_Order N a0 y6 y7 hy7 _) ?_
    refine TextR.move rfl ?_
    refine TextR.extract rfl rfl ?_
    refine TextR.extract rfl rfl ?_
    refine TextR.assign rfl ?_
    refine TextR.assign rfl ?_
    refine TextR.done (.cons rfl (.cons rfl (.cons rfl (.cons rfl (.cons rfl .nil))))) ?_
    refine Wp.seq ?_
    refine Wp.seq ?_
    refine Wp.text [0, 1, 2, 3, 65] rfl rfl ?_ -- region 4
    refine TextR.move rfl ?_
    refine TextR.not rfl ?_
    refine TextR.done (.cons rfl (.cons rfl (.cons rfl (.cons rfl (.cons rfl .nil))))) ?_
    refine Wp.condM h rfl (fun hc2 h => ?_) (fun hc2 h => ?_)
    · refine Wp.seq ?_
      refine Wp.text [8] rfl rfl ?_ -- region 5
      refine TextR.assign rfl ?_
      refine TextR.done (.cons rfl .nil) ?_
      refine Wp.ret ?_
      obtain rfl := Option.some.inj h
      exact Ret.one rfl (resV_tmp rfl) rfl
    · refine Wp.skip ?_
      refine Wp.seq ?_
      refine Wp.text [0, 1, 2, 3, 11] rfl rfl ?_ -- region 6
      refine TextR.buildSlice  0 se22 rfl rfl rfl .nil ?_
      refine TextR.assign rfl ?_
      refine TextR.done (.cons rfl (.cons rfl (.cons rfl (.cons rfl (.cons rfl .nil))))) ?_
      refine Wp.seq ?_
      obtain ⟨y8, hy8, h⟩ := bind_some h
      obtain ⟨y9, hy9, h⟩ := bind_some h
      refine Wp.text [0, 2, 3, 11, 12] rfl rfl ?_ -- region 7
      refine TextR.move rfl ?_
      refine TextR.dcall rfl rfl (c_narthexlaw04_own N a1 y8 hy8 _) ?_
      refine TextR.move rfl ?_
      refine TextR.dcall rfl rfl (c_dag_Flip N y8 a2 y9 hy9 _) ?_
      refine TextR.assign rfl ?_
      refine TextR.done (.cons rfl (.cons rfl (.cons rfl (.cons rfl (.cons rfl .nil))))) ?_
      refine Wp.seq ?_
      refine Wp.seq ?_
      refine Wp.text [0, 2, 3, 11, 12, 13] rfl rfl ?_ -- region 8
      refine TextR.assign rfl ?_
      refine TextR.done (.cons rfl (.cons rfl (.cons rfl (.cons rfl (.cons rfl (.cons rfl .nil)))))) ?_
      obtain ⟨z10, hz10, h⟩ := bind_some h
      refine Wp.fragN (fun S => ∃ wz10_0, ∃ S', St.Weak ⟨Try.prog, 142, Γ⟩ S S' ∧ S' = ⟨[(0, .c (I a0)), (2, .c (I a2)), (3, .c (I a3)), (11, .c (.sl 0 wz10_0 0 z10.length))], [.live wz10_0 2 (z10.map eArc)]⟩) ?_ ?_
      · replace h := hz10
        refine Wp.block ?_
        refine Wp.weak (keepW (live := [0, 2, 3, 11, 12, 13]) (.cons rfl (.cons rfl (.cons rfl (.cons rfl (.cons rfl (.cons rfl .nil))))))) ?_
        refine Wp.loop (fun m S => ∃ l0_1, ∃ s13_1, ∃ wh0_1, narthexlaw04_DagSink_L1 N y9 m l0_1 s13_1 = some z10 ∧ S = ⟨[(0, .c (I a0)), (2, .c (I a2)), (3, .c (I a3)), (11, .c (.sl 0 wh0_1 0 l0_1.length)), (12, .c (.slv (y9.map eArc))), (13, .c (I s13_1))], [.live wh0_1 2 (l0_1.map eArc)]⟩) N ⟨_, _, _, h, rfl⟩ ?_
        rintro m1 _ ⟨l0_1, s13_1, wh0_1, h, rfl⟩
        cases m1 with
        | zero => rw [narthexlaw04_DagSink_L1.eq_1] at h; cases h
        | succ m1 =>
        rw [narthexlaw04_DagSink_L1.eq_2] at h
        refine Wp.seq ?_
        refine Wp.seq ?_
        refine Wp.text [0, 2, 3, 11, 12, 13, 74] rfl rfl ?_ -- region 9
        refine TextR.move rfl ?_
        refine TextR.move rfl ?_
        refine TextR.lenM us22 rfl rfl ?_
        refine TextR.int rfl rfl rfl ?_
        refine TextR.done (.cons rfl (.cons rfl (.cons rfl (.cons rfl (.cons rfl (.cons rfl (.cons rfl .nil))))))) ?_
        refine Wp.condM h rfl (fun hc4 h => ?_) (fun hc4 h => ?_)
        · refine Wp.skip ?_
          refine Wp.seq ?_
          refine Wp.block ?_
          refine Wp.seq ?_
          refine Wp.seq ?_
          obtain ⟨y11, hy11, h⟩ := bind_some h
          obtain ⟨x12, hx12, h⟩ := bind_some h
          obtain ⟨y13, hy13, h⟩ := bind_some h
          refine Wp.go false none [[], [], [], [], [(80, true)], [(80, true)], [(80, true)], [(80, true)], [(80, true)], [(80, true)], []] [] [0, 2, 3, 11, 12, 13, 87] mixed rfl rfl (by kernel_rfl) ?_ -- region 11
          refine RunR.move rfl rfl rfl ?_
          refine RunR.callH rfl rfl rfl rfl (fun hb => (DCall.nz rfl (DCall.borrow (fs := [.c (.slv (l0_1.map eArc)), .c (.slv ([].map eArc))]) (by simp [-List.map_set, obj, List.take_of_length_le]) (by first | rfl | simp [-List.map_set]) rfl (w_narthexref04_Same N l0_1 [] y11 hy11)))) ?_
          refine RunR.not rfl rfl rfl ?_
          refine RunR.move rfl rfl rfl ?_
          refine RunR.move rfl rfl rfl ?_
          refine RunR.move rfl rfl rfl ?_
          refine RunR.move rfl rfl rfl ?_
          refine RunR.indexAG se22 rfl rfl rfl rfl rfl (ifPos hx12 gT) (ifAt hx12 gT) rfl ?_
          refine RunR.loadNG tk37 rfl rfl rfl (ifAt hx12 gT) rfl ?_
          refine RunR.callH rfl rfl rfl rfl (fun hb => (DCall.borrow (fs := [.c (.slv (l0_1.map eArc)), .agg (eArc x12)]) (by simp [-List.map_set, obj, List.take_of_length_le]) (by first | rfl | simp [-List.map_set]) rfl (w_narthexlaw04_has N l0_1 x12 y13 (ifT hy13 gT hb)))) ?_
          refine RunR.pickAnd rfl rfl rfl rfl ?_
          refine RunR.doneQ (.cons rfl (.cons rfl (.cons rfl (.cons rfl (.cons rfl (.cons rfl (.cons rfl .nil))))))) ?_
          refine Wp.condM h rfl (fun hc5 h => ?_) (fun hc5 h => ?_)
          · refine Wp.exit ?_
            refine Wp.text [0, 2, 3, 11, 12, 13] rfl rfl ?_ -- region 10
            refine TextR.move rfl ?_
            refine TextR.int rfl rfl rfl ?_
            refine TextR.assign rfl ?_
            refine TextR.done (.cons rfl (.cons rfl (.cons rfl (.cons rfl (.cons rfl (.cons rfl .nil)))))) ?_
            exact ⟨m1, Nat.lt_succ_self _, _, (keepW (live := [0, 2, 3, 11, 12, 13]) (.cons rfl (.cons rfl (.cons rfl (.cons rfl (.cons rfl (.cons rfl .nil))))))), _, _, _, h, rfl⟩
          · refine Wp.skip ?_
            obtain ⟨x14, hx14, h⟩ := bind_some h
            obtain ⟨x15, hx15, h⟩ := bind_some h
            refine Wp.text [0, 2, 3, 11, 12, 13] rfl rfl ?_ -- region 12
            refine TextR.move rfl ?_
            refine TextR.move rfl ?_
            refine TextR.move rfl ?_
            refine TextR.indexA se22 rfl rfl rfl hx14 rfl ?_
            refine TextR.loadNM tk37 rfl (at_get hx14) rfl ?_
            refine TextR.buildSlice (rows := [x14].map eArc) 1 se22 rfl rfl rfl (.cons .nil) ?_
            refine TextR.appendM eArc l0_1 [x14] x15 (app_eq hx15) se22 rfl (obj_of rfl) rfl (view_whole (f := eArc) (xs := [x14]) rfl) (fun _ => rfl) rfl (app_len hx15) .zero ?_
            refine TextR.assign rfl ?_
            refine TextR.done (.cons rfl (.cons rfl (.cons rfl (.cons rfl (.cons rfl (.cons rfl .nil)))))) ?_
            refine Wp.text [0, 2, 3, 11, 12, 13] rfl rfl ?_ -- region 10
            refine TextR.move rfl ?_
            refine TextR.int rfl rfl rfl ?_
            refine TextR.assign rfl ?_
            refine TextR.done (.cons rfl (.cons rfl (.cons rfl (.cons rfl (.cons rfl (.cons rfl .nil)))))) ?_
            exact ⟨m1, Nat.lt_succ_self _, _, (St.Weak.trans (keepW (live := [0, 2, 3, 11, 12, 13]) (.cons rfl (.cons rfl (.cons rfl (.cons rfl (.cons rfl (.cons rfl .nil))))))) (pickT (e' := [(0, .c (I a0)), (2, .c (I a2)), (3, .c (I a3)), (11, .c (.sl 0 (wh0_1 + 1) 0 x15.length)), (12, .c (.slv (y9.map eArc))), (13, .c (I (w64 (s13_1 + 1))))]) (H' := [.live (wh0_1 + 1) 2 (x15.map eArc)]) [0] [0, 0] 0 hok.len.symm rfl rfl (by decide) (by first | rfl | simp [-List.map_set]) (by first | rfl | simp [-List.map_set]) (by first | rfl | simp [-List.map_set]) (by first | rfl | simp [-List.map_set]))), _, _, _, h, rfl⟩
        · refine Wp.exit ?_
          obtain rfl := Option.some.inj h
          exact ⟨_, _, (keepW (live := [0, 2, 3, 11]) (.cons rfl (.cons rfl (.cons rfl (.cons rfl .nil))))), rfl⟩
      rintro _ ⟨wz10_0, S', hw, rfl⟩
      clear hz10
      refine Wp.weak hw ?_
      refine Wp.seq ?_
      refine Wp.weak (freezeW (h := 0) (ver := wz10_0) (rows := z10.map eArc) (e' := [(0, .c (I a0)), (2, .c (I a2)), (3, .c (I a3)), (11, .c (.slv (z10.map eArc)))]) (H' := [.dead]) (obj_of rfl) (by first | rfl | simp [-List.map_set]) (by first | rfl | simp [-List.map_set])) ?_
      obtain ⟨y16, hy16, h⟩ := bind_some h
      obtain ⟨y17, hy17, h⟩ := bind_some h
      refine Wp.text [0, 2, 3, 11, 15] rfl rfl ?_ -- region 13
      refine TextR.move rfl ?_
      refine TextR.move rfl ?_
      refine TextR.dcall rfl rfl (c_narthexlaw04_own N z10 y16 hy16 _) ?_
      refine TextR.dcall rfl rfl (c_dag_Order N a0 y16 y17 hy17 _) ?_
      refine TextR.move rfl ?_
      refine TextR.extract rfl rfl ?_
      refine TextR.extract rfl rfl ?_
      refine TextR.assign rfl ?_
      refine TextR.assign rfl ?_
      refine TextR.done (.cons rfl (.cons rfl (.cons rfl (.cons rfl (.cons rfl .nil))))) ?_
      refine Wp.seq ?_
      refine Wp.seq ?_
      obtain ⟨y18, hy18, h⟩ := bind_some h
      obtain ⟨y19, hy19, h⟩ := bind_some h
      obtain ⟨y20, hy20, h⟩ := bind_some h
      obtain ⟨y21, hy21, h⟩ := bind_some h
      refine Wp.go false none [[], [], [], [(104, false)], [(104, false)], [(104, false)], [(104, false)], [(104, false)], [(104, false)], [(104, false)], [], [], [(113, false)], [(113, false)], [(113, false)], [(113, false)], [(113, false)], []] [] [0, 2, 3, 11, 15, 119] mixed rfl rfl (by kernel_rfl) ?_ -- region 14
      refine RunR.move rfl rfl rfl ?_
      refine RunR.not rfl rfl rfl ?_
      refine RunR.move rfl rfl rfl ?_
      refine RunR.move rfl rfl rfl ?_
      refine RunR.move rfl rfl rfl ?_
      refine RunR.callG rfl rfl rfl (fun hb H => c_narthexlaw04_own N z10 y18 (ifT hy18 gF hb) H) ?_
      refine RunR.callG rfl rfl rfl (fun hb H => c_dag_Sinks N a0 y18 y19 (ifT hy19 gF hb) H) ?_
      refine RunR.move rfl rfl rfl ?_
      refine RunR.callG rfl rfl rfl (fun hb H => c_set_Has N y19 a2 y20 (ifT hy20 gF hb) H) ?_
      refine RunR.not rfl rfl rfl ?_
      refine RunR.pickOr rfl rfl rfl rfl ?_
      refine RunR.move rfl rfl rfl ?_
      refine RunR.move rfl rfl rfl ?_
      refine RunR.move rfl rfl rfl ?_
      refine RunR.move rfl rfl rfl ?_
      refine RunR.build cm37 rfl rfl rfl ?_
      refine RunR.callG rfl rfl rfl (fun hb H => c_narthexlaw04_has N z10 (⟨a3, a2⟩ : TArc) y21 (ifT hy21 gF hb) H) ?_
      refine RunR.pickOr rfl rfl rfl rfl ?_
      refine RunR.doneQ (.cons rfl (.cons rfl (.cons rfl (.cons rfl (.cons rfl (.cons rfl .nil)))))) ?_
      refine Wp.condM h rfl (fun hc3 h => ?_) (fun hc3 h => ?_)
      · refine Wp.seq ?_
        obtain ⟨y22, hy22, h⟩ := bind_some h
        obtain ⟨y23, hy23, h⟩ := bind_some h
        obtain ⟨y24, hy24, h⟩ := bind_some h
        refine Wp.go false none [[], [], [(121, true)], [(121, true)], [(121, true)], [(121, true)], [(121, true)], [(121, true)], [], []] [] [8] mixed rfl rfl (by kernel_rfl) ?_ -- region 15
        refine RunR.move rfl rfl rfl ?_
        refine RunR.move rfl rfl rfl ?_
        refine RunR.move rfl rfl rfl ?_
        refine RunR.move rfl rfl rfl ?_
        refine RunR.callG rfl rfl rfl (fun hb H => c_narthexlaw04_own N z10 y22 (ifT hy22 gT hb) H) ?_
        refine RunR.callG rfl rfl rfl (fun hb H => c_dag_Sinks N a0 y22 y23 (ifT hy23 gT hb) H) ?_
        refine RunR.move rfl rfl rfl ?_
        refine RunR.callG rfl rfl rfl (fun hb H => c_set_Has N y23 a2 y24 (ifT hy24 gT hb) H) ?_
        refine RunR.pickAnd rfl rfl rfl rfl ?_
        refine RunR.assign rfl rfl rfl ?_
        refine RunR.doneQ (.cons rfl .nil) ?_
        refine Wp.ret ?_
        obtain rfl := Option.some.inj h
        exact Ret.one rfl (resV_tmp rfl) rfl
      · refine Wp.skip ?_
        refine Wp.seq ?_
        obtain ⟨y25, hy25, h⟩ := bind_some h
        obtain ⟨x26, hx26, h⟩ := bind_some h
        obtain ⟨y27, hy27, h⟩ := bind_some h
        refine Wp.text [17] rfl rfl ?_ -- region 16
        refine TextR.move rfl ?_
        refine TextR.move rfl ?_
        refine TextR.call rfl rfl (by exact o_narthexlaw04_own N z10 y25 hy25 1 rfl (.cons .nil)) (fun x H' hk => ?_)
        obtain ⟨rfl, rfl⟩ := hk
        refine TextR.move rfl ?_
        refine TextR.move rfl ?_
        refine TextR.build cm37 rfl ?_
        refine TextR.buildSlice (rows := [(⟨a3, a2⟩ : TArc)].map eArc) 2 se22 rfl rfl rfl (.cons (.cons .nil)) ?_
        refine TextR.appendM eArc y25 [(⟨a3, a2⟩ : TArc)] x26 (app_eq hx26) se22 rfl rfl rfl (view_whole (f := eArc) (xs := [(⟨a3, a2⟩ : TArc)]) rfl) (fun _ => rfl) rfl (app_len hx26) (.succ .zero) ?_
        refine TextR.weak (keepW (F := ⟨Try.prog, 142, Γ⟩) (live := [0, 2, 3, 11, 15, 119, 130, 131, 132, 133, 134, 135, 136, 137]) (.cons rfl (.cons rfl (.cons rfl (.cons rfl (.cons rfl (.cons rfl (.cons rfl (.cons rfl (.cons rfl (.cons rfl (.cons rfl (.cons rfl (.cons rfl (.cons rfl .nil))))))))))))))) ?_
        refine TextR.weak (freezeW (F := ⟨Try.prog, 142, Γ⟩) (h := 1) (ver := 1) (rows := x26.map eArc) (e' := [(0, .c (I a0)), (2, .c (I a2)), (3, .c (I a3)), (11, .c (.slv (z10.map eArc))), (15, .c (B y17.2)), (119, .c (B (((!y17.2) || (!y20)) || y21))), (130, .c (I a0)), (131, .c (.slv (z10.map eArc))), (132, .c (.sl 1 0 0 y25.length)), (133, .c (I a3)), (134, .c (I a2)), (135, .agg [I a3, I a2]), (136, .c (.sl 2 0 0 [(⟨a3, a2⟩ : TArc)].length)), (137, .c (.slv (x26.map eArc)))]) (H' := [.dead, .dead, .live 0 2 ([(⟨a3, a2⟩ : TArc)].map eArc)]) rfl (by first | rfl | simp [-List.map_set]) (by first | rfl | simp [-List.map_set])) ?_
        refine TextR.dcall rfl rfl (c_dag_Order N a0 x26 y27 hy27 _) ?_
        refine TextR.move rfl ?_
        refine TextR.extract rfl rfl ?_
        refine TextR.extract rfl rfl ?_
        refine TextR.assign rfl ?_
        refine TextR.assign rfl ?_
        refine TextR.done (.cons rfl .nil) ?_
        refine Wp.seq ?_
        refine Wp.text [8] rfl rfl ?_ -- region 17
        refine TextR.move rfl ?_
        refine TextR.assign rfl ?_
        refine TextR.done (.cons rfl .nil) ?_
        refine Wp.ret ?_
        obtain rfl := Option.some.inj h
        exact Ret.one rfl (resV_tmp rfl) rfl
theorem c_narthexlaw04_DagSink (N : Nat) (a0 : Int) (a1 : List TArc) (a2 : Int) (a3 : Int) (r : Bool) (h : narthexlaw04_DagSink N a0 a1 a2 a3 = some r) (H : List Ob) : DCall Try.prog 8 [.c (I a0), .c (.slv (a1.map eArc)), .c (I a2), .c (I a3)] H (.c (B r)) := DCall.lift (by first | rfl | simp [-List.map_set]) (by first | rfl | simp [-List.map_set]) (fun _ => by simp [-List.map_set]) (w_narthexlaw04_DagSink N a0 a1 a2 a3 r h) H
-- narthex/narthexlaw04.DagEither$1
theorem w_narthexlaw04_DagEither_1 (N : Nat) (a0 : Int) (c0_0 : List Int) (r : Int) (h : narthexlaw04_DagEither_1 N a0 c0_0 = some r) : Nx.Call Try.prog 30 [.c (I a0), .c (.ptr 0 0 0 0)] [.live 0 1 [[.slv (c0_0.map eI)]]] fun r' H' => r' = .c (I r) ∧ ∃ junk, H' = [.live 0 1 [[.slv (c0_0.map eI)]]] ++ junk := by
  refine Nx.Call.of_body Try.func30 rfl en30 Try.ntmps30 rfl (fun Γ hok => ?_)
  unfold narthexlaw04_DagEither_1 at h
  refine Wp.seq ?_
  refine Wp.text [0, 1] rfl rfl ?_ -- region 0
  refine TextR.assign rfl ?_
  refine TextR.done (.cons rfl (.cons rfl .nil)) ?_
  refine Wp.seq ?_
  refine Wp.seq ?_
  refine Wp.text [0, 1, 4] rfl rfl ?_ -- region 1
  refine TextR.assign rfl ?_
  refine TextR.done (.cons rfl (.cons rfl (.cons rfl .nil))) ?_
  obtain ⟨z1, hz1, h⟩ := bind_some h
  refine Wp.fragR (fun S => ∃ z3, z1 = .inr z3 ∧ ∃ S', St.Weak ⟨Try.prog, 18, Γ⟩ S S' ∧ S' = ⟨[], [.live 0 1 [[.slv (c0_0.map eI)]]]⟩) (fun S => ∃ v, z1 = .inl v ∧ Ret Try.prog Try.f30 (fun r' H' => r' = .c (I v) ∧ ∃ junk, H' = [.live 0 1 [[.slv (c0_0.map eI)]]] ++ junk) .ret S) ?_ ?_ ?_
  · replace h := hz1
    refine Wp.block ?_
    refine Wp.weak (keepW (live := [0, 1, 4]) (.cons rfl (.cons rfl (.cons rfl .nil)))) ?_
    refine Wp.loop (fun m S => ∃ s4_1, narthexlaw04_DagEither_1_L1 N a0 c0_0 m s4_1 = some z1 ∧ S = ⟨[(0, .c (I a0)), (1, .c (.ptr 0 0 0 0)), (4, .c (I s4_1))], [.live 0 1 [[.slv (c0_0.map eI)]]]⟩) N ⟨_, h, rfl⟩ ?_
    rintro m1 _ ⟨s4_1, h, rfl⟩
    cases m1 with
    | zero => rw [narthexlaw04_DagEither_1_L1.eq_1] at h; cases h
    | succ m1 =>
    rw [narthexlaw04_DagEither_1_L1.eq_2] at h
    refine Wp.seq ?_
    refine Wp.seq ?_
    refine Wp.text [0, 1, 4, 8] rfl rfl ?_ -- region 2
    refine TextR.move rfl ?_
    refine TextR.load1 tk25 rfl rfl ?_
    refine TextR.lenM us25 rfl rfl ?_
    refine TextR.int rfl rfl rfl ?_
    refine TextR.done (.cons rfl (.cons rfl (.cons rfl (.cons rfl .nil)))) ?_
    refine Wp.condM h rfl (fun hc2 h => ?_) (fun hc2 h => ?_)
    · refine Wp.skip ?_
      refine Wp.seq ?_
      refine Wp.block ?_
      refine Wp.seq ?_
      obtain ⟨x4, hx4, h⟩ := bind_some h
      refine Wp.text [0, 1, 4, 16] rfl rfl ?_ -- region 4
      refine TextR.load1 tk25 rfl rfl ?_
      refine TextR.move rfl ?_
      refine TextR.indexA se25 rfl rfl rfl hx4 rfl ?_
      refine TextR.load1M tk3 rfl (at_get hx4) rfl ?_
      refine TextR.move rfl ?_
      refine TextR.int rfl rfl rfl ?_
      refine TextR.done (.cons rfl (.cons rfl (.cons rfl (.cons rfl .nil)))) ?_
      refine Wp.condM h rfl (fun hc3 h => ?_) (fun hc3 h => ?_)
      · refine Wp.seq ?_
        refine Wp.text [3] rfl rfl ?_ -- region 5
        refine TextR.move rfl ?_
        refine TextR.assign rfl ?_
        refine TextR.done (.cons rfl .nil) ?_
        refine Wp.ret ?_
        exact ⟨_, (Option.some.inj h).symm, Ret.one rfl (resV_tmp rfl) ⟨rfl, _, rfl⟩⟩
      · refine Wp.skip ?_
        refine Wp.text [0, 1, 4] rfl rfl ?_ -- region 3
        refine TextR.move rfl ?_
        refine TextR.int rfl rfl rfl ?_
        refine TextR.assign rfl ?_
        refine TextR.done (.cons rfl (.cons rfl (.cons rfl .nil))) ?_
        exact ⟨m1, Nat.lt_succ_self _, _, (keepW (live := [0, 1, 4]) (.cons rfl (.cons rfl (.cons rfl .nil)))), _, h, rfl⟩
    · refine Wp.exit ?_
      exact ⟨_, (Option.some.inj h).symm, _, (keepW (live := []) .nil), rfl⟩
  · rintro _ ⟨z3, rfl, _, hw, rfl⟩
    dsimp only at h
    clear hz1
    refine Wp.weak hw ?_
    refine Wp.seq ?_
    refine Wp.text [3] rfl rfl ?_ -- region 6
    refine TextR.assign rfl ?_
    refine TextR.done (.cons rfl .nil) ?_
    refine Wp.ret ?_
    obtain rfl := Option.some.inj h
    exact Ret.one rfl (resV_tmp rfl) ⟨rfl, _, rfl⟩
  · rintro S' ⟨r2, rfl, hR⟩
    dsimp only at h
    obtain rfl := Option.some.inj h
    exact hR
theorem c_narthexlaw04_DagEither_1 (N : Nat) (a0 : Int) (c0_0 : List Int) (r : Int) (h : narthexlaw04_DagEither_1 N a0 c0_0 = some r) : DCall Try.prog 30 [.c (I a0), .c (.ptr 0 0 0 0)] [.live 0 1 [[.slv (c0_0.map eI)]]] (.c (I r)) := Call.trim (by simp) (by first | rfl | simp [-List.map_set]) (by first | rfl | simp [-List.map_set]) (w_narthexlaw04_DagEither_1 N a0 c0_0 r h)
-- slices.Clone
theorem bn_slices_Clone_int : Nx.Call Try.prog 46 [.c nilS] [] fun r' H' => r' = .c (.sl 0 1 0 0) ∧ ∃ junk, H' = [.live 1 1 []] ++ junk := by
  refine Nx.Call.of_body Try.func46 rfl en46 Try.ntmps46 rfl (fun Γ hok => ?_)
  refine Wp.seq ?_
  refine Wp.text [0] rfl rfl ?_ -- region 0
  refine TextR.assign rfl ?_
  refine TextR.done (.cons rfl .nil) ?_
  refine Wp.seq ?_
  refine Wp.seq ?_
  refine Wp.text [0, 4] rfl rfl ?_ -- region 1
  refine TextR.move rfl ?_
  refine TextR.eqNil us25 rfl rfl ?_
  refine TextR.done (.cons rfl (.cons rfl .nil)) ?_
  refine Wp.cond rfl (fun hc => ?_) (fun hc => ?_)
  · refine Wp.seq ?_
    refine Wp.text [2] rfl rfl ?_ -- region 2
    refine TextR.assign rfl ?_
    refine TextR.done (.cons rfl .nil) ?_
    refine Wp.weak (fun a w hs => nilV_sat (t := 2) 1 1 0 rfl rfl .nil hs) ?_
    refine Wp.ret ?_
    refine Ret.one rfl (resV_tmp rfl) ?_
    exact ⟨rfl, [], rfl⟩
  · cases hc
theorem bq_slices_Clone_int (xs : List Int) (hl : xs.length ≤ 10000000000) : Nx.Call Try.prog 46 [.c (.slq (xs.map eI))] [] fun r' H' => r' = .c (.sl 0 1 0 xs.length) ∧ ∃ junk, H' = [.live 1 1 (xs.map eI)] ++ junk := by
  refine Nx.Call.of_body Try.func46 rfl en46 Try.ntmps46 rfl (fun Γ hok => ?_)
  refine Wp.seq ?_
  refine Wp.text [0] rfl rfl ?_ -- region 0
  refine TextR.assign rfl ?_
  refine TextR.done (.cons rfl .nil) ?_
  refine Wp.seq ?_
  refine Wp.seq ?_
  refine Wp.text [0, 4] rfl rfl ?_ -- region 1
  refine TextR.move rfl ?_
  refine TextR.eqNil us25 rfl rfl ?_
  refine TextR.done (.cons rfl (.cons rfl .nil)) ?_
  refine Wp.cond rfl (fun hc => ?_) (fun hc => ?_)
  · cases hc
  · refine Wp.skip ?_
    refine Wp.seq ?_
    refine Wp.text [2] rfl rfl ?_ -- region 3
    refine TextR.buildSlice 0 se25 rfl rfl rfl .nil ?_
    refine TextR.move rfl ?_
    refine TextR.appendM eI [] xs xs rfl se25 rfl rfl rfl rfl (fun _ => rfl) rfl (by simp; omega) .zero ?_
    refine TextR.assign rfl ?_
    refine TextR.done (.cons rfl .nil) ?_
    refine Wp.ret ?_
    refine Ret.one rfl (resV_tmp rfl) ?_
    exact ⟨rfl, [], rfl⟩
theorem b_slices_Clone_int (xs : List Int) (hl : xs.length ≤ 10000000000) : Nx.Call Try.prog 46 [.c (.slv (xs.map eI))] [] fun r' H' => r' = .c (.sl 0 1 0 xs.length) ∧ ∃ junk, H' = [.live 1 1 (xs.map eI)] ++ junk :=
  .cases en46 fun Γ args' hok hc => by
    simp only [concVs] at hc
    obtain ⟨y, ys', h1, h2, h3⟩ := hc
    rcases conc_slv_nil h2 with ⟨h4, h5⟩ | h5
    · have h6 : xs = [] := by simpa using h4
      subst h6
      exact ⟨[.c nilS], bn_slices_Clone_int, by simp only [concVs]; exact ⟨y, ys', h1, h5, h3⟩⟩
    · exact ⟨[.c (.slq (xs.map eI))], bq_slices_Clone_int xs hl, by simp only [concVs]; exact ⟨y, ys', h1, h5, h3⟩⟩
theorem o_slices_Clone_int (N : Nat) (a0 r : List Int) (h : slices_Clone_int N a0 = some r) {H H1 : List Ob} (k : Nat) (hh : H.length = k) (hs : Snoc (.live 1 1 (r.map eI)) H H1) : Nx.Call Try.prog 46 [.c (.slv (a0.map eI))] H fun r' H' => r' = .c (.sl k 1 0 r.length) ∧ H' = H1 := by
  have he := app_eq h
  have hl := app_len h
  simp only [List.nil_append] at he
  subst he
  have hc := Call.lift (objs := [.live 1 1 (a0.map eI)]) (by simp [hfVs, hfV, hfL, hfRows_map h_I]) rfl (by have := okR_eI (p := mvL 1) a0; simpa [mvO] using this) (b_slices_Clone_int a0 (by simpa using hl)) H
  refine Call.mono hc fun r' H' ⟨h1, h2⟩ => ⟨by subst hh; simpa [shV, shL] using h1, ?_⟩
  rw [h2, ← hs.eq]
  simp [shO, fx_eI]
theorem w_slices_Clone_int (N : Nat) (a0 r : List Int) (h : slices_Clone_int N a0 = some r) : Nx.Call Try.prog 46 [.c (.slv (a0.map eI))] [] fun r' _ => r' = .c (.slv (r.map eI)) := by
  have he := app_eq h
  have hl := app_len h
  simp only [List.nil_append] at he
  subst he
  exact Call.frz (b_slices_Clone_int a0 (by simpa using hl))
theorem c_slices_Clone_int (N : Nat) (a0 r : List Int) (h : slices_Clone_int N a0 = some r) (H : List Ob) : DCall Try.prog 46 [.c (.slv (a0.map eI))] H (.c (.slv (r.map eI))) := DCall.lift (by simp [hfVs, hfV, hfL, hfRows_map h_I]) (by simp [mvV, mvL, hfL, hfRows_map h_I]) (fun _ => rfl) (w_slices_Clone_int N a0 r h) H

-- narthex/set.Of
theorem w_set_Of (N : Nat) (a0 : List Int) (r : (List Int)) (h : set_Of N a0 = some r) : Nx.Call Try.prog 31 [.c (.slv (a0.map eI))] [] fun r' _ => r' = .c (.slv (r.map eI)) := by
  refine Nx.Call.of_body Try.func31 rfl en31 Try.ntmps31 rfl (fun Γ hok => ?_)
  unfold set_Of at h
  refine Wp.seq ?_
  refine Wp.text [0] rfl rfl ?_ -- region 0
  refine TextR.assign rfl ?_
  refine TextR.done (.cons rfl .nil) ?_
  refine Wp.seq ?_
  obtain ⟨y1, hy1, h⟩ := bind_some h
  refine Wp.text [3] rfl rfl ?_ -- region 1
  refine TextR.move rfl ?_
  refine TextR.call rfl rfl (by exact o_slices_Clone_int N a0 y1 hy1 0 rfl .nil) (fun x H' hk => ?_)
  obtain ⟨rfl, rfl⟩ := hk
  refine TextR.assign rfl ?_
  refine TextR.done (.cons rfl .nil) ?_
  refine Wp.seq ?_
  obtain ⟨x2, hx2, h⟩ := bind_some h
  refine Wp.text [3] rfl rfl ?_ -- region 2
  refine TextR.move rfl ?_
  refine TextR.call rfl rfl (by exact call_sort lays189 rfl en47 hx2 rfl .zero) (fun x H' hk => ?_)
  obtain ⟨rfl, rfl⟩ := hk
  refine TextR.done (.cons rfl .nil) ?_
  refine Wp.weak (eqW (S' := ⟨[(3, .c (.sl 0 1 0 x2.length))], [.live 1 1 (x2.map eI)]⟩) (by have e0 := (length_sort hx2).symm; first | rfl | (simp only [List.length_set]; done) | (simp only [List.length_set]; rfl) | (simp only [List.length_set, e0]; done) | (simp only [List.length_set, e0]; rfl))) ?_
  refine Wp.seq ?_
  obtain ⟨x3, hx3, h⟩ := bind_some h
  refine Wp.text [2] rfl rfl ?_ -- region 3
  refine TextR.move rfl ?_
  refine TextR.call rfl rfl (by exact call_ded lays220 rfl en48 hx3 rfl .zero) (fun x H' hk => ?_)
  obtain ⟨rfl, rfl⟩ := hk
  refine TextR.assign rfl ?_
  refine TextR.done (.cons rfl .nil) ?_
  refine Wp.weak (keepW (live := [2] ) (.cons rfl .nil)) ?_
  refine Wp.weak (freezeW (h := 0) (ver := 2) (rows := x3.map eI) (e' := [(2, .c (.slv (x3.map eI)))]) (H' := [.dead]) rfl (by first | rfl | simp [-List.map_set]) (by first | rfl | simp [-List.map_set])) ?_
  refine Wp.ret ?_
  obtain rfl := Option.some.inj h
  exact Ret.one rfl (resV_tmp rfl) rfl
theorem c_set_Of (N : Nat) (a0 : List Int) (r : (List Int)) (h : set_Of N a0 = some r) (H : List Ob) : DCall Try.prog 31 [.c (.slv (a0.map eI))] H (.c (.slv (r.map eI))) := DCall.lift (by first | rfl | simp [-List.map_set]) (by first | rfl | simp [-List.map_set]) (fun _ => by simp [-List.map_set]) (w_set_Of N a0 r h) H
-- narthex/narthexref01.Place
theorem w_narthexref01_Place (N : Nat) (a0 : List Int) (a1 : Int) (r : Int) (h : narthexref01_Place N a0 a1 = some r) : Nx.Call Try.prog 49 [.c (.slv (a0.map eI)), .c (I a1)] [] fun r' _ => r' = .c (I r) := by
  refine Nx.Call.of_body Try.func49 rfl en49 Try.ntmps49 rfl (fun Γ hok => ?_)
  unfold narthexref01_Place at h
  refine Wp.seq ?_
  refine Wp.text [0, 1] rfl rfl ?_ -- region 0
  refine TextR.assign rfl ?_
  refine TextR.done (.cons rfl (.cons rfl .nil)) ?_
  refine Wp.seq ?_
  refine Wp.text [0, 1, 5] rfl rfl ?_ -- region 1
  refine TextR.assign rfl ?_
  refine TextR.done (.cons rfl (.cons rfl (.cons rfl .nil))) ?_
  refine Wp.seq ?_
  refine Wp.seq ?_
  refine Wp.text [0, 1, 5, 6] rfl rfl ?_ -- region 2
  refine TextR.assign rfl ?_
  refine TextR.done (.cons rfl (.cons rfl (.cons rfl (.cons rfl .nil)))) ?_
  obtain ⟨z1, hz1, h⟩ := bind_some h
  refine Wp.fragN (fun S => ∃ S', St.Weak ⟨Try.prog, 33, Γ⟩ S S' ∧ S' = ⟨[(5, .c (I z1))], []⟩) ?_ ?_
  · replace h := hz1
    refine Wp.block ?_
    refine Wp.weak (keepW (live := [0, 1, 5, 6]) (.cons rfl (.cons rfl (.cons rfl (.cons rfl .nil))))) ?_
    refine Wp.loop (fun m S => ∃ s5_1, ∃ s6_1, narthexref01_Place_L1 N a0 a1 m s5_1 s6_1 = some z1 ∧ S = ⟨[(0, .c (.slv (a0.map eI))), (1, .c (I a1)), (5, .c (I s5_1)), (6, .c (I s6_1))], []⟩) N ⟨_, _, h, rfl⟩ ?_
    rintro m1 _ ⟨s5_1, s6_1, h, rfl⟩
    cases m1 with
    | zero => rw [narthexref01_Place_L1.eq_1] at h; cases h
    | succ m1 =>
    rw [narthexref01_Place_L1.eq_2] at h
    refine Wp.seq ?_
    refine Wp.seq ?_
    refine Wp.text [0, 1, 5, 6, 10] rfl rfl ?_ -- region 3
    refine TextR.move rfl ?_
    refine TextR.move rfl ?_
    refine TextR.lenM us25 rfl rfl ?_
    refine TextR.int rfl rfl rfl ?_
    refine TextR.done (.cons rfl (.cons rfl (.cons rfl (.cons rfl (.cons rfl .nil))))) ?_
    refine Wp.condM h rfl (fun hc2 h => ?_) (fun hc2 h => ?_)
    · refine Wp.skip ?_
      refine Wp.seq ?_
      refine Wp.block ?_
      refine Wp.seq ?_
      obtain ⟨x2, hx2, h⟩ := bind_some h
      obtain ⟨x3, hx3, h⟩ := bind_some h
      obtain ⟨x4, hx4, h⟩ := bind_some h
      obtain ⟨y5, hy5, h⟩ := bind_some h
      refine Wp.go true (some ⟨[], []⟩) [[], [], [], [], [], [], [], [(19, true)], [(19, true)], [(19, true)], [(19, true)], [(19, true)], [(19, true)], [(19, true)], [(19, true)], [(19, true)], []] [] [0, 1, 5, 6, 29] mixed rfl rfl (by kernel_rfl) ?_ -- region 5
      refine RunR.move rfl rfl rfl ?_
      refine RunR.move rfl rfl rfl ?_
      refine RunR.indexA se25 rfl rfl rfl rfl rfl hx2 rfl ?_
      refine RunR.load1M tk3 rfl rfl rfl (at_get hx2) rfl ?_
      refine RunR.move rfl rfl rfl ?_
      refine RunR.int rfl rfl rfl rfl rfl ?_
      refine RunR.move rfl rfl rfl ?_
      refine RunR.move rfl rfl rfl ?_
      refine RunR.move rfl rfl rfl ?_
      refine RunR.sliceMG se25 rfl rfl rfl rfl rfl rfl rfl (ifT hx3 gT) (fun _ => rfl) ?_
      refine RunR.move rfl rfl rfl ?_
      refine RunR.move rfl rfl rfl ?_
      refine RunR.indexAG se25 rfl rfl rfl rfl rfl (ifPos hx4 gT) (ifAt hx4 gT) rfl ?_
      refine RunR.load1G tk3 rfl rfl rfl (ifAt hx4 gT) rfl ?_
      refine RunR.callG rfl rfl rfl (fun hb H => c_narthexref01_Has N x3 x4 y5 (ifT hy5 gT hb) H) ?_
      refine RunR.not rfl rfl rfl ?_
      refine RunR.pickAnd rfl rfl rfl rfl ?_
      refine RunR.doneQ (.cons rfl (.cons rfl (.cons rfl (.cons rfl (.cons rfl .nil))))) ?_
      refine Wp.condM h rfl (fun hc3 h => ?_) (fun hc3 h => ?_)
      · refine Wp.text [0, 1, 5, 6] rfl rfl ?_ -- region 6
        refine TextR.move rfl ?_
        refine TextR.int rfl rfl rfl ?_
        refine TextR.assign rfl ?_
        refine TextR.done (.cons rfl (.cons rfl (.cons rfl (.cons rfl .nil)))) ?_
        refine Wp.text [0, 1, 5, 6] rfl rfl ?_ -- region 4
        refine TextR.move rfl ?_
        refine TextR.int rfl rfl rfl ?_
        refine TextR.assign rfl ?_
        refine TextR.done (.cons rfl (.cons rfl (.cons rfl (.cons rfl .nil)))) ?_
        exact ⟨m1, Nat.lt_succ_self _, _, (keepW (live := [0, 1, 5, 6]) (.cons rfl (.cons rfl (.cons rfl (.cons rfl .nil))))), _, _, h, rfl⟩
      · refine Wp.skip ?_
        refine Wp.text [0, 1, 5, 6] rfl rfl ?_ -- region 4
        refine TextR.move rfl ?_
        refine TextR.int rfl rfl rfl ?_
        refine TextR.assign rfl ?_
        refine TextR.done (.cons rfl (.cons rfl (.cons rfl (.cons rfl .nil)))) ?_
        exact ⟨m1, Nat.lt_succ_self _, _, (keepW (live := [0, 1, 5, 6]) (.cons rfl (.cons rfl (.cons rfl (.cons rfl .nil))))), _, _, h, rfl⟩
    · refine Wp.exit ?_
      obtain rfl := Option.some.inj h
      exact ⟨_, (keepW (live := [5]) (.cons rfl .nil)), rfl⟩
  rintro _ ⟨S', hw, rfl⟩
  clear hz1
  refine Wp.weak hw ?_
  refine Wp.seq ?_
  refine Wp.text [4] rfl rfl ?_ -- region 7
  refine TextR.move rfl ?_
  refine TextR.assign rfl ?_
  refine TextR.done (.cons rfl .nil) ?_
  refine Wp.ret ?_
  obtain rfl := Option.some.inj h
  exact Ret.one rfl (resV_tmp rfl) rfl
theorem c_narthexref01_Place (N : Nat) (a0 : List Int) (a1 : Int) (r : Int) (h : narthexref01_Place N a0 a1 = some r) (H : List Ob) : DCall Try.prog 49 [.c (.slv (a0.map eI)), .c (I a1)] H (.c (I r)) := DCall.lift (by first | rfl | simp [-List.map_set]) (by first | rfl | simp [-List.map_set]) (fun _ => by simp [-List.map_set]) (w_narthexref01_Place N a0 a1 r h) H
-- narthex/narthexref01.Of
theorem w_narthexref01_Of (N : Nat) (a0 : List Int) (r : (List Int)) (h : narthexref01_Of N a0 = some r) : Nx.Call Try.prog 32 [.c (.slv (a0.map eI))] [] fun r' _ => r' = .c (.slv (r.map eI)) := by
  refine Nx.Call.of_body Try.func32 rfl en32 Try.ntmps32 rfl (fun Γ hok => ?_)
  unfold narthexref01_Of at h
  refine Wp.seq ?_
  refine Wp.text [0] rfl rfl ?_ -- region 0
  refine TextR.assign rfl ?_
  refine TextR.done (.cons rfl .nil) ?_
  refine Wp.seq ?_
  refine Wp.text [0, 3] rfl rfl ?_ -- region 1
  refine TextR.buildSlice  0 se25 rfl rfl rfl .nil ?_
  refine TextR.assign rfl ?_
  refine TextR.done (.cons rfl (.cons rfl .nil)) ?_
  refine Wp.seq ?_
  refine Wp.seq ?_
  refine Wp.text [0, 3, 4] rfl rfl ?_ -- region 2
  refine TextR.assign rfl ?_
  refine TextR.done (.cons rfl (.cons rfl (.cons rfl .nil))) ?_
  obtain ⟨z1, hz1, h⟩ := bind_some h
  refine Wp.fragN (fun S => ∃ wz1_0, ∃ S', St.Weak ⟨Try.prog, 41, Γ⟩ S S' ∧ S' = ⟨[(3, .c (.sl 0 wz1_0 0 z1.length))], [.live wz1_0 1 (z1.map eI)]⟩) ?_ ?_
  · replace h := hz1
    refine Wp.block ?_
    refine Wp.weak (keepW (live := [0, 3, 4]) (.cons rfl (.cons rfl (.cons rfl .nil)))) ?_
    refine Wp.loop (fun m S => ∃ l0_1, ∃ s4_1, ∃ wh0_1, narthexref01_Of_L1 N a0 m l0_1 s4_1 = some z1 ∧ S = ⟨[(0, .c (.slv (a0.map eI))), (3, .c (.sl 0 wh0_1 0 l0_1.length)), (4, .c (I s4_1))], [.live wh0_1 1 (l0_1.map eI)]⟩) N ⟨_, _, _, h, rfl⟩ ?_
    rintro m1 _ ⟨l0_1, s4_1, wh0_1, h, rfl⟩
    cases m1 with
    | zero => rw [narthexref01_Of_L1.eq_1] at h; cases h
    | succ m1 =>
    rw [narthexref01_Of_L1.eq_2] at h
    refine Wp.seq ?_
    refine Wp.seq ?_
    refine Wp.text [0, 3, 4, 10] rfl rfl ?_ -- region 3
    refine TextR.move rfl ?_
    refine TextR.move rfl ?_
    refine TextR.lenM us25 rfl rfl ?_
    refine TextR.int rfl rfl rfl ?_
    refine TextR.done (.cons rfl (.cons rfl (.cons rfl (.cons rfl .nil)))) ?_
    refine Wp.condM h rfl (fun hc2 h => ?_) (fun hc2 h => ?_)
    · refine Wp.skip ?_
      refine Wp.seq ?_
      refine Wp.block ?_
      refine Wp.seq ?_
      refine Wp.seq ?_
      obtain ⟨x2, hx2, h⟩ := bind_some h
      obtain ⟨y3, hy3, h⟩ := bind_some h
      refine Wp.text [0, 3, 4, 18] rfl rfl ?_ -- region 5
      refine TextR.move rfl ?_
      refine TextR.move rfl ?_
      refine TextR.move rfl ?_
      refine TextR.indexA se25 rfl rfl rfl hx2 rfl ?_
      refine TextR.load1M tk3 rfl (at_get hx2) rfl ?_
      refine TextR.dcall rfl rfl (DCall.borrow (fs := [.c (.slv (l0_1.map eI)), .c (I x2)]) (by simp [-List.map_set, obj, List.take_of_length_le]) (by first | rfl | simp [-List.map_set]) rfl (w_narthexref01_Has N l0_1 x2 y3 hy3)) ?_
      refine TextR.done (.cons rfl (.cons rfl (.cons rfl (.cons rfl .nil)))) ?_
      refine Wp.condM h rfl (fun hc3 h => ?_) (fun hc3 h => ?_)
      · refine Wp.exit ?_
        refine Wp.text [0, 3, 4] rfl rfl ?_ -- region 4
        refine TextR.move rfl ?_
        refine TextR.int rfl rfl rfl ?_
        refine TextR.assign rfl ?_
        refine TextR.done (.cons rfl (.cons rfl (.cons rfl .nil))) ?_
        exact ⟨m1, Nat.lt_succ_self _, _, (keepW (live := [0, 3, 4]) (.cons rfl (.cons rfl (.cons rfl .nil)))), _, _, _, h, rfl⟩
      · refine Wp.skip ?_
        refine Wp.seq ?_
        obtain ⟨x4, hx4, h⟩ := bind_some h
        obtain ⟨y5, hy5, h⟩ := bind_some h
        refine Wp.text [0, 3, 4, 5] rfl rfl ?_ -- region 6
        refine TextR.move rfl ?_
        refine TextR.move rfl ?_
        refine TextR.move rfl ?_
        refine TextR.indexA se25 rfl rfl rfl hx4 rfl ?_
        refine TextR.load1M tk3 rfl (at_get hx4) rfl ?_
        refine TextR.dcall rfl rfl (DCall.borrow (fs := [.c (.slv (l0_1.map eI)), .c (I x4)]) (by simp [-List.map_set, obj, List.take_of_length_le]) (by first | rfl | simp [-List.map_set]) rfl (w_narthexref01_Place N l0_1 x4 y5 hy5)) ?_
        refine TextR.assign rfl ?_
        refine TextR.done (.cons rfl (.cons rfl (.cons rfl (.cons rfl .nil)))) ?_
        obtain ⟨x6, hx6, h⟩ := bind_some h
        obtain ⟨x7, hx7, h⟩ := bind_some h
        obtain ⟨x8, hx8, h⟩ := bind_some h
        obtain ⟨x9, hx9, h⟩ := bind_some h
        obtain ⟨x10, hx10, h⟩ := bind_some h
        obtain ⟨x11, hx11, h⟩ := bind_some h
        refine Wp.ways (S0 := ⟨[(0, .c (.slv (a0.map eI))), (3, .c (.sl 1 3 0 x11.length)), (4, .c (I s4_1))], [.live wh0_1 1 (l0_1.map eI), .live 3 1 (x11.map eI), .live 0 1 ([x8].map eI)]⟩) mixed ?_ ?_ -- region 7 WAYS
        · refine RegAny.fork 9 4 [0, 1, 2, 3, 4, 5, 6, 7, 8, 9, 10, 11, 12, 13, 14, 15] [0, 1, 2, 3, 5, 6, 7, 8, 9, 4, 10, 11, 12, 13, 14, 15] rfl rfl rfl rfl ?_ ?_
          · refine RegAny.leaf ⟨[1, 2], []⟩ [[], [], [], [], [], [], [], [], [], [], [], [], [], [], [], []] [false, true, true, true, false, true, true, true, true, false, false, true, true, true, false, false] [0, 3, 4] rfl (by kernel_rfl) rfl ?_
            refine RunR.buildSlice  1 se25 rfl rfl rfl rfl rfl (.cons .nil) ?_
            refine RunR.move rfl rfl rfl ?_
            refine RunR.move rfl rfl rfl ?_
            refine RunR.sliceOM se25 rfl rfl rfl rfl rfl (obj_of rfl) rfl rfl hx6 ?_
            refine RunR.appendM eI ([] : List Int) ((l0_1.drop 0).take x6.length) x7 (app_eq hx7) se25 rfl rfl rfl rfl rfl (view_piece (f := eI) (xs := l0_1) (obj_of rfl) (by have q0 := sub_le hx6; first | exact q0 | (simp only [List.length_set, List.length_take, List.length_drop, length_cpy, length_clr] at *; omega))) (fun _ => rfl) rfl (app_len hx7) (.succ .zero) ?_
            refine RunR.move rfl rfl rfl ?_
            refine RunR.move rfl rfl rfl ?_
            refine RunR.indexA se25 rfl rfl rfl rfl rfl hx8 rfl ?_
            refine RunR.load1M tk3 rfl rfl rfl (at_get hx8) rfl ?_
            refine RunR.buildSlice (rows := [x8].map eI) 2 se25 rfl rfl rfl rfl rfl (.cons (.cons .nil)) ?_
            refine RunR.appendM eI x7 [x8] x9 (app_eq hx9) se25 rfl rfl rfl rfl rfl (view_whole (f := eI) (xs := [x8]) rfl) (fun _ => rfl) rfl (app_len hx9) (.succ .zero) ?_
            refine RunR.move rfl rfl rfl ?_
            refine RunR.move rfl rfl rfl ?_
            refine RunR.sliceOM se25 rfl rfl rfl rfl rfl (obj_of rfl) rfl rfl hx10 ?_
            refine RunR.appendM eI x9 ((l0_1.drop (Int.toNat y5)).take x10.length) x11 (app_eq hx11) se25 rfl rfl rfl rfl rfl (view_piece (f := eI) (xs := l0_1) (obj_of rfl) (by have q0 := sub_le hx10; first | exact q0 | (simp only [List.length_set, List.length_take, List.length_drop, length_cpy, length_clr] at *; omega))) (fun _ => rfl) rfl (app_len hx11) (.succ .zero) ?_
            refine RunR.assign rfl rfl rfl ?_
            refine RunR.nil ⟨_, (.cons rfl (.cons rfl (.cons rfl .nil))), .refl⟩
          · refine RegAny.fork 8 0 [0, 1, 2, 3, 4, 5, 6, 7, 8, 9, 10, 11, 12, 13, 14, 15] [1, 2, 3, 4, 5, 6, 7, 8, 0, 9, 10, 11, 12, 13, 14, 15] rfl rfl rfl rfl ?_ ?_
            · refine RegAny.leaf ⟨[1, 2], []⟩ [[], [], [], [], [], [], [], [], [], [], [], [], [], [], [], []] [false, true, true, true, true, true, true, true, false, false, false, true, true, true, false, false] [0, 3, 4] rfl (by kernel_rfl) rfl ?_
              refine RunR.buildSlice  1 se25 rfl rfl rfl rfl rfl (.cons .nil) ?_
              refine RunR.move rfl rfl rfl ?_
              refine RunR.move rfl rfl rfl ?_
              refine RunR.sliceOM se25 rfl rfl rfl rfl rfl (obj_of rfl) rfl rfl hx6 ?_
              refine RunR.move rfl rfl rfl ?_
              refine RunR.move rfl rfl rfl ?_
              refine RunR.indexA se25 rfl rfl rfl rfl rfl hx8 rfl ?_
              refine RunR.load1M tk3 rfl rfl rfl (at_get hx8) rfl ?_
              refine RunR.buildSlice (rows := [x8].map eI) 2 se25 rfl rfl rfl rfl rfl (.cons (.cons .nil)) ?_
              refine RunR.appendM eI ([] : List Int) ((l0_1.drop 0).take x6.length) x7 (app_eq hx7) se25 rfl rfl rfl rfl rfl (view_piece (f := eI) (xs := l0_1) (obj_of rfl) (by have q0 := sub_le hx6; first | exact q0 | (simp only [List.length_set, List.length_take, List.length_drop, length_cpy, length_clr] at *; omega))) (fun _ => rfl) rfl (app_len hx7) (.succ .zero) ?_
              refine RunR.appendM eI x7 [x8] x9 (app_eq hx9) se25 rfl rfl rfl rfl rfl (view_whole (f := eI) (xs := [x8]) rfl) (fun _ => rfl) rfl (app_len hx9) (.succ .zero) ?_
              refine RunR.move rfl rfl rfl ?_
              refine RunR.move rfl rfl rfl ?_
              refine RunR.sliceOM se25 rfl rfl rfl rfl rfl (obj_of rfl) rfl rfl hx10 ?_
              refine RunR.appendM eI x9 ((l0_1.drop (Int.toNat y5)).take x10.length) x11 (app_eq hx11) se25 rfl rfl rfl rfl rfl (view_piece (f := eI) (xs := l0_1) (obj_of rfl) (by have q0 := sub_le hx10; first | exact q0 | (simp only [List.length_set, List.length_take, List.length_drop, length_cpy, length_clr] at *; omega))) (fun _ => rfl) rfl (app_len hx11) (.succ .zero) ?_
              refine RunR.assign rfl rfl rfl ?_
              refine RunR.nil ⟨_, (.cons rfl (.cons rfl (.cons rfl .nil))), .refl⟩
            · refine RegAny.leaf ⟨[1, 2], []⟩ [[], [], [], [], [], [], [], [], [], [], [], [], [], [], [], []] [true, true, true, false, false, false, false, false, false, false, false, true, true, true, false, false] [0, 3, 4] rfl (by kernel_rfl) rfl ?_
              refine RunR.move rfl rfl rfl ?_
              refine RunR.move rfl rfl rfl ?_
              refine RunR.sliceOM se25 rfl rfl rfl rfl rfl (obj_of rfl) rfl rfl hx6 ?_
              refine RunR.move rfl rfl rfl ?_
              refine RunR.move rfl rfl rfl ?_
              refine RunR.indexA se25 rfl rfl rfl rfl rfl hx8 rfl ?_
              refine RunR.load1M tk3 rfl rfl rfl (at_get hx8) rfl ?_
              refine RunR.buildSlice (rows := [x8].map eI) 1 se25 rfl rfl rfl rfl rfl (.cons .nil) ?_
              refine RunR.buildSlice  2 se25 rfl rfl rfl rfl rfl (.cons (.cons .nil)) ?_
              refine RunR.appendM eI ([] : List Int) ((l0_1.drop 0).take x6.length) x7 (app_eq hx7) se25 rfl rfl rfl rfl rfl (view_piece (f := eI) (xs := l0_1) (obj_of rfl) (by have q0 := sub_le hx6; first | exact q0 | (simp only [List.length_set, List.length_take, List.length_drop, length_cpy, length_clr] at *; omega))) (fun _ => rfl) rfl (app_len hx7) (.succ (.succ .zero)) ?_
              refine RunR.appendM eI x7 [x8] x9 (app_eq hx9) se25 rfl rfl rfl rfl rfl (view_whole (f := eI) (xs := [x8]) rfl) (fun _ => rfl) rfl (app_len hx9) (.succ (.succ .zero)) ?_
              refine RunR.move rfl rfl rfl ?_
              refine RunR.move rfl rfl rfl ?_
              refine RunR.sliceOM se25 rfl rfl rfl rfl rfl (obj_of rfl) rfl rfl hx10 ?_
              refine RunR.appendM eI x9 ((l0_1.drop (Int.toNat y5)).take x10.length) x11 (app_eq hx11) se25 rfl rfl rfl rfl rfl (view_piece (f := eI) (xs := l0_1) (obj_of rfl) (by have q0 := sub_le hx10; first | exact q0 | (simp only [List.length_set, List.length_take, List.length_drop, length_cpy, length_clr] at *; omega))) (fun _ => rfl) rfl (app_len hx11) (.succ (.succ .zero)) ?_
              refine RunR.assign rfl rfl rfl ?_
              refine RunR.nil ⟨_, (.cons rfl (.cons rfl (.cons rfl .nil))), (pickT (e' := [(0, .c (.slv (a0.map eI))), (3, .c (.sl 1 3 0 x11.length)), (4, .c (I s4_1))]) (H' := [.live wh0_1 1 (l0_1.map eI), .live 3 1 (x11.map eI), .live 0 1 ([x8].map eI)]) [0, 2, 1] [0, 2, 1] 0 hok.len.symm rfl rfl (by decide) (by first | rfl | simp [-List.map_set]) (by first | rfl | simp [-List.map_set]) (by first | rfl | simp [-List.map_set]) (by first | rfl | simp [-List.map_set]))⟩
        refine Wp.text [0, 3, 4] rfl rfl ?_ -- region 4
        refine TextR.move rfl ?_
        refine TextR.int rfl rfl rfl ?_
        refine TextR.assign rfl ?_
        refine TextR.done (.cons rfl (.cons rfl (.cons rfl .nil))) ?_
        exact ⟨m1, Nat.lt_succ_self _, _, (St.Weak.trans (keepW (live := [0, 3, 4]) (.cons rfl (.cons rfl (.cons rfl .nil)))) (pickT (e' := [(0, .c (.slv (a0.map eI))), (3, .c (.sl 0 3 0 x11.length)), (4, .c (I (w64 (s4_1 + 1))))]) (H' := [.live 3 1 (x11.map eI)]) [1] [0, 0, 0] 0 hok.len.symm rfl rfl (by decide) (by first | rfl | simp [-List.map_set]) (by first | rfl | simp [-List.map_set]) (by first | rfl | simp [-List.map_set]) (by first | rfl | simp [-List.map_set]))), _, _, _, h, rfl⟩
    · refine Wp.exit ?_
      obtain rfl := Option.some.inj h
      exact ⟨_, _, (keepW (live := [3]) (.cons rfl .nil)), rfl⟩
  rintro _ ⟨wz1_0, S', hw, rfl⟩
  clear hz1
  refine Wp.weak hw ?_
  refine Wp.seq ?_
  refine Wp.text [2] rfl rfl ?_ -- region 8
  refine TextR.move rfl ?_
  refine TextR.assign rfl ?_
  refine TextR.done (.cons rfl .nil) ?_
  refine Wp.weak (keepW (live := [2] ) (.cons rfl .nil)) ?_
  refine Wp.weak (freezeW (h := 0) (ver := wz1_0) (rows := z1.map eI) (e' := [(2, .c (.slv (z1.map eI)))]) (H' := [.dead]) (obj_of rfl) (by first | rfl | simp [-List.map_set]) (by first | rfl | simp [-List.map_set])) ?_
  refine Wp.ret ?_
  obtain rfl := Option.some.inj h
  exact Ret.one rfl (resV_tmp rfl) rfl
theorem c_narthexref01_Of (N : Nat) (a0 : List Int) (r : (List Int)) (h : narthexref01_Of N a0 = some r) (H : List Ob) : DCall Try.prog 32 [.c (.slv (a0.map eI))] H (.c (.slv (r.map eI))) := DCall.lift (by first | rfl | simp [-List.map_set]) (by first | rfl | simp [-List.map_set]) (fun _ => by simp [-List.map_set]) (w_narthexref01_Of N a0 r h) H
-- narthex/narthexlaw04.DagEither
theorem w_narthexlaw04_DagEither (N : Nat) (a0 : Int) (a1 : List TArc) (r : Bool) (h : narthexlaw04_DagEither N a0 a1 = some r) : Nx.Call Try.prog 9 [.c (I a0), .c (.slv (a1.map eArc))] [] fun r' _ => r' = .c (B r) := by
  refine Nx.Call.of_body Try.func9 rfl en9 Try.ntmps9 rfl (fun Γ hok => ?_)
  unfold narthexlaw04_DagEither at h
  refine Wp.seq ?_
  refine Wp.text [0, 1] rfl rfl ?_ -- region 0
  refine TextR.assign rfl ?_
  refine TextR.done (.cons rfl (.cons rfl .nil)) ?_
  refine Wp.seq ?_
  refine Wp.seq ?_
  obtain ⟨y1, hy1, h⟩ := bind_some h
  obtain ⟨y2, hy2, h⟩ := bind_some h
  obtain ⟨y3, hy3, h⟩ := bind_some h
  obtain ⟨y4, hy4, h⟩ := bind_some h
  refine Wp.go false none [[], [], [], [(17, false)], [(17, false)], [(17, false)], [(17, false)], [], [], [(23, false)], [(23, false)], [(23, false)], [(23, false)], [(23, false)], []] [] [0, 1, 29] mixed rfl rfl (by kernel_rfl) ?_ -- region 1
  refine RunR.call rfl rfl rfl (fun H => c_narthexlaw04_awake N y1 hy1 H) ?_
  refine RunR.not rfl rfl rfl ?_
  refine RunR.move rfl rfl rfl ?_
  refine RunR.move rfl rfl rfl ?_
  refine RunR.move rfl rfl rfl ?_
  refine RunR.callG rfl rfl rfl (fun hb H => c_narthexlaw04_few N a0 a1 y2 (ifT hy2 gF hb) H) ?_
  refine RunR.not rfl rfl rfl ?_
  refine RunR.pickOr rfl rfl rfl rfl ?_
  refine RunR.move rfl rfl rfl ?_
  refine RunR.move rfl rfl rfl ?_
  refine RunR.move rfl rfl rfl ?_
  refine RunR.callG rfl rfl rfl (fun hb H => c_narthexlaw04_own N a1 y3 (ifT hy3 gF hb) H) ?_
  refine RunR.callG rfl rfl rfl (fun hb H => c_dag_Check N a0 y3 y4 (ifT hy4 gF hb) H) ?_
  refine RunR.int rfl rfl rfl rfl rfl ?_
  refine RunR.pickOr rfl rfl rfl rfl ?_
  refine RunR.doneQ (.cons rfl (.cons rfl (.cons rfl .nil))) ?_
  refine Wp.condM h rfl (fun hc1 h => ?_) (fun hc1 h => ?_)
  · refine Wp.seq ?_
    obtain ⟨y5, hy5, h⟩ := bind_some h
    refine Wp.text [4] rfl rfl ?_ -- region 2
    refine TextR.dcall rfl rfl (c_narthexlaw04_awake N y5 hy5 _) ?_
    refine TextR.assign rfl ?_
    refine TextR.done (.cons rfl .nil) ?_
    refine Wp.ret ?_
    obtain rfl := Option.some.inj h
    exact Ret.one rfl (resV_tmp rfl) rfl
  · refine Wp.skip ?_
    refine Wp.seq ?_
    obtain ⟨y6, hy6, h⟩ := bind_some h
    obtain ⟨y7, hy7, h⟩ := bind_some h
    refine Wp.text [0, 1, 5, 6] rfl rfl ?_ -- region 3
    refine TextR.move rfl ?_
    refine TextR.move rfl ?_
    refine TextR.dcall rfl rfl (c_narthexlaw04_own N a1 y6 hy6 _) ?_
    refine TextR.dcall rfl rfl (c_dag_Order N a0 y6 y7 hy7 _) ?_
    refine TextR.move rfl ?_
    refine TextR.extract rfl rfl ?_
    refine TextR.extract rfl rfl ?_
    refine TextR.alloc 0 zc25 rfl rfl .nil ?_
    refine TextR.store1 tk25 rfl rfl rfl rfl rfl rfl .zero ?_
    refine TextR.assign rfl ?_
    refine TextR.done (.cons rfl (.cons rfl (.cons rfl (.cons rfl .nil)))) ?_
    refine Wp.seq ?_
    obtain ⟨y8, hy8, h⟩ := bind_some h
    obtain ⟨y9, hy9, h⟩ := bind_some h
    refine Wp.text [0, 1, 5, 6, 7, 8] rfl rfl ?_ -- region 4
    refine TextR.move rfl ?_
    refine TextR.move rfl ?_
    refine TextR.dcall rfl rfl (c_narthexlaw04_own N a1 y8 hy8 _) ?_
    refine TextR.dcall rfl rfl (c_dag_Cycle N a0 y8 y9 hy9 _) ?_
    refine TextR.move rfl ?_
    refine TextR.extract rfl rfl ?_
    refine TextR.extract rfl rfl ?_
    refine TextR.assign rfl ?_
    refine TextR.assign rfl ?_
    refine TextR.done (.cons rfl (.cons rfl (.cons rfl (.cons rfl (.cons rfl (.cons rfl .nil)))))) ?_
    refine Wp.seq ?_
    refine Wp.seq ?_
    obtain ⟨y10, hy10, h⟩ := bind_some h
    refine Wp.go false none [[], [], [], [], [(48, false)], [(48, false)], [(48, false)], [(48, false)], [(48, false)], []] [] [0, 1, 5, 6, 7, 54] mixed rfl rfl (by kernel_rfl) ?_ -- region 5
    refine RunR.move rfl rfl rfl ?_
    refine RunR.move rfl rfl rfl ?_
    refine RunR.eqBool (by kernel_rfl) rfl rfl rfl rfl ?_
    refine RunR.move rfl rfl rfl ?_
    refine RunR.move rfl rfl rfl ?_
    refine RunR.move rfl rfl rfl ?_
    refine RunR.move rfl rfl rfl ?_
    refine RunR.callG rfl rfl rfl (fun hb H => c_narthexref04_Round N a0 a1 y10 (ifT hy10 gF hb) H) ?_
    refine RunR.neBool (by kernel_rfl) rfl rfl rfl rfl ?_
    refine RunR.pickOr rfl rfl rfl rfl ?_
    refine RunR.doneQ (.cons rfl (.cons rfl (.cons rfl (.cons rfl (.cons rfl (.cons rfl .nil)))))) ?_
    refine Wp.condM h rfl (fun hc2 h => ?_) (fun hc2 h => ?_)
    · refine Wp.seq ?_
      refine Wp.text [4] rfl rfl ?_ -- region 6
      refine TextR.assign rfl ?_
      refine TextR.done (.cons rfl .nil) ?_
      refine Wp.ret ?_
      obtain rfl := Option.some.inj h
      exact Ret.one rfl (resV_tmp rfl) rfl
    · refine Wp.skip ?_
      refine Wp.seq ?_
      refine Wp.text [0, 1, 5, 6, 7, 9] rfl rfl ?_ -- region 7
      refine TextR.makeFunc rfl ?_
      refine TextR.assign rfl ?_
      refine TextR.done (.cons rfl (.cons rfl (.cons rfl (.cons rfl (.cons rfl (.cons rfl .nil)))))) ?_
      refine Wp.seq ?_
      refine Wp.seq ?_
      refine Wp.text [0, 1, 5, 7, 9, 56] rfl rfl ?_ -- region 8
      refine TextR.move rfl ?_
      refine TextR.done (.cons rfl (.cons rfl (.cons rfl (.cons rfl (.cons rfl (.cons rfl .nil)))))) ?_
      refine Wp.condM h rfl (fun hc3 h => ?_) (fun hc3 h => ?_)
      · refine Wp.seq ?_
        refine Wp.seq ?_
        refine Wp.text [0, 1, 5, 7, 9, 10] rfl rfl ?_ -- region 9
        refine TextR.assign rfl ?_
        refine TextR.done (.cons rfl (.cons rfl (.cons rfl (.cons rfl (.cons rfl (.cons rfl .nil)))))) ?_
        obtain ⟨z11, hz11, h⟩ := bind_some h
        refine Wp.fragR (fun S => ∃ z13, z11 = .inr z13 ∧ ∃ S', St.Weak ⟨Try.prog, 167, Γ⟩ S S' ∧ S' = ⟨[(0, .c (I a0)), (5, .c (.ptr 0 0 0 0)), (7, .c (.slv (y9.1.map eI)))], [.live 0 1 [[.slv (y7.1.map eI)]]]⟩) (fun S => ∃ v, z11 = .inl v ∧ Ret Try.prog Try.f9 (fun r' _ => r' = .c (B v)) .ret S) ?_ ?_ ?_
        · replace h := hz11
          refine Wp.block ?_
          refine Wp.weak (keepW (live := [0, 1, 5, 7, 9, 10]) (.cons rfl (.cons rfl (.cons rfl (.cons rfl (.cons rfl (.cons rfl .nil))))))) ?_
          refine Wp.loop (fun m S => ∃ s10_1, narthexlaw04_DagEither_L1 N a1 y7 m s10_1 = some z11 ∧ S = ⟨[(0, .c (I a0)), (1, .c (.slv (a1.map eArc))), (5, .c (.ptr 0 0 0 0)), (7, .c (.slv (y9.1.map eI))), (9, .c (.clo 30 [.ptr 0 0 0 0])), (10, .c (I s10_1))], [.live 0 1 [[.slv (y7.1.map eI)]]]⟩) N ⟨_, h, rfl⟩ ?_
          rintro m1 _ ⟨s10_1, h, rfl⟩
          cases m1 with
          | zero => rw [narthexlaw04_DagEither_L1.eq_1] at h; cases h
          | succ m1 =>
          rw [narthexlaw04_DagEither_L1.eq_2] at h
          refine Wp.seq ?_
          refine Wp.seq ?_
          refine Wp.text [0, 1, 5, 7, 9, 10, 60] rfl rfl ?_ -- region 10
          refine TextR.move rfl ?_
          refine TextR.move rfl ?_
          refine TextR.lenM us22 rfl rfl ?_
          refine TextR.int rfl rfl rfl ?_
          refine TextR.done (.cons rfl (.cons rfl (.cons rfl (.cons rfl (.cons rfl (.cons rfl (.cons rfl .nil))))))) ?_
          refine Wp.condM h rfl (fun hc5 h => ?_) (fun hc5 h => ?_)
          · refine Wp.skip ?_
            refine Wp.seq ?_
            refine Wp.block ?_
            refine Wp.seq ?_
            obtain ⟨x14, hx14, h⟩ := bind_some h
            obtain ⟨y15, hy15, h⟩ := bind_some h
            obtain ⟨x16, hx16, h⟩ := bind_some h
            obtain ⟨y17, hy17, h⟩ := bind_some h
            refine Wp.go true (some ⟨[], []⟩) [] [] [0, 1, 5, 7, 9, 10, 77] mixed rfl rfl (by kernel_rfl) ?_ -- region 12
            refine RunR.move rfl rfl rfl ?_
            refine RunR.move rfl rfl rfl ?_
            refine RunR.move rfl rfl rfl ?_
            refine RunR.indexA se22 rfl rfl rfl rfl rfl hx14 rfl ?_
            refine RunR.fieldAddr fo37_0 rfl rfl rfl rfl rfl ?_
            refine RunR.load1M tk3 rfl rfl rfl (at_get hx14) rfl ?_
            refine RunR.callH rfl rfl rfl rfl (fun hb => c_narthexlaw04_DagEither_1 N x14.From y7.1 y15 hy15) ?_
            refine RunR.move rfl rfl rfl ?_
            refine RunR.move rfl rfl rfl ?_
            refine RunR.move rfl rfl rfl ?_
            refine RunR.indexA se22 rfl rfl rfl rfl rfl hx16 rfl ?_
            refine RunR.fieldAddr fo37_1 rfl rfl rfl rfl rfl ?_
            refine RunR.load1M tk3 rfl rfl rfl (at_get hx16) rfl ?_
            refine RunR.callH rfl rfl rfl rfl (fun hb => c_narthexlaw04_DagEither_1 N x16.To y7.1 y17 hy17) ?_
            refine RunR.int rfl rfl rfl rfl rfl ?_
            refine RunR.doneQ (.cons rfl (.cons rfl (.cons rfl (.cons rfl (.cons rfl (.cons rfl (.cons rfl .nil))))))) ?_
            refine Wp.condM h rfl (fun hc6 h => ?_) (fun hc6 h => ?_)
            · refine Wp.seq ?_
              refine Wp.text [4] rfl rfl ?_ -- region 13
              refine TextR.assign rfl ?_
              refine TextR.done (.cons rfl .nil) ?_
              refine Wp.ret ?_
              exact ⟨_, (Option.some.inj h).symm, Ret.one rfl (resV_tmp rfl) rfl⟩
            · refine Wp.skip ?_
              refine Wp.text [0, 1, 5, 7, 9, 10] rfl rfl ?_ -- region 11
              refine TextR.move rfl ?_
              refine TextR.int rfl rfl rfl ?_
              refine TextR.assign rfl ?_
              refine TextR.done (.cons rfl (.cons rfl (.cons rfl (.cons rfl (.cons rfl (.cons rfl .nil)))))) ?_
              exact ⟨m1, Nat.lt_succ_self _, _, (keepW (live := [0, 1, 5, 7, 9, 10]) (.cons rfl (.cons rfl (.cons rfl (.cons rfl (.cons rfl (.cons rfl .nil))))))), _, h, rfl⟩
          · refine Wp.exit ?_
            exact ⟨_, (Option.some.inj h).symm, _, (keepW (live := [0, 5, 7]) (.cons rfl (.cons rfl (.cons rfl .nil)))), rfl⟩
        · rintro _ ⟨z13, rfl, _, hw, rfl⟩
          dsimp only at h
          clear hz11
          refine Wp.weak hw ?_
          refine Wp.seq ?_
          obtain ⟨y18, hy18, h⟩ := bind_some h
          obtain ⟨y19, hy19, h⟩ := bind_some h
          obtain ⟨y20, hy20, h⟩ := bind_some h
          obtain ⟨y21, hy21, h⟩ := bind_some h
          refine Wp.go true (some ⟨[], []⟩) [[], [], [], [], [], [(82, true)], [(82, true)], [(82, true)], [(82, true)], [(82, true)], [], [], [(89, true)], [(89, true)], [(89, true)], [(89, true)], [(89, true)], [], [], [(96, true)], [(96, true)], [(96, true)], [], []] [] [4] mixed rfl rfl (by kernel_rfl) ?_ -- region 14
          refine RunR.load1 tk25 rfl rfl rfl rfl ?_
          refine RunR.lenM us25 rfl rfl rfl rfl ?_
          refine RunR.move rfl rfl rfl ?_
          refine RunR.int rfl rfl rfl rfl rfl ?_
          refine RunR.move rfl rfl rfl ?_
          refine RunR.load1 tk25 rfl rfl rfl rfl ?_
          refine RunR.callG rfl rfl rfl (fun hb H => c_set_Of N y7.1 y18 (ifT hy18 gT hb) H) ?_
          refine RunR.load1 tk25 rfl rfl rfl rfl ?_
          refine RunR.callG rfl rfl rfl (fun hb H => c_narthexref01_Of N y7.1 y19 (ifT hy19 gT hb) H) ?_
          refine RunR.callG rfl rfl rfl (fun hb H => c_narthexref01_Same N y18 y19 y20 (ifT hy20 gT hb) H) ?_
          refine RunR.pickAnd rfl rfl rfl rfl ?_
          refine RunR.move rfl rfl rfl ?_
          refine RunR.load1 tk25 rfl rfl rfl rfl ?_
          refine RunR.callG rfl rfl rfl (fun hb H => c_set_Of N y7.1 y21 (ifT hy21 gT hb) H) ?_
          refine RunR.lenM us25 rfl rfl rfl rfl ?_
          refine RunR.move rfl rfl rfl ?_
          refine RunR.int rfl rfl rfl rfl rfl ?_
          refine RunR.pickAnd rfl rfl rfl rfl ?_
          refine RunR.move rfl rfl rfl ?_
          refine RunR.move rfl rfl rfl ?_
          refine RunR.lenM us25 rfl rfl rfl rfl ?_
          refine RunR.int rfl rfl rfl rfl rfl ?_
          refine RunR.pickAnd rfl rfl rfl rfl ?_
          refine RunR.assign rfl rfl rfl ?_
          refine RunR.doneQ (.cons rfl .nil) ?_
          refine Wp.ret ?_
          obtain rfl := Option.some.inj h
          exact Ret.one rfl (resV_tmp rfl) rfl
        · rintro S' ⟨r12, rfl, hR⟩
          dsimp only at h
          obtain rfl := Option.some.inj h
          exact hR
      · refine Wp.skip ?_
        refine Wp.seq ?_
        refine Wp.seq ?_
        refine Wp.text [1, 5, 7, 11] rfl rfl ?_ -- region 15
        refine TextR.assign rfl ?_
        refine TextR.done (.cons rfl (.cons rfl (.cons rfl (.cons rfl .nil)))) ?_
        obtain ⟨z22, hz22, h⟩ := bind_some h
        refine Wp.fragR (fun S => ∃ z24, z22 = .inr z24 ∧ ∃ S', St.Weak ⟨Try.prog, 167, Γ⟩ S S' ∧ S' = ⟨[(5, .c (.ptr 0 0 0 0)), (7, .c (.slv (y9.1.map eI)))], [.live 0 1 [[.slv (y7.1.map eI)]]]⟩) (fun S => ∃ v, z22 = .inl v ∧ Ret Try.prog Try.f9 (fun r' _ => r' = .c (B v)) .ret S) ?_ ?_ ?_
        · replace h := hz22
          refine Wp.block ?_
          refine Wp.weak (keepW (live := [1, 5, 7, 11]) (.cons rfl (.cons rfl (.cons rfl (.cons rfl .nil))))) ?_
          refine Wp.loop (fun m S => ∃ s11_2, narthexlaw04_DagEither_L2 N a1 y9 m s11_2 = some z22 ∧ S = ⟨[(1, .c (.slv (a1.map eArc))), (5, .c (.ptr 0 0 0 0)), (7, .c (.slv (y9.1.map eI))), (11, .c (I s11_2))], [.live 0 1 [[.slv (y7.1.map eI)]]]⟩) N ⟨_, h, rfl⟩ ?_
          rintro m2 _ ⟨s11_2, h, rfl⟩
          cases m2 with
          | zero => rw [narthexlaw04_DagEither_L2.eq_1] at h; cases h
          | succ m2 =>
          rw [narthexlaw04_DagEither_L2.eq_2] at h
          refine Wp.seq ?_
          refine Wp.seq ?_
          refine Wp.text [1, 5, 7, 11, 104] rfl rfl ?_ -- region 16
          refine TextR.move rfl ?_
          refine TextR.move rfl ?_
          refine TextR.lenM us25 rfl rfl ?_
          refine TextR.int rfl rfl rfl ?_
          refine TextR.done (.cons rfl (.cons rfl (.cons rfl (.cons rfl (.cons rfl .nil))))) ?_
          refine Wp.condM h rfl (fun hc5 h => ?_) (fun hc5 h => ?_)
          · refine Wp.skip ?_
            refine Wp.seq ?_
            refine Wp.block ?_
            refine Wp.seq ?_
            obtain ⟨x25, hx25, h⟩ := bind_some h
            obtain ⟨x26, hx26, h⟩ := bind_some h
            obtain ⟨x27, hx27, h⟩ := bind_some h
            refine Wp.go true (some ⟨[1], []⟩) [] [true, true, true, true, true, true, true, true, true, true, true, true, true, false, true] [1, 5, 7, 11, 12] mixed rfl rfl (by kernel_rfl) ?_ -- region 18
            refine RunR.move rfl rfl rfl ?_
            refine RunR.move rfl rfl rfl ?_
            refine RunR.indexA se25 rfl rfl rfl rfl rfl hx25 rfl ?_
            refine RunR.load1M tk3 rfl rfl rfl (at_get hx25) rfl ?_
            refine RunR.move rfl rfl rfl ?_
            refine RunR.move rfl rfl rfl ?_
            refine RunR.int rfl rfl rfl rfl rfl ?_
            refine RunR.move rfl rfl rfl ?_
            refine RunR.lenM us25 rfl rfl rfl rfl ?_
            refine RunR.int (l := .v (.int .i64 x26)) rfl rfl rfl rfl (rem_eq hx26) ?_
            refine RunR.indexA se25 rfl rfl rfl rfl rfl hx27 rfl ?_
            refine RunR.load1M tk3 rfl rfl rfl (at_get hx27) rfl ?_
            refine RunR.build cm37 rfl rfl rfl ?_
            refine RunR.alloc 1 zc37 rfl rfl rfl rfl (.cons .nil) ?_
            refine RunR.store1 tk37 rfl rfl rfl rfl rfl rfl rfl rfl (.succ .zero) ?_
            refine RunR.doneQ (.cons rfl (.cons rfl (.cons rfl (.cons rfl (.cons rfl .nil))))) ?_
            refine Wp.seq ?_
            refine Wp.text [1, 5, 7, 11, 12, 13] rfl rfl ?_ -- region 19
            refine TextR.assign rfl ?_
            refine TextR.done (.cons rfl (.cons rfl (.cons rfl (.cons rfl (.cons rfl (.cons rfl .nil)))))) ?_
            refine Wp.seq ?_
            refine Wp.seq ?_
            refine Wp.text [1, 5, 7, 11, 12, 13, 14] rfl rfl ?_ -- region 20
            refine TextR.assign rfl ?_
            refine TextR.done (.cons rfl (.cons rfl (.cons rfl (.cons rfl (.cons rfl (.cons rfl (.cons rfl .nil))))))) ?_
            obtain ⟨z28, hz28, h⟩ := bind_some h
            refine Wp.fragN (fun S => ∃ S', St.Weak ⟨Try.prog, 167, Γ⟩ S S' ∧ S' = ⟨[(1, .c (.slv (a1.map eArc))), (5, .c (.ptr 0 0 0 0)), (7, .c (.slv (y9.1.map eI))), (11, .c (I s11_2)), (13, .c (B z28))], [.live 0 1 [[.slv (y7.1.map eI)]]]⟩) ?_ ?_
            · replace h := hz28
              refine Wp.block ?_
              refine Wp.weak (keepW (live := [1, 5, 7, 11, 12, 13, 14]) (.cons rfl (.cons rfl (.cons rfl (.cons rfl (.cons rfl (.cons rfl (.cons rfl .nil)))))))) ?_
              refine Wp.loop (fun m S => ∃ s13_3, ∃ s14_3, narthexlaw04_DagEither_L3 N a1 x25 x27 m s13_3 s14_3 = some z28 ∧ S = ⟨[(1, .c (.slv (a1.map eArc))), (5, .c (.ptr 0 0 0 0)), (7, .c (.slv (y9.1.map eI))), (11, .c (I s11_2)), (12, .c (.ptr 1 0 0 0)), (13, .c (B s13_3)), (14, .c (I s14_3))], [.live 0 1 [[.slv (y7.1.map eI)]], .live 0 2 [[I x25, I x27]]]⟩) N ⟨_, _, h, rfl⟩ ?_
              rintro m3 _ ⟨s13_3, s14_3, h, rfl⟩
              cases m3 with
              | zero => rw [narthexlaw04_DagEither_L3.eq_1] at h; cases h
              | succ m3 =>
              rw [narthexlaw04_DagEither_L3.eq_2] at h
              refine Wp.seq ?_
              refine Wp.seq ?_
              refine Wp.text [1, 5, 7, 11, 12, 13, 14, 123] rfl rfl ?_ -- region 21
              refine TextR.move rfl ?_
              refine TextR.move rfl ?_
              refine TextR.lenM us22 rfl rfl ?_
              refine TextR.int rfl rfl rfl ?_
              refine TextR.done (.cons rfl (.cons rfl (.cons rfl (.cons rfl (.cons rfl (.cons rfl (.cons rfl (.cons rfl .nil)))))))) ?_
              refine Wp.condM h rfl (fun hc7 h => ?_) (fun hc7 h => ?_)
              · refine Wp.skip ?_
                refine Wp.seq ?_
                refine Wp.block ?_
                obtain ⟨x29, hx29, h⟩ := bind_some h
                refine Wp.go true (some ⟨[], []⟩) [[], [], [(127, false)], [(127, false)], [(127, false)], [(127, false)], [(127, false)], [(127, false)], [], []] [] [1, 5, 7, 11, 12, 13, 14] mixed rfl rfl (by kernel_rfl) ?_ -- region 23
                refine RunR.move rfl rfl rfl ?_
                refine RunR.move rfl rfl rfl ?_
                refine RunR.move rfl rfl rfl ?_
                refine RunR.move rfl rfl rfl ?_
                refine RunR.indexAG se22 rfl rfl rfl rfl rfl (ifPos hx29 gF) (ifAt hx29 gF) rfl ?_
                refine RunR.loadNG tk37 rfl rfl rfl (ifAt hx29 gF) rfl ?_
                refine RunR.loadN (cs := [I x25, I x27]) tk37 rfl rfl rfl rfl ?_
                refine RunR.eqAgg eqs37 rfl rfl rfl rfl (q_Arc x29 (⟨x25, x27⟩ : TArc)) ?_
                refine RunR.pickOr rfl rfl rfl rfl ?_
                refine RunR.assign rfl rfl rfl ?_
                refine RunR.doneQ (.cons rfl (.cons rfl (.cons rfl (.cons rfl (.cons rfl (.cons rfl (.cons rfl .nil))))))) ?_
                refine Wp.text [1, 5, 7, 11, 12, 13, 14] rfl rfl ?_ -- region 22
                refine TextR.move rfl ?_
                refine TextR.int rfl rfl rfl ?_
                refine TextR.assign rfl ?_
                refine TextR.done (.cons rfl (.cons rfl (.cons rfl (.cons rfl (.cons rfl (.cons rfl (.cons rfl .nil))))))) ?_
                exact ⟨m3, Nat.lt_succ_self _, _, (keepW (live := [1, 5, 7, 11, 12, 13, 14]) (.cons rfl (.cons rfl (.cons rfl (.cons rfl (.cons rfl (.cons rfl (.cons rfl .nil)))))))), _, _, h, rfl⟩
              · refine Wp.exit ?_
                obtain rfl := Option.some.inj h
                exact ⟨_, (St.Weak.trans (keepW (live := [1, 5, 7, 11, 13]) (.cons rfl (.cons rfl (.cons rfl (.cons rfl (.cons rfl .nil)))))) (pickT (e' := [(1, .c (.slv (a1.map eArc))), (5, .c (.ptr 0 0 0 0)), (7, .c (.slv (y9.1.map eI))), (11, .c (I s11_2)), (13, .c (B s13_3))]) (H' := [.live 0 1 [[.slv (y7.1.map eI)]]]) [0] [0, 0] 0 hok.len.symm rfl rfl (by decide) (by first | rfl | simp [-List.map_set]) (by first | rfl | simp [-List.map_set]) (by first | rfl | simp [-List.map_set]) (by first | rfl | simp [-List.map_set]))), rfl⟩
            rintro _ ⟨S', hw, rfl⟩
            clear hz28
            refine Wp.weak hw ?_
            refine Wp.seq ?_
            obtain ⟨x30, hx30, h⟩ := bind_some h
            obtain ⟨x31, hx31, h⟩ := bind_some h
            refine Wp.go true (some ⟨[], []⟩) [[], [], [], [(137, false)], [(137, false)], [(137, false)], [(140, true), (137, false)], [(140, true), (137, false)], [(140, true), (137, false)], [(140, true), (137, false)], [(140, true), (137, false)], [(140, true), (137, false)], [(140, true), (137, false)], [(140, true), (137, false)], [(137, false)], []] [] [1, 5, 7, 11, 150] mixed rfl rfl (by kernel_rfl) ?_ -- region 24
            refine RunR.move rfl rfl rfl ?_
            refine RunR.not rfl rfl rfl ?_
            refine RunR.move rfl rfl rfl ?_
            refine RunR.move rfl rfl rfl ?_
            refine RunR.int rfl rfl rfl rfl rfl ?_
            refine RunR.move rfl rfl rfl ?_
            refine RunR.move rfl rfl rfl ?_
            refine RunR.move rfl rfl rfl ?_
            refine RunR.indexAG se25 rfl rfl rfl rfl rfl (ifPos hx30 (fun hb => (gAnd (gF (gN hb)) (gT hb)))) (ifAt hx30 (fun hb => (gAnd (gF (gN hb)) (gT hb)))) rfl ?_
            refine RunR.load1G tk3 rfl rfl rfl (ifAt hx30 (fun hb => (gAnd (gF (gN hb)) (gT hb)))) rfl ?_
            refine RunR.move rfl rfl rfl ?_
            refine RunR.indexAG se25 rfl rfl rfl rfl rfl (ifPos hx31 (fun hb => (gAnd (gF (gN hb)) (gT hb)))) (ifAt hx31 (fun hb => (gAnd (gF (gN hb)) (gT hb)))) rfl ?_
            refine RunR.load1G tk3 rfl rfl rfl (ifAt hx31 (fun hb => (gAnd (gF (gN hb)) (gT hb)))) rfl ?_
            refine RunR.int rfl rfl rfl rfl rfl ?_
            refine RunR.pickAnd rfl rfl rfl rfl ?_
            refine RunR.pickOr rfl rfl rfl rfl ?_
            refine RunR.doneQ (.cons rfl (.cons rfl (.cons rfl (.cons rfl (.cons rfl .nil))))) ?_
            refine Wp.condM h rfl (fun hc6 h => ?_) (fun hc6 h => ?_)
            · refine Wp.seq ?_
              refine Wp.text [4] rfl rfl ?_ -- region 25
              refine TextR.assign rfl ?_
              refine TextR.done (.cons rfl .nil) ?_
              refine Wp.ret ?_
              exact ⟨_, (Option.some.inj h).symm, Ret.one rfl (resV_tmp rfl) rfl⟩
            · refine Wp.skip ?_
              refine Wp.text [1, 5, 7, 11] rfl rfl ?_ -- region 17
              refine TextR.move rfl ?_
              refine TextR.int rfl rfl rfl ?_
              refine TextR.assign rfl ?_
              refine TextR.done (.cons rfl (.cons rfl (.cons rfl (.cons rfl .nil)))) ?_
              exact ⟨m2, Nat.lt_succ_self _, _, (keepW (live := [1, 5, 7, 11]) (.cons rfl (.cons rfl (.cons rfl (.cons rfl .nil))))), _, h, rfl⟩
          · refine Wp.exit ?_
            exact ⟨_, (Option.some.inj h).symm, _, (keepW (live := [5, 7]) (.cons rfl (.cons rfl .nil))), rfl⟩
        · rintro _ ⟨z24, rfl, _, hw, rfl⟩
          dsimp only at h
          clear hz22
          refine Wp.weak hw ?_
          refine Wp.seq ?_
          obtain ⟨y32, hy32, h⟩ := bind_some h
          refine Wp.go false none [[], [], [], [], [(154, true)], [(154, true)], [(154, true)], [(154, true)], [(154, true)], [(154, true)], [], [], [(162, true)], [(162, true)], [(162, true)], [], []] [] [4] mixed rfl rfl (by kernel_rfl) ?_ -- region 26
          refine RunR.move rfl rfl rfl ?_
          refine RunR.lenM us25 rfl rfl rfl rfl ?_
          refine RunR.int rfl rfl rfl rfl rfl ?_
          refine RunR.move rfl rfl rfl ?_
          refine RunR.move rfl rfl rfl ?_
          refine RunR.callG rfl rfl rfl (fun hb H => c_set_Of N y9.1 y32 (ifT hy32 gT hb) H) ?_
          refine RunR.lenM us25 rfl rfl rfl rfl ?_
          refine RunR.move rfl rfl rfl ?_
          refine RunR.lenM us25 rfl rfl rfl rfl ?_
          refine RunR.int rfl rfl rfl rfl rfl ?_
          refine RunR.pickAnd rfl rfl rfl rfl ?_
          refine RunR.move rfl rfl rfl ?_
          refine RunR.load1 tk25 rfl rfl rfl rfl ?_
          refine RunR.lenM us25 rfl rfl rfl rfl ?_
          refine RunR.int rfl rfl rfl rfl rfl ?_
          refine RunR.pickAnd rfl rfl rfl rfl ?_
          refine RunR.assign rfl rfl rfl ?_
          refine RunR.doneQ (.cons rfl .nil) ?_
          refine Wp.ret ?_
          obtain rfl := Option.some.inj h
          exact Ret.one rfl (resV_tmp rfl) rfl
        · rintro S' ⟨r23, rfl, hR⟩
          dsimp only at h
          obtain rfl := Option.some.inj h
          exact hR
theorem c_narthexlaw04_DagEither (N : Nat) (a0 : Int) (a1 : List TArc) (r : Bool) (h : narthexlaw04_DagEither N a0 a1 = some r) (H : List Ob) : DCall Try.prog 9 [.c (I a0), .c (.slv (a1.map eArc))] H (.c (B r)) := DCall.lift (by first | rfl | simp [-List.map_set]) (by first | rfl | simp [-List.map_set]) (fun _ => by simp [-List.map_set]) (w_narthexlaw04_DagEither N a0 a1 r h) H
end Go.Proofs.Ytnoffbgiaenmpaa
