/- The functions do what their models say. -/
import Derived.Test.YthlocamkdmaflaaWkb
namespace Go.Proofs.Ythlocamkdmaflaa
open Go Go.Nx
set_option linter.unusedVariables false
set_option linter.unusedSimpArgs false
set_option linter.unnecessarySimpa false
set_option maxRecDepth 8000
attribute [local simp] putSeg List.map_take List.map_drop rvL rvK bwL hfVs hfV hfL hfAll hfRows mvV mvL mv0 sh0 mvO mpE mpV mpVs mpO fzL rnL rn0 ok0 nzI nzB nzN nzF nzP nzO nzQ nzC shL shV shO okV okL okO List.take_of_length_le h_I hm_I ok_eI okR_eI fx_eI fxR_eI h_Sess hm_Sess ok_eSess okR_eSess fx_eSess fxR_eSess h_Book hm_Book ok_eBook okR_eBook fx_eBook fxR_eBook h_narthexlaw17_Act hm_narthexlaw17_Act ok_enarthexlaw17_Act okR_enarthexlaw17_Act fx_enarthexlaw17_Act fxR_enarthexlaw17_Act
-- narthex/narthexlaw17.SessHeld
theorem w_narthexlaw17_SessHeld (N : Nat) (a0 : TBook) (a1 : Int) (a2 : Int) (r : Bool) (h : narthexlaw17_SessHeld N a0 a1 a2 = some r) : Nx.Call Try.prog 6 [.agg (eBook a0), .c (I a1), .c (.v (.int .u8 a2))] [] fun r' _ => r' = .c (B r) := by
  refine Nx.Call.of_body Try.func6 rfl en6 Try.ntmps6 rfl (fun Γ hok => ?_)
  unfold narthexlaw17_SessHeld at h
  refine Wp.seq ?_
  refine Wp.text [1, 2, 3] rfl rfl ?_ -- region 0
  refine TextR.box (cs := [I a0.Last, .slv (a0.Sess.map eSess)]) 0 rfl rfl rfl rfl .nil ?_
  refine TextR.assign rfl ?_
  refine TextR.done (.cons rfl (.cons rfl (.cons rfl .nil))) ?_
  refine Wp.seq ?_
  refine Wp.seq ?_
  obtain ⟨y1, hy1, h⟩ := bind_some h
  obtain ⟨y2, hy2, h⟩ := bind_some h
  obtain ⟨y3, hy3, h⟩ := bind_some h
  obtain ⟨y4, hy4, h⟩ := bind_some h
  refine Wp.go false none [[], [], [], [(19, false)], [(19, false)], [(19, false)], [], [], [(24, false)], [(24, false)], [(24, false)], [(24, false)], []] [] [1, 2, 3, 29] mixed rfl rfl (by kernel_rfl) ?_ -- region 1
  refine RunR.call rfl rfl rfl (fun H => c_narthexlaw17_awake N y1 hy1 H) ?_
  refine RunR.not rfl rfl rfl ?_
  refine RunR.move rfl rfl rfl ?_
  refine RunR.loadN (cs := [I a0.Last, .slv (a0.Sess.map eSess)]) tk24 rfl rfl rfl rfl ?_
  refine RunR.callG rfl rfl rfl (fun hb H => c_narthexref17_Few N a0 y2 (ifT hy2 gF hb) H) ?_
  refine RunR.not rfl rfl rfl ?_
  refine RunR.pickOr rfl rfl rfl rfl ?_
  refine RunR.move rfl rfl rfl ?_
  refine RunR.loadN (cs := [I a0.Last, .slv (a0.Sess.map eSess)]) tk24 rfl rfl rfl rfl ?_
  refine RunR.callG rfl rfl rfl (fun hb H => c_narthexlaw17_Own N a0 y3 (ifT hy3 gF hb) H) ?_
  refine RunR.callG rfl rfl rfl (fun hb H => c_sess_Check N y3 y4 (ifT hy4 gF hb) H) ?_
  refine RunR.int rfl rfl rfl rfl rfl ?_
  refine RunR.pickOr rfl rfl rfl rfl ?_
  refine RunR.doneQ (.cons rfl (.cons rfl (.cons rfl (.cons rfl .nil)))) ?_
  refine Wp.condM h rfl (fun hc1 h => ?_) (fun hc1 h => ?_)
  · refine Wp.seq ?_
    obtain ⟨y5, hy5, h⟩ := bind_some h
    refine Wp.text [6] rfl rfl ?_ -- region 2
    refine TextR.dcall rfl rfl (c_narthexlaw17_awake N y5 hy5 _) ?_
    refine TextR.assign rfl ?_
    refine TextR.done (.cons rfl .nil) ?_
    refine Wp.ret ?_
    obtain rfl := Option.some.inj h
    exact Ret.one rfl (resV_tmp rfl) rfl
  · refine Wp.skip ?_
    refine Wp.seq ?_
    obtain ⟨y6, hy6, h⟩ := bind_some h
    obtain ⟨y7, hy7, h⟩ := bind_some h
    refine Wp.text [1, 2, 3, 7, 8, 9] rfl rfl ?_ -- region 3
    refine TextR.loadN (cs := [I a0.Last, .slv (a0.Sess.map eSess)]) tk24 rfl rfl ?_
    refine TextR.dcall rfl rfl (c_narthexlaw17_Own N a0 y6 hy6 _) ?_
    refine TextR.dcall rfl rfl (c_sess_Grant N y6 y7 hy7 _) ?_
    refine TextR.move rfl ?_
    refine TextR.extract rfl rfl ?_
    refine TextR.extract rfl rfl ?_
    refine TextR.extract rfl rfl ?_
    refine TextR.alloc 1 zc24 rfl rfl (.cons .nil) ?_
    refine TextR.store1 tk24 rfl rfl rfl rfl rfl rfl (.succ .zero) ?_
    refine TextR.assign rfl ?_
    refine TextR.assign rfl ?_
    refine TextR.done (.cons rfl (.cons rfl (.cons rfl (.cons rfl (.cons rfl (.cons rfl .nil)))))) ?_
    refine Wp.seq ?_
    refine Wp.seq ?_
    refine Wp.text [1, 2, 3, 7, 8, 9, 39] rfl rfl ?_ -- region 4
    refine TextR.move rfl ?_
    refine TextR.int rfl rfl rfl ?_
    refine TextR.done (.cons rfl (.cons rfl (.cons rfl (.cons rfl (.cons rfl (.cons rfl (.cons rfl .nil))))))) ?_
    refine Wp.condM h rfl (fun hc2 h => ?_) (fun hc2 h => ?_)
    · refine Wp.seq ?_
      refine Wp.go false none [[], [], [], [(42, true)], [(42, true)], [], []] [] [6] mixed rfl rfl (by kernel_rfl) ?_ -- region 5
      refine RunR.move rfl rfl rfl ?_
      refine RunR.int rfl rfl rfl rfl rfl ?_
      refine RunR.move rfl rfl rfl ?_
      refine RunR.move rfl rfl rfl ?_
      refine RunR.int rfl rfl rfl rfl rfl ?_
      refine RunR.pickAnd rfl rfl rfl rfl ?_
      refine RunR.assign rfl rfl rfl ?_
      refine RunR.doneQ (.cons rfl .nil) ?_
      refine Wp.ret ?_
      obtain rfl := Option.some.inj h
      exact Ret.one rfl (resV_tmp rfl) rfl
    · refine Wp.skip ?_
      refine Wp.seq ?_
      refine Wp.text [1, 3, 7, 8, 10] rfl rfl ?_ -- region 6
      refine TextR.move rfl ?_
      refine TextR.convert ik5 ik3 rfl ?_
      refine TextR.int rfl rfl rfl ?_
      refine TextR.int rfl rfl rfl ?_
      refine TextR.minmax (.inl rfl) rfl ?_
      refine TextR.assign rfl ?_
      refine TextR.done (.cons rfl (.cons rfl (.cons rfl (.cons rfl (.cons rfl .nil))))) ?_
      refine Wp.seq ?_
      refine Wp.seq ?_
      refine Wp.text [1, 3, 7, 8, 10, 11] rfl rfl ?_ -- region 7
      refine TextR.assign rfl ?_
      refine TextR.done (.cons rfl (.cons rfl (.cons rfl (.cons rfl (.cons rfl (.cons rfl .nil)))))) ?_
      obtain ⟨z8, hz8, h⟩ := bind_some h
      refine Wp.fragR (fun S => ∃ z10, z8 = .inr z10 ∧ ∃ S', St.Weak ⟨Try.prog, 115, Γ⟩ S S' ∧ S' = ⟨[(7, .c (.ptr 0 0 0 0)), (8, .c (I y7.2.1))], [.live 0 2 [[I z10.1, .slv (z10.2.map eSess)]]]⟩) (fun S => ∃ v, z8 = .inl v ∧ Ret Try.prog Try.f6 (fun r' _ => r' = .c (B v)) .ret S) ?_ ?_ ?_
      · replace h := hz8
        refine Wp.block ?_
        refine Wp.weak (keepW (live := [1, 3, 7, 8, 10, 11]) (.cons rfl (.cons rfl (.cons rfl (.cons rfl (.cons rfl (.cons rfl .nil))))))) ?_
        refine Wp.loop (fun m S => ∃ c1_0_1, ∃ c1_1_1, ∃ s11_1, narthexlaw17_SessHeld_L1 N a0 a1 a2 y7 m c1_0_1 c1_1_1 s11_1 = some z8 ∧ S = ⟨[(1, .c (I a1)), (3, .c (.ptr 0 0 0 0)), (7, .c (.ptr 1 0 0 0)), (8, .c (I y7.2.1)), (10, .c (I (min (w64 (((w64 a2).tmod 60) + 1)) 60))), (11, .c (I s11_1))], [.live 0 2 [[I a0.Last, .slv (a0.Sess.map eSess)]], .live 0 2 [[I c1_0_1, .slv (c1_1_1.map eSess)]]]⟩) N ⟨_, _, _, h, rfl⟩ ?_
        rintro m1 _ ⟨c1_0_1, c1_1_1, s11_1, h, rfl⟩
        cases m1 with
        | zero => rw [narthexlaw17_SessHeld_L1.eq_1] at h; cases h
        | succ m1 =>
        rw [narthexlaw17_SessHeld_L1.eq_2] at h
        refine Wp.seq ?_
        refine Wp.seq ?_
        refine Wp.text [1, 3, 7, 8, 10, 11, 53] rfl rfl ?_ -- region 8
        refine TextR.move rfl ?_
        refine TextR.move rfl ?_
        refine TextR.int rfl rfl rfl ?_
        refine TextR.done (.cons rfl (.cons rfl (.cons rfl (.cons rfl (.cons rfl (.cons rfl (.cons rfl .nil))))))) ?_
        refine Wp.condM h rfl (fun hc4 h => ?_) (fun hc4 h => ?_)
        · refine Wp.skip ?_
          refine Wp.seq ?_
          refine Wp.block ?_
          refine Wp.seq ?_
          obtain ⟨y11, hy11, h⟩ := bind_some h
          obtain ⟨y12, hy12, h⟩ := bind_some h
          refine Wp.text [1, 3, 7, 8, 10, 11, 12, 13, 14] rfl rfl ?_ -- region 10
          refine TextR.loadN (cs := [I c1_0_1, .slv (c1_1_1.map eSess)]) tk24 rfl rfl ?_
          refine TextR.dcall rfl rfl (c_narthexlaw17_Own N (⟨c1_0_1, c1_1_1⟩ : TBook) y11 hy11 _) ?_
          refine TextR.move rfl ?_
          refine TextR.dcall rfl rfl (c_sess_Tick N y11 a1 y12 hy12 _) ?_
          refine TextR.move rfl ?_
          refine TextR.extract rfl rfl ?_
          refine TextR.extract rfl rfl ?_
          refine TextR.extract rfl rfl ?_
          refine TextR.alloc 2 zc24 rfl rfl (.cons (.cons .nil)) ?_
          refine TextR.store1 tk24 rfl rfl rfl rfl rfl rfl (.succ (.succ .zero)) ?_
          refine TextR.assign rfl ?_
          refine TextR.assign rfl ?_
          refine TextR.done (.cons rfl (.cons rfl (.cons rfl (.cons rfl (.cons rfl (.cons rfl (.cons rfl (.cons rfl (.cons rfl .nil))))))))) ?_
          refine Wp.seq ?_
          refine Wp.seq ?_
          refine Wp.go false none [[], [], [], [(66, false)], [(66, false)], [(66, false)], [(66, false)], [(66, false)], [(66, false)], [(66, false)], [], [], [(75, false)], [(75, false)], [(75, false)], [(78, true), (75, false)], [(78, true), (75, false)], [(78, true), (75, false)], [(75, false)], []] [] [1, 3, 7, 8, 10, 11, 12, 13, 83] mixed rfl rfl (by kernel_rfl) ?_ -- region 11
          refine RunR.move rfl rfl rfl ?_
          refine RunR.int rfl rfl rfl rfl rfl ?_
          refine RunR.move rfl rfl rfl ?_
          refine RunR.move rfl rfl rfl ?_
          refine RunR.move rfl rfl rfl ?_
          refine RunR.int rfl rfl rfl rfl rfl ?_
          refine RunR.move rfl rfl rfl ?_
          refine RunR.move rfl rfl rfl ?_
          refine RunR.int rfl rfl rfl rfl rfl ?_
          refine RunR.neBool (by kernel_rfl) rfl rfl rfl rfl ?_
          refine RunR.pickOr rfl rfl rfl rfl ?_
          refine RunR.move rfl rfl rfl ?_
          refine RunR.move rfl rfl rfl ?_
          refine RunR.int rfl rfl rfl rfl rfl ?_
          refine RunR.move rfl rfl rfl ?_
          refine RunR.move rfl rfl rfl ?_
          refine RunR.move rfl rfl rfl ?_
          refine RunR.int rfl rfl rfl rfl rfl ?_
          refine RunR.pickAnd rfl rfl rfl rfl ?_
          refine RunR.pickOr rfl rfl rfl rfl ?_
          refine RunR.doneQ (.cons rfl (.cons rfl (.cons rfl (.cons rfl (.cons rfl (.cons rfl (.cons rfl (.cons rfl (.cons rfl .nil))))))))) ?_
          refine Wp.condM h rfl (fun hc5 h => ?_) (fun hc5 h => ?_)
          · refine Wp.seq ?_
            refine Wp.text [6] rfl rfl ?_ -- region 12
            refine TextR.assign rfl ?_
            refine TextR.done (.cons rfl .nil) ?_
            refine Wp.ret ?_
            exact ⟨_, (Option.some.inj h).symm, Ret.one rfl (resV_tmp rfl) rfl⟩
          · refine Wp.skip ?_
            refine Wp.seq ?_
            refine Wp.seq ?_
            refine Wp.text [1, 3, 7, 8, 10, 11, 12, 86] rfl rfl ?_ -- region 13
            refine TextR.move rfl ?_
            refine TextR.move rfl ?_
            refine TextR.int rfl rfl rfl ?_
            refine TextR.done (.cons rfl (.cons rfl (.cons rfl (.cons rfl (.cons rfl (.cons rfl (.cons rfl (.cons rfl .nil)))))))) ?_
            refine Wp.condM h rfl (fun hc6 h => ?_) (fun hc6 h => ?_)
            · refine Wp.seq ?_
              obtain ⟨y13, hy13, h⟩ := bind_some h
              refine Wp.go false none [[], [], [], [], [], [(91, true)], [(91, true)], [(91, true)], [(91, true)], [(91, true)], [(91, true)], [(91, true)], [(91, true)], [], []] [] [6] mixed rfl rfl (by kernel_rfl) ?_ -- region 14
              refine RunR.loadN (cs := [I y12.1.Last, .slv (y12.1.Sess.map eSess)]) tk24 rfl rfl rfl rfl ?_
              refine RunR.move rfl rfl rfl ?_
              refine RunR.call rfl rfl rfl (fun H => c_narthexref17_Find N y12.1 y7.2.1 y13 hy13 H) ?_
              refine RunR.int rfl rfl rfl rfl rfl ?_
              refine RunR.move rfl rfl rfl ?_
              refine RunR.fieldAddr fo24_1 rfl rfl rfl rfl rfl ?_
              refine RunR.load1 tk22 rfl rfl rfl rfl ?_
              refine RunR.lenM us22 rfl rfl rfl rfl ?_
              refine RunR.fieldAddr fo24_1 rfl rfl rfl rfl rfl ?_
              refine RunR.load1 tk22 rfl rfl rfl rfl ?_
              refine RunR.lenM us22 rfl rfl rfl rfl ?_
              refine RunR.int rfl rfl rfl rfl rfl ?_
              refine RunR.int rfl rfl rfl rfl rfl ?_
              refine RunR.pickAnd rfl rfl rfl rfl ?_
              refine RunR.assign rfl rfl rfl ?_
              refine RunR.doneQ (.cons rfl .nil) ?_
              refine Wp.ret ?_
              exact ⟨_, (Option.some.inj h).symm, Ret.one rfl (resV_tmp rfl) rfl⟩
            · refine Wp.skip ?_
              refine Wp.text [1, 3, 7, 8, 10, 11] rfl rfl ?_ -- region 15
              refine TextR.loadN (cs := [I y12.1.Last, .slv (y12.1.Sess.map eSess)]) tk24 rfl rfl ?_
              refine TextR.store1 tk24 rfl rfl rfl rfl rfl rfl (.succ .zero) ?_
              refine TextR.done (.cons rfl (.cons rfl (.cons rfl (.cons rfl (.cons rfl (.cons rfl .nil)))))) ?_
              refine Wp.text [1, 3, 7, 8, 10, 11] rfl rfl ?_ -- region 9
              refine TextR.move rfl ?_
              refine TextR.int rfl rfl rfl ?_
              refine TextR.assign rfl ?_
              refine TextR.done (.cons rfl (.cons rfl (.cons rfl (.cons rfl (.cons rfl (.cons rfl .nil)))))) ?_
              exact ⟨m1, Nat.lt_succ_self _, _, (St.Weak.trans (keepW (live := [1, 3, 7, 8, 10, 11]) (.cons rfl (.cons rfl (.cons rfl (.cons rfl (.cons rfl (.cons rfl .nil))))))) (pickT (e' := [(1, .c (I a1)), (3, .c (.ptr 0 0 0 0)), (7, .c (.ptr 1 0 0 0)), (8, .c (I y7.2.1)), (10, .c (I (min (w64 (((w64 a2).tmod 60) + 1)) 60))), (11, .c (I (w64 (s11_1 + 1))))]) (H' := [.live 0 2 [[I a0.Last, .slv (a0.Sess.map eSess)]], .live 0 2 [[I y12.1.Last, .slv (y12.1.Sess.map eSess)]]]) [0, 1] [0, 1, 0] 0 hok.len.symm rfl rfl (by decide) (by first | rfl | simp [-List.map_set]) (by first | rfl | simp [-List.map_set]) (by first | rfl | simp [-List.map_set]) (by first | rfl | simp [-List.map_set]))), _, _, _, h, rfl⟩
        · refine Wp.exit ?_
          exact ⟨_, (Option.some.inj h).symm, _, (St.Weak.trans (keepW (live := [7, 8]) (.cons rfl (.cons rfl .nil))) (pickT (e' := [(7, .c (.ptr 0 0 0 0)), (8, .c (I y7.2.1))]) (H' := [.live 0 2 [[I c1_0_1, .slv (c1_1_1.map eSess)]]]) [1] [0, 0] 0 hok.len.symm rfl rfl (by decide) (by first | rfl | simp [-List.map_set]) (by first | rfl | simp [-List.map_set]) (by first | rfl | simp [-List.map_set]) (by first | rfl | simp [-List.map_set]))), rfl⟩
      · rintro _ ⟨z10, rfl, _, hw, rfl⟩
        dsimp only at h
        clear hz8
        refine Wp.weak hw ?_
        refine Wp.seq ?_
        obtain ⟨y14, hy14, h⟩ := bind_some h
        obtain ⟨y15, hy15, h⟩ := bind_some h
        refine Wp.text [15, 16] rfl rfl ?_ -- region 16
        refine TextR.loadN (cs := [I z10.1, .slv (z10.2.map eSess)]) tk24 rfl rfl ?_
        refine TextR.dcall rfl rfl (c_narthexlaw17_Own N (⟨z10.1, z10.2⟩ : TBook) y14 hy14 _) ?_
        refine TextR.move rfl ?_
        refine TextR.dcall rfl rfl (c_sess_Poll N y14 y7.2.1 y15 hy15 _) ?_
        refine TextR.move rfl ?_
        refine TextR.extract rfl rfl ?_
        refine TextR.extract rfl rfl ?_
        refine TextR.assign rfl ?_
        refine TextR.assign rfl ?_
        refine TextR.done (.cons rfl (.cons rfl .nil)) ?_
        refine Wp.seq ?_
        refine Wp.go false none [[], [], [], [(111, true)], [(111, true)], [], []] [] [6] mixed rfl rfl (by kernel_rfl) ?_ -- region 17
        refine RunR.move rfl rfl rfl ?_
        refine RunR.int rfl rfl rfl rfl rfl ?_
        refine RunR.move rfl rfl rfl ?_
        refine RunR.move rfl rfl rfl ?_
        refine RunR.int rfl rfl rfl rfl rfl ?_
        refine RunR.pickAnd rfl rfl rfl rfl ?_
        refine RunR.assign rfl rfl rfl ?_
        refine RunR.doneQ (.cons rfl .nil) ?_
        refine Wp.ret ?_
        obtain rfl := Option.some.inj h
        exact Ret.one rfl (resV_tmp rfl) rfl
      · rintro S' ⟨r9, rfl, hR⟩
        dsimp only at h
        obtain rfl := Option.some.inj h
        exact hR
-- narthex/narthexlaw17.SessGone
theorem w_narthexlaw17_SessGone (N : Nat) (a0 : TBook) (a1 : Int) (r : Bool) (h : narthexlaw17_SessGone N a0 a1 = some r) : Nx.Call Try.prog 7 [.agg (eBook a0), .c (I a1)] [] fun r' _ => r' = .c (B r) := by
  refine Nx.Call.of_body Try.func7 rfl en7 Try.ntmps7 rfl (fun Γ hok => ?_)
  unfold narthexlaw17_SessGone at h
  refine Wp.seq ?_
  refine Wp.text [1, 2] rfl rfl ?_ -- region 0
  refine TextR.box (cs := [I a0.Last, .slv (a0.Sess.map eSess)]) 0 rfl rfl rfl rfl .nil ?_
  refine TextR.assign rfl ?_
  refine TextR.done (.cons rfl (.cons rfl .nil)) ?_
  refine Wp.seq ?_
  refine Wp.seq ?_
  obtain ⟨y1, hy1, h⟩ := bind_some h
  obtain ⟨y2, hy2, h⟩ := bind_some h
  refine Wp.go false none [[], [], [], [(16, false)], [(16, false)], [(16, false)], []] [] [1, 2, 20] mixed rfl rfl (by kernel_rfl) ?_ -- region 1
  refine RunR.call rfl rfl rfl (fun H => c_narthexlaw17_awake N y1 hy1 H) ?_
  refine RunR.not rfl rfl rfl ?_
  refine RunR.move rfl rfl rfl ?_
  refine RunR.loadN (cs := [I a0.Last, .slv (a0.Sess.map eSess)]) tk24 rfl rfl rfl rfl ?_
  refine RunR.callG rfl rfl rfl (fun hb H => c_narthexref17_Few N a0 y2 (ifT hy2 gF hb) H) ?_
  refine RunR.not rfl rfl rfl ?_
  refine RunR.pickOr rfl rfl rfl rfl ?_
  refine RunR.doneQ (.cons rfl (.cons rfl (.cons rfl .nil))) ?_
  refine Wp.condM h rfl (fun hc1 h => ?_) (fun hc1 h => ?_)
  · refine Wp.seq ?_
    obtain ⟨y3, hy3, h⟩ := bind_some h
    refine Wp.text [4] rfl rfl ?_ -- region 2
    refine TextR.dcall rfl rfl (c_narthexlaw17_awake N y3 hy3 _) ?_
    refine TextR.assign rfl ?_
    refine TextR.done (.cons rfl .nil) ?_
    refine Wp.ret ?_
    obtain rfl := Option.some.inj h
    exact Ret.one rfl (resV_tmp rfl) rfl
  · refine Wp.skip ?_
    refine Wp.seq ?_
    obtain ⟨y4, hy4, h⟩ := bind_some h
    obtain ⟨y5, hy5, h⟩ := bind_some h
    refine Wp.text [1, 2, 5, 6, 7] rfl rfl ?_ -- region 3
    refine TextR.loadN (cs := [I a0.Last, .slv (a0.Sess.map eSess)]) tk24 rfl rfl ?_
    refine TextR.dcall rfl rfl (c_narthexlaw17_Own N a0 y4 hy4 _) ?_
    refine TextR.move rfl ?_
    refine TextR.dcall rfl rfl (c_sess_Gone N y4 a1 y5 hy5 _) ?_
    refine TextR.move rfl ?_
    refine TextR.extract rfl rfl ?_
    refine TextR.extract rfl rfl ?_
    refine TextR.extract rfl rfl ?_
    refine TextR.alloc 1 zc24 rfl rfl (.cons .nil) ?_
    refine TextR.store1 tk24 rfl rfl rfl rfl rfl rfl (.succ .zero) ?_
    refine TextR.assign rfl ?_
    refine TextR.assign rfl ?_
    refine TextR.done (.cons rfl (.cons rfl (.cons rfl (.cons rfl (.cons rfl .nil))))) ?_
    refine Wp.seq ?_
    refine Wp.seq ?_
    refine Wp.text [1, 2, 5, 6, 7, 31] rfl rfl ?_ -- region 4
    refine TextR.move rfl ?_
    refine TextR.int rfl rfl rfl ?_
    refine TextR.done (.cons rfl (.cons rfl (.cons rfl (.cons rfl (.cons rfl (.cons rfl .nil)))))) ?_
    refine Wp.condM h rfl (fun hc2 h => ?_) (fun hc2 h => ?_)
    · refine Wp.seq ?_
      refine Wp.go false none [[], [], [], [(34, true)], [(34, true)], [(34, true)], [], []] [] [4] mixed rfl rfl (by kernel_rfl) ?_ -- region 5
      refine RunR.move rfl rfl rfl ?_
      refine RunR.int rfl rfl rfl rfl rfl ?_
      refine RunR.move rfl rfl rfl ?_
      refine RunR.move rfl rfl rfl ?_
      refine RunR.lenM us25 rfl rfl rfl rfl ?_
      refine RunR.int rfl rfl rfl rfl rfl ?_
      refine RunR.pickAnd rfl rfl rfl rfl ?_
      refine RunR.assign rfl rfl rfl ?_
      refine RunR.doneQ (.cons rfl .nil) ?_
      refine Wp.ret ?_
      obtain rfl := Option.some.inj h
      exact Ret.one rfl (resV_tmp rfl) rfl
    · refine Wp.skip ?_
      refine Wp.seq ?_
      refine Wp.seq ?_
      refine Wp.text [1, 2, 5, 6, 8] rfl rfl ?_ -- region 6
      refine TextR.assign rfl ?_
      refine TextR.done (.cons rfl (.cons rfl (.cons rfl (.cons rfl (.cons rfl .nil))))) ?_
      obtain ⟨z6, hz6, h⟩ := bind_some h
      refine Wp.fragR (fun S => ∃ z8, z6 = .inr z8 ∧ ∃ S', St.Weak ⟨Try.prog, 107, Γ⟩ S S' ∧ S' = ⟨[(1, .c (I a1)), (2, .c (.ptr 0 0 0 0)), (5, .c (.ptr 1 0 0 0)), (6, .c (.slv (y5.2.1.map eI)))], [.live 0 2 [[I a0.Last, .slv (a0.Sess.map eSess)]], .live 0 2 [[I y5.1.Last, .slv (y5.1.Sess.map eSess)]]]⟩) (fun S => ∃ v, z6 = .inl v ∧ Ret Try.prog Try.f7 (fun r' _ => r' = .c (B v)) .ret S) ?_ ?_ ?_
      · replace h := hz6
        refine Wp.block ?_
        refine Wp.weak (keepW (live := [1, 2, 5, 6, 8]) (.cons rfl (.cons rfl (.cons rfl (.cons rfl (.cons rfl .nil)))))) ?_
        refine Wp.loop (fun m S => ∃ s8_1, narthexlaw17_SessGone_L1 N a0 a1 y5 m s8_1 = some z6 ∧ S = ⟨[(1, .c (I a1)), (2, .c (.ptr 0 0 0 0)), (5, .c (.ptr 1 0 0 0)), (6, .c (.slv (y5.2.1.map eI))), (8, .c (I s8_1))], [.live 0 2 [[I a0.Last, .slv (a0.Sess.map eSess)]], .live 0 2 [[I y5.1.Last, .slv (y5.1.Sess.map eSess)]]]⟩) N ⟨_, h, rfl⟩ ?_
        rintro m1 _ ⟨s8_1, h, rfl⟩
        cases m1 with
        | zero => rw [narthexlaw17_SessGone_L1.eq_1] at h; cases h
        | succ m1 =>
        rw [narthexlaw17_SessGone_L1.eq_2] at h
        refine Wp.seq ?_
        refine Wp.seq ?_
        refine Wp.text [1, 2, 5, 6, 8, 43] rfl rfl ?_ -- region 7
        refine TextR.move rfl ?_
        refine TextR.fieldAddr fo24_1 rfl rfl rfl ?_
        refine TextR.load1 tk22 rfl rfl ?_
        refine TextR.lenM us22 rfl rfl ?_
        refine TextR.int rfl rfl rfl ?_
        refine TextR.done (.cons rfl (.cons rfl (.cons rfl (.cons rfl (.cons rfl (.cons rfl .nil)))))) ?_
        refine Wp.condM h rfl (fun hc4 h => ?_) (fun hc4 h => ?_)
        · refine Wp.skip ?_
          refine Wp.seq ?_
          refine Wp.block ?_
          refine Wp.seq ?_
          obtain ⟨x9, hx9, h⟩ := bind_some h
          refine Wp.text [1, 2, 5, 6, 8, 9] rfl rfl ?_ -- region 9
          refine TextR.fieldAddr fo24_1 rfl rfl rfl ?_
          refine TextR.load1 tk22 rfl rfl ?_
          refine TextR.move rfl ?_
          refine TextR.indexA se22 rfl rfl rfl hx9 rfl ?_
          refine TextR.loadNM tk41 rfl (at_get hx9) rfl ?_
          refine TextR.alloc 2 zc41 rfl rfl (.cons (.cons .nil)) ?_
          refine TextR.store1 tk41 rfl rfl rfl rfl rfl rfl (.succ (.succ .zero)) ?_
          refine TextR.done (.cons rfl (.cons rfl (.cons rfl (.cons rfl (.cons rfl (.cons rfl .nil)))))) ?_
          refine Wp.seq ?_
          obtain ⟨y10, hy10, h⟩ := bind_some h
          refine Wp.go false none [[], [], [], [], [(54, true)], [(54, true)], [(54, true)], [(54, true)], [], []] [] [1, 2, 5, 6, 8, 9, 10] mixed rfl rfl (by kernel_rfl) ?_ -- region 10
          refine RunR.fieldAddr fo41_2 rfl rfl rfl rfl rfl ?_
          refine RunR.load1 tk36 rfl rfl rfl rfl ?_
          refine RunR.int rfl rfl rfl rfl rfl ?_
          refine RunR.move rfl rfl rfl ?_
          refine RunR.fieldAddr fo41_1 rfl rfl rfl rfl rfl ?_
          refine RunR.load1 tk25 rfl rfl rfl rfl ?_
          refine RunR.move rfl rfl rfl ?_
          refine RunR.callG rfl rfl rfl (fun hb H => c_narthexref01_Has N x9.Need a1 y10 (ifT hy10 gT hb) H) ?_
          refine RunR.pickAnd rfl rfl rfl rfl ?_
          refine RunR.assign rfl rfl rfl ?_
          refine RunR.doneQ (.cons rfl (.cons rfl (.cons rfl (.cons rfl (.cons rfl (.cons rfl (.cons rfl .nil))))))) ?_
          refine Wp.seq ?_
          obtain ⟨y11, hy11, h⟩ := bind_some h
          obtain ⟨y12, hy12, h⟩ := bind_some h
          refine Wp.go false none [[], [], [], [], [], [], [], [(66, false)], [(66, false)], [(66, false)], [(66, false)], [(66, false)], [(66, false)], [(66, false)], []] [] [1, 2, 5, 6, 8, 74] mixed rfl rfl (by kernel_rfl) ?_ -- region 11
          refine RunR.move rfl rfl rfl ?_
          refine RunR.move rfl rfl rfl ?_
          refine RunR.fieldAddr fo41_0 rfl rfl rfl rfl rfl ?_
          refine RunR.load1 tk3 rfl rfl rfl rfl ?_
          refine RunR.call rfl rfl rfl (fun H => c_narthexref01_Has N y5.2.1 x9.ID y11 hy11 H) ?_
          refine RunR.neBool (by kernel_rfl) rfl rfl rfl rfl ?_
          refine RunR.move rfl rfl rfl ?_
          refine RunR.move rfl rfl rfl ?_
          refine RunR.loadN (cs := [I y5.1.Last, .slv (y5.1.Sess.map eSess)]) tk24 rfl rfl rfl rfl ?_
          refine RunR.fieldAddr fo41_0 rfl rfl rfl rfl rfl ?_
          refine RunR.load1 tk3 rfl rfl rfl rfl ?_
          refine RunR.callG rfl rfl rfl (fun hb H => c_narthexref17_Find N y5.1 x9.ID y12 (ifT hy12 gF hb) H) ?_
          refine RunR.int rfl rfl rfl rfl rfl ?_
          refine RunR.eqBool (by kernel_rfl) rfl rfl rfl rfl ?_
          refine RunR.pickOr rfl rfl rfl rfl ?_
          refine RunR.doneQ (.cons rfl (.cons rfl (.cons rfl (.cons rfl (.cons rfl (.cons rfl .nil)))))) ?_
          refine Wp.condM h rfl (fun hc5 h => ?_) (fun hc5 h => ?_)
          · refine Wp.seq ?_
            refine Wp.text [4] rfl rfl ?_ -- region 12
            refine TextR.assign rfl ?_
            refine TextR.done (.cons rfl .nil) ?_
            refine Wp.ret ?_
            exact ⟨_, (Option.some.inj h).symm, Ret.one rfl (resV_tmp rfl) rfl⟩
          · refine Wp.skip ?_
            refine Wp.text [1, 2, 5, 6, 8] rfl rfl ?_ -- region 8
            refine TextR.move rfl ?_
            refine TextR.int rfl rfl rfl ?_
            refine TextR.assign rfl ?_
            refine TextR.done (.cons rfl (.cons rfl (.cons rfl (.cons rfl (.cons rfl .nil))))) ?_
            exact ⟨m1, Nat.lt_succ_self _, _, (St.Weak.trans (keepW (live := [1, 2, 5, 6, 8]) (.cons rfl (.cons rfl (.cons rfl (.cons rfl (.cons rfl .nil)))))) (pickT (e' := [(1, .c (I a1)), (2, .c (.ptr 0 0 0 0)), (5, .c (.ptr 1 0 0 0)), (6, .c (.slv (y5.2.1.map eI))), (8, .c (I (w64 (s8_1 + 1))))]) (H' := [.live 0 2 [[I a0.Last, .slv (a0.Sess.map eSess)]], .live 0 2 [[I y5.1.Last, .slv (y5.1.Sess.map eSess)]]]) [0, 1] [0, 1, 0] 0 hok.len.symm rfl rfl (by decide) (by first | rfl | simp [-List.map_set]) (by first | rfl | simp [-List.map_set]) (by first | rfl | simp [-List.map_set]) (by first | rfl | simp [-List.map_set]))), _, h, rfl⟩
        · refine Wp.exit ?_
          exact ⟨_, (Option.some.inj h).symm, _, (keepW (live := [1, 2, 5, 6]) (.cons rfl (.cons rfl (.cons rfl (.cons rfl .nil))))), rfl⟩
      · rintro _ ⟨z8, rfl, _, hw, rfl⟩
        dsimp only at h
        clear hz6
        refine Wp.weak hw ?_
        refine Wp.seq ?_
        obtain ⟨y13, hy13, h⟩ := bind_some h
        obtain ⟨y14, hy14, h⟩ := bind_some h
        refine Wp.text [2, 5, 6, 11, 12, 13] rfl rfl ?_ -- region 13
        refine TextR.loadN (cs := [I y5.1.Last, .slv (y5.1.Sess.map eSess)]) tk24 rfl rfl ?_
        refine TextR.dcall rfl rfl (c_narthexlaw17_Own N y5.1 y13 hy13 _) ?_
        refine TextR.move rfl ?_
        refine TextR.dcall rfl rfl (c_sess_Gone N y13 a1 y14 hy14 _) ?_
        refine TextR.move rfl ?_
        refine TextR.extract rfl rfl ?_
        refine TextR.extract rfl rfl ?_
        refine TextR.extract rfl rfl ?_
        refine TextR.alloc 2 zc24 rfl rfl (.cons (.cons .nil)) ?_
        refine TextR.store1 tk24 rfl rfl rfl rfl rfl rfl (.succ (.succ .zero)) ?_
        refine TextR.assign rfl ?_
        refine TextR.assign rfl ?_
        refine TextR.done (.cons rfl (.cons rfl (.cons rfl (.cons rfl (.cons rfl (.cons rfl .nil)))))) ?_
        refine Wp.seq ?_
        obtain ⟨y15, hy15, h⟩ := bind_some h
        refine Wp.go false none [[], [], [], [], [], [], [], [], [], [], [], [(93, true)], [(93, true)], [], [], [(97, true)], [(97, true)], [(97, true)], [], [], [(102, true)], [(102, true)], [(102, true)], [], []] [] [4] mixed rfl rfl (by kernel_rfl) ?_ -- region 14
        refine RunR.fieldAddr fo24_1 rfl rfl rfl rfl rfl ?_
        refine RunR.load1 tk22 rfl rfl rfl rfl ?_
        refine RunR.lenM us22 rfl rfl rfl rfl ?_
        refine RunR.move rfl rfl rfl ?_
        refine RunR.lenM us25 rfl rfl rfl rfl ?_
        refine RunR.int rfl rfl rfl rfl rfl ?_
        refine RunR.fieldAddr fo24_1 rfl rfl rfl rfl rfl ?_
        refine RunR.load1 tk22 rfl rfl rfl rfl ?_
        refine RunR.lenM us22 rfl rfl rfl rfl ?_
        refine RunR.int rfl rfl rfl rfl rfl ?_
        refine RunR.move rfl rfl rfl ?_
        refine RunR.move rfl rfl rfl ?_
        refine RunR.int rfl rfl rfl rfl rfl ?_
        refine RunR.pickAnd rfl rfl rfl rfl ?_
        refine RunR.move rfl rfl rfl ?_
        refine RunR.move rfl rfl rfl ?_
        refine RunR.lenM us25 rfl rfl rfl rfl ?_
        refine RunR.int rfl rfl rfl rfl rfl ?_
        refine RunR.pickAnd rfl rfl rfl rfl ?_
        refine RunR.move rfl rfl rfl ?_
        refine RunR.loadN (cs := [I y5.1.Last, .slv (y5.1.Sess.map eSess)]) tk24 rfl rfl rfl rfl ?_
        refine RunR.loadN (cs := [I y14.1.Last, .slv (y14.1.Sess.map eSess)]) tk24 rfl rfl rfl rfl ?_
        refine RunR.callG rfl rfl rfl (fun hb H => c_narthexref17_Same N y5.1 y14.1 y15 (ifT hy15 gT hb) H) ?_
        refine RunR.pickAnd rfl rfl rfl rfl ?_
        refine RunR.assign rfl rfl rfl ?_
        refine RunR.doneQ (.cons rfl .nil) ?_
        refine Wp.ret ?_
        obtain rfl := Option.some.inj h
        exact Ret.one rfl (resV_tmp rfl) rfl
      · rintro S' ⟨r7, rfl, hR⟩
        dsimp only at h
        obtain rfl := Option.some.inj h
        exact hR
-- narthex/narthexlaw17.SessOpens
theorem w_narthexlaw17_SessOpens (N : Nat) (a0 : TBook) (a1 : Int) (a2 : List Int) (r : Bool) (h : narthexlaw17_SessOpens N a0 a1 a2 = some r) : Nx.Call Try.prog 8 [.agg (eBook a0), .c (I a1), .c (.slv (a2.map eI))] [] fun r' _ => r' = .c (B r) := by
  refine Nx.Call.of_body Try.func8 rfl en8 Try.ntmps8 rfl (fun Γ hok => ?_)
  unfold narthexlaw17_SessOpens at h
  refine Wp.seq ?_
  refine Wp.text [1, 2, 3] rfl rfl ?_ -- region 0
  refine TextR.box (cs := [I a0.Last, .slv (a0.Sess.map eSess)]) 0 rfl rfl rfl rfl .nil ?_
  refine TextR.assign rfl ?_
  refine TextR.done (.cons rfl (.cons rfl (.cons rfl .nil))) ?_
  refine Wp.seq ?_
  refine Wp.seq ?_
  obtain ⟨y1, hy1, h⟩ := bind_some h
  obtain ⟨y2, hy2, h⟩ := bind_some h
  refine Wp.go false none [[], [], [], [(15, false)], [(15, false)], [(15, false)], [], [], [(20, false)], [(20, false)], [(20, false)], []] [] [1, 2, 3, 24] mixed rfl rfl (by kernel_rfl) ?_ -- region 1
  refine RunR.call rfl rfl rfl (fun H => c_narthexlaw17_awake N y1 hy1 H) ?_
  refine RunR.not rfl rfl rfl ?_
  refine RunR.move rfl rfl rfl ?_
  refine RunR.loadN (cs := [I a0.Last, .slv (a0.Sess.map eSess)]) tk24 rfl rfl rfl rfl ?_
  refine RunR.callG rfl rfl rfl (fun hb H => c_narthexref17_Few N a0 y2 (ifT hy2 gF hb) H) ?_
  refine RunR.not rfl rfl rfl ?_
  refine RunR.pickOr rfl rfl rfl rfl ?_
  refine RunR.move rfl rfl rfl ?_
  refine RunR.move rfl rfl rfl ?_
  refine RunR.lenM us25 rfl rfl rfl rfl ?_
  refine RunR.int rfl rfl rfl rfl rfl ?_
  refine RunR.pickOr rfl rfl rfl rfl ?_
  refine RunR.doneQ (.cons rfl (.cons rfl (.cons rfl (.cons rfl .nil)))) ?_
  refine Wp.condM h rfl (fun hc1 h => ?_) (fun hc1 h => ?_)
  · refine Wp.seq ?_
    obtain ⟨y3, hy3, h⟩ := bind_some h
    refine Wp.text [6] rfl rfl ?_ -- region 2
    refine TextR.dcall rfl rfl (c_narthexlaw17_awake N y3 hy3 _) ?_
    refine TextR.assign rfl ?_
    refine TextR.done (.cons rfl .nil) ?_
    refine Wp.ret ?_
    obtain rfl := Option.some.inj h
    exact Ret.one rfl (resV_tmp rfl) rfl
  · refine Wp.skip ?_
    refine Wp.seq ?_
    obtain ⟨y4, hy4, h⟩ := bind_some h
    obtain ⟨x5, hx5, h⟩ := bind_some h
    obtain ⟨y6, hy6, h⟩ := bind_some h
    refine Wp.text [1, 3, 7, 8] rfl rfl ?_ -- region 3
    refine TextR.loadN (cs := [I a0.Last, .slv (a0.Sess.map eSess)]) tk24 rfl rfl ?_
    refine TextR.dcall rfl rfl (c_narthexlaw17_Own N a0 y4 hy4 _) ?_
    refine TextR.move rfl ?_
    refine TextR.buildSlice  1 se25 rfl rfl rfl (.cons .nil) ?_
    refine TextR.move rfl ?_
    refine TextR.appendM eI ([] : List Int) a2 x5 (app_eq hx5) se25 rfl rfl rfl rfl (fun _ => rfl) rfl (app_len hx5) (.succ .zero) ?_
    refine TextR.weak (keepW (F := ⟨Try.prog, 99, Γ⟩) (live := [1, 2, 3, 24, 27, 28, 29, 30, 31, 32]) (.cons rfl (.cons rfl (.cons rfl (.cons rfl (.cons rfl (.cons rfl (.cons rfl (.cons rfl (.cons rfl (.cons rfl .nil))))))))))) ?_
    refine TextR.weak (freezeW (F := ⟨Try.prog, 99, Γ⟩) (h := 1) (ver := 1) (rows := x5.map eI) (e' := [(1, .c (I a1)), (2, .c (.slv (a2.map eI))), (3, .c (.ptr 0 0 0 0)), (24, .c (B (((!y1) || (!y2)) || (decide ((a2.length : Int) > 70))))), (27, .agg [I a0.Last, .slv (a0.Sess.map eSess)]), (28, .agg (eBook y4)), (29, .c (I a1)), (30, .c (.sl 1 0 0 (([] : List Int).length))), (31, .c (.slv (a2.map eI))), (32, .c (.slv (x5.map eI)))]) (H' := [.live 0 2 [[I a0.Last, .slv (a0.Sess.map eSess)]], .dead]) rfl (by first | rfl | simp [-List.map_set]) (by first | rfl | simp [-List.map_set])) ?_
    refine TextR.dcall rfl rfl (c_sess_Open N y4 a1 x5 y6 hy6 _) ?_
    refine TextR.move rfl ?_
    refine TextR.extract rfl rfl ?_
    refine TextR.extract rfl rfl ?_
    refine TextR.alloc 2 zc24 rfl rfl (.cons (.cons .nil)) ?_
    refine TextR.store1 tk24 rfl rfl rfl rfl rfl rfl (.succ (.succ .zero)) ?_
    refine TextR.assign rfl ?_
    refine TextR.done (.cons rfl (.cons rfl (.cons rfl (.cons rfl .nil)))) ?_
    refine Wp.seq ?_
    refine Wp.seq ?_
    refine Wp.text [1, 3, 7, 37] rfl rfl ?_ -- region 4
    refine TextR.move rfl ?_
    refine TextR.int rfl rfl rfl ?_
    refine TextR.done (.cons rfl (.cons rfl (.cons rfl (.cons rfl .nil)))) ?_
    refine Wp.condM h rfl (fun hc2 h => ?_) (fun hc2 h => ?_)
    · refine Wp.seq ?_
      obtain ⟨y7, hy7, h⟩ := bind_some h
      refine Wp.text [6] rfl rfl ?_ -- region 5
      refine TextR.loadN (cs := [I y6.1.Last, .slv (y6.1.Sess.map eSess)]) tk24 rfl rfl ?_
      refine TextR.build cm24 rfl ?_
      refine TextR.dcall rfl rfl (DCall.nz rfl (c_narthexref17_Same N y6.1 (⟨0, []⟩ : TBook) y7 hy7 _)) ?_
      refine TextR.assign rfl ?_
      refine TextR.done (.cons rfl .nil) ?_
      refine Wp.ret ?_
      obtain rfl := Option.some.inj h
      exact Ret.one rfl (resV_tmp rfl) rfl
    · refine Wp.skip ?_
      refine Wp.seq ?_
      obtain ⟨y8, hy8, h⟩ := bind_some h
      obtain ⟨y9, hy9, h⟩ := bind_some h
      refine Wp.text [1, 3, 7, 9, 10] rfl rfl ?_ -- region 6
      refine TextR.loadN (cs := [I y6.1.Last, .slv (y6.1.Sess.map eSess)]) tk24 rfl rfl ?_
      refine TextR.dcall rfl rfl (c_narthexlaw17_Own N y6.1 y8 hy8 _) ?_
      refine TextR.move rfl ?_
      refine TextR.dcall rfl rfl (c_sess_Poll N y8 a1 y9 hy9 _) ?_
      refine TextR.move rfl ?_
      refine TextR.extract rfl rfl ?_
      refine TextR.extract rfl rfl ?_
      refine TextR.assign rfl ?_
      refine TextR.assign rfl ?_
      refine TextR.done (.cons rfl (.cons rfl (.cons rfl (.cons rfl (.cons rfl .nil))))) ?_
      refine Wp.seq ?_
      obtain ⟨y10, hy10, h⟩ := bind_some h
      obtain ⟨y11, hy11, h⟩ := bind_some h
      refine Wp.text [1, 3, 7, 9, 10, 12] rfl rfl ?_ -- region 7
      refine TextR.loadN (cs := [I y6.1.Last, .slv (y6.1.Sess.map eSess)]) tk24 rfl rfl ?_
      refine TextR.dcall rfl rfl (c_narthexlaw17_Own N y6.1 y10 hy10 _) ?_
      refine TextR.move rfl ?_
      refine TextR.dcall rfl rfl (DCall.nz rfl (c_sess_Open N y10 a1 [] y11 hy11 _)) ?_
      refine TextR.move rfl ?_
      refine TextR.extract rfl rfl ?_
      refine TextR.extract rfl rfl ?_
      refine TextR.alloc 3 zc24 rfl rfl (.cons (.cons (.cons .nil))) ?_
      refine TextR.store1 tk24 rfl rfl rfl rfl rfl rfl (.succ (.succ (.succ .zero))) ?_
      refine TextR.assign rfl ?_
      refine TextR.done (.cons rfl (.cons rfl (.cons rfl (.cons rfl (.cons rfl (.cons rfl .nil)))))) ?_
      refine Wp.seq ?_
      obtain ⟨x12, hx12, h⟩ := bind_some h
      obtain ⟨y13, hy13, h⟩ := bind_some h
      obtain ⟨y14, hy14, h⟩ := bind_some h
      refine Wp.go false none [[], [], [], [(57, true)], [(57, true)], [], [], [(61, true)], [(61, true)], [], [], [(65, true)], [(65, true)], [(65, true)], [(65, true)], [(65, true)], [(65, true)], [(65, true)], [(65, true)], [], [], [(75, true)], [(75, true)], [(75, true)], [(75, true)], [(75, true)], [(75, true)], [(75, true)], [(75, true)], [(75, true)], [(75, true)], [], [], [(87, true)], [(87, true)], [(87, true)], [(87, true)], [], [], [(93, true)], [(93, true)], [(93, true)], [(93, true)], [], []] [] [6] mixed rfl rfl (by kernel_rfl) ?_ -- region 8
      refine RunR.move rfl rfl rfl ?_
      refine RunR.int rfl rfl rfl rfl rfl ?_
      refine RunR.move rfl rfl rfl ?_
      refine RunR.move rfl rfl rfl ?_
      refine RunR.int rfl rfl rfl rfl rfl ?_
      refine RunR.pickAnd rfl rfl rfl rfl ?_
      refine RunR.move rfl rfl rfl ?_
      refine RunR.move rfl rfl rfl ?_
      refine RunR.int rfl rfl rfl rfl rfl ?_
      refine RunR.pickAnd rfl rfl rfl rfl ?_
      refine RunR.move rfl rfl rfl ?_
      refine RunR.fieldAddr fo24_1 rfl rfl rfl rfl rfl ?_
      refine RunR.load1 tk22 rfl rfl rfl rfl ?_
      refine RunR.lenM us22 rfl rfl rfl rfl ?_
      refine RunR.fieldAddr fo24_1 rfl rfl rfl rfl rfl ?_
      refine RunR.load1 tk22 rfl rfl rfl rfl ?_
      refine RunR.lenM us22 rfl rfl rfl rfl ?_
      refine RunR.int rfl rfl rfl rfl rfl ?_
      refine RunR.int rfl rfl rfl rfl rfl ?_
      refine RunR.pickAnd rfl rfl rfl rfl ?_
      refine RunR.move rfl rfl rfl ?_
      refine RunR.fieldAddr fo24_1 rfl rfl rfl rfl rfl ?_
      refine RunR.load1 tk22 rfl rfl rfl rfl ?_
      refine RunR.fieldAddr fo24_1 rfl rfl rfl rfl rfl ?_
      refine RunR.load1 tk22 rfl rfl rfl rfl ?_
      refine RunR.lenM us22 rfl rfl rfl rfl ?_
      refine RunR.indexAG se22 rfl rfl rfl rfl rfl (ifPos hx12 gT) (ifAt hx12 gT) rfl ?_
      refine RunR.fieldAddr fo41_0 rfl rfl rfl rfl rfl ?_
      refine RunR.load1G tk3 rfl rfl rfl (ifAt hx12 gT) rfl ?_
      refine RunR.move rfl rfl rfl ?_
      refine RunR.int rfl rfl rfl rfl rfl ?_
      refine RunR.pickAnd rfl rfl rfl rfl ?_
      refine RunR.move rfl rfl rfl ?_
      refine RunR.fieldAddr fo24_0 rfl rfl rfl rfl rfl ?_
      refine RunR.load1 tk3 rfl rfl rfl rfl ?_
      refine RunR.move rfl rfl rfl ?_
      refine RunR.int rfl rfl rfl rfl rfl ?_
      refine RunR.pickAnd rfl rfl rfl rfl ?_
      refine RunR.move rfl rfl rfl ?_
      refine RunR.loadN (cs := [I y6.1.Last, .slv (y6.1.Sess.map eSess)]) tk24 rfl rfl rfl rfl ?_
      refine RunR.callG rfl rfl rfl (fun hb H => c_narthexlaw17_Own N y6.1 y13 (ifT hy13 gT hb) H) ?_
      refine RunR.callG rfl rfl rfl (fun hb H => c_sess_Check N y13 y14 (ifT hy14 gT hb) H) ?_
      refine RunR.int rfl rfl rfl rfl rfl ?_
      refine RunR.pickAnd rfl rfl rfl rfl ?_
      refine RunR.assign rfl rfl rfl ?_
      refine RunR.doneQ (.cons rfl .nil) ?_
      refine Wp.ret ?_
      obtain rfl := Option.some.inj h
      exact Ret.one rfl (resV_tmp rfl) rfl
end Go.Proofs.Ythlocamkdmaflaa
