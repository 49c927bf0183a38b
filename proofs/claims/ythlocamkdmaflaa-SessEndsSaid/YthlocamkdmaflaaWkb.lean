/- The functions do what their models say. -/
import Derived.Test.YthlocamkdmaflaaWka
namespace Go.Proofs.Ythlocamkdmaflaa
open Go Go.Nx
set_option linter.unusedVariables false
set_option linter.unusedSimpArgs false
set_option linter.unnecessarySimpa false
set_option maxRecDepth 8000
attribute [local simp] putSeg List.map_take List.map_drop rvL rvK bwL hfVs hfV hfL hfAll hfRows mvV mvL mv0 sh0 mvO mpE mpV mpVs mpO fzL rnL rn0 ok0 nzI nzB nzN nzF nzP nzO nzQ nzC shL shV shO okV okL okO List.take_of_length_le h_I hm_I ok_eI okR_eI fx_eI fxR_eI h_Sess hm_Sess ok_eSess okR_eSess fx_eSess fxR_eSess h_Book hm_Book ok_eBook okR_eBook fx_eBook fxR_eBook h_narthexlaw17_Act hm_narthexlaw17_Act ok_enarthexlaw17_Act okR_enarthexlaw17_Act fx_enarthexlaw17_Act fxR_enarthexlaw17_Act
-- narthex/narthexlaw17.few
theorem w_narthexlaw17_few (N : Nat) (a0 : List Tnarthexlaw17_Act) (r : Bool) (h : narthexlaw17_few N a0 = some r) : Nx.Call Try.prog 11 [.c (.slv (a0.map enarthexlaw17_Act))] [] fun r' _ => r' = .c (B r) := by
  refine Nx.Call.of_body Try.func11 rfl en11 Try.ntmps11 rfl (fun Γ hok => ?_)
  unfold narthexlaw17_few at h
  refine Wp.seq ?_
  refine Wp.text [0] rfl rfl ?_ -- region 0
  refine TextR.assign rfl ?_
  refine TextR.done (.cons rfl .nil) ?_
  refine Wp.seq ?_
  refine Wp.seq ?_
  refine Wp.text [0, 3] rfl rfl ?_ -- region 1
  refine TextR.assign rfl ?_
  refine TextR.done (.cons rfl (.cons rfl .nil)) ?_
  obtain ⟨z1, hz1, h⟩ := bind_some h
  refine Wp.fragR (fun S => ∃ z3, z1 = .inr z3 ∧ ∃ S', St.Weak ⟨Try.prog, 24, Γ⟩ S S' ∧ S' = ⟨[(0, .c (.slv (a0.map enarthexlaw17_Act)))], []⟩) (fun S => ∃ v, z1 = .inl v ∧ Ret Try.prog Try.f11 (fun r' _ => r' = .c (B v)) .ret S) ?_ ?_ ?_
  · replace h := hz1
    refine Wp.block ?_
    refine Wp.weak (keepW (live := [0, 3]) (.cons rfl (.cons rfl .nil))) ?_
    refine Wp.loop (fun m S => ∃ s3_1, narthexlaw17_few_L1 N a0 m s3_1 = some z1 ∧ S = ⟨[(0, .c (.slv (a0.map enarthexlaw17_Act))), (3, .c (I s3_1))], []⟩) N ⟨_, h, rfl⟩ ?_
    rintro m1 _ ⟨s3_1, h, rfl⟩
    cases m1 with
    | zero => rw [narthexlaw17_few_L1.eq_1] at h; cases h
    | succ m1 =>
    rw [narthexlaw17_few_L1.eq_2] at h
    refine Wp.seq ?_
    refine Wp.seq ?_
    refine Wp.go false none [[], [], [], [], [], [(8, true)], [(8, true)], []] [] [0, 3, 11] mixed rfl rfl (by kernel_rfl) ?_ -- region 2
    refine RunR.move rfl rfl rfl ?_
    refine RunR.move rfl rfl rfl ?_
    refine RunR.lenM us31 rfl rfl rfl rfl ?_
    refine RunR.int rfl rfl rfl rfl rfl ?_
    refine RunR.move rfl rfl rfl ?_
    refine RunR.move rfl rfl rfl ?_
    refine RunR.int rfl rfl rfl rfl rfl ?_
    refine RunR.pickAnd rfl rfl rfl rfl ?_
    refine RunR.doneQ (.cons rfl (.cons rfl (.cons rfl .nil))) ?_
    refine Wp.condM h rfl (fun hc2 h => ?_) (fun hc2 h => ?_)
    · refine Wp.skip ?_
      refine Wp.seq ?_
      refine Wp.block ?_
      refine Wp.seq ?_
      obtain ⟨x4, hx4, h⟩ := bind_some h
      refine Wp.text [0, 3, 20] rfl rfl ?_ -- region 4
      refine TextR.move rfl ?_
      refine TextR.move rfl ?_
      refine TextR.indexA se31 rfl rfl rfl hx4 rfl ?_
      refine TextR.fieldAddr fo27_3 rfl rfl rfl ?_
      refine TextR.load1M tk25 rfl (at_get hx4) rfl ?_
      refine TextR.lenM us25 rfl rfl ?_
      refine TextR.int rfl rfl rfl ?_
      refine TextR.done (.cons rfl (.cons rfl (.cons rfl .nil))) ?_
      refine Wp.condM h rfl (fun hc3 h => ?_) (fun hc3 h => ?_)
      · refine Wp.seq ?_
        refine Wp.text [2] rfl rfl ?_ -- region 5
        refine TextR.assign rfl ?_
        refine TextR.done (.cons rfl .nil) ?_
        refine Wp.ret ?_
        exact ⟨_, (Option.some.inj h).symm, Ret.one rfl (resV_tmp rfl) rfl⟩
      · refine Wp.skip ?_
        refine Wp.text [0, 3] rfl rfl ?_ -- region 3
        refine TextR.move rfl ?_
        refine TextR.int rfl rfl rfl ?_
        refine TextR.assign rfl ?_
        refine TextR.done (.cons rfl (.cons rfl .nil)) ?_
        exact ⟨m1, Nat.lt_succ_self _, _, (keepW (live := [0, 3]) (.cons rfl (.cons rfl .nil))), _, h, rfl⟩
    · refine Wp.exit ?_
      exact ⟨_, (Option.some.inj h).symm, _, (keepW (live := [0]) (.cons rfl .nil)), rfl⟩
  · rintro _ ⟨z3, rfl, _, hw, rfl⟩
    dsimp only at h
    clear hz1
    refine Wp.weak hw ?_
    refine Wp.seq ?_
    refine Wp.text [2] rfl rfl ?_ -- region 6
    refine TextR.move rfl ?_
    refine TextR.lenM us31 rfl rfl ?_
    refine TextR.int rfl rfl rfl ?_
    refine TextR.assign rfl ?_
    refine TextR.done (.cons rfl .nil) ?_
    refine Wp.ret ?_
    obtain rfl := Option.some.inj h
    exact Ret.one rfl (resV_tmp rfl) rfl
  · rintro S' ⟨r2, rfl, hR⟩
    dsimp only at h
    obtain rfl := Option.some.inj h
    exact hR
theorem c_narthexlaw17_few (N : Nat) (a0 : List Tnarthexlaw17_Act) (r : Bool) (h : narthexlaw17_few N a0 = some r) (H : List Ob) : DCall Try.prog 11 [.c (.slv (a0.map enarthexlaw17_Act))] H (.c (B r)) := DCall.lift (by first | rfl | simp [-List.map_set]) (by first | rfl | simp [-List.map_set]) (fun _ => by simp [-List.map_set]) (w_narthexlaw17_few N a0 r h) H
-- narthex/narthexlaw17.Own
theorem w_narthexlaw17_Own (N : Nat) (a0 : TBook) (r : TBook) (h : narthexlaw17_Own N a0 = some r) : Nx.Call Try.prog 13 [.agg (eBook a0)] [] fun r' _ => r' = .agg (eBook r) := by
  refine Nx.Call.of_body Try.func13 rfl en13 Try.ntmps13 rfl (fun Γ hok => ?_)
  unfold narthexlaw17_Own at h
  refine Wp.seq ?_
  refine Wp.text [1, 2] rfl rfl ?_ -- region 0
  refine TextR.box (cs := [I a0.Last, .slv (a0.Sess.map eSess)]) 0 rfl rfl rfl rfl .nil ?_
  refine TextR.alloc 1 zc24 rfl rfl (.cons .nil) ?_
  refine TextR.done (.cons rfl (.cons rfl .nil)) ?_
  refine Wp.seq ?_
  refine Wp.text [1, 2, 3] rfl rfl ?_ -- region 1
  refine TextR.fieldAddr fo24_0 rfl rfl rfl ?_
  refine TextR.load1 tk3 rfl rfl ?_
  refine TextR.build cm24 rfl ?_
  refine TextR.alloc 2 zc24 rfl rfl (.cons (.cons .nil)) ?_
  refine TextR.store1 tk24 rfl rfl rfl rfl rfl rfl (.succ (.succ .zero)) ?_
  refine TextR.done (.cons rfl (.cons rfl (.cons rfl .nil))) ?_
  refine Wp.seq ?_
  refine Wp.seq ?_
  refine Wp.text [1, 2, 3, 4] rfl rfl ?_ -- region 2
  refine TextR.assign rfl ?_
  refine TextR.done (.cons rfl (.cons rfl (.cons rfl (.cons rfl .nil)))) ?_
  obtain ⟨z1, hz1, h⟩ := bind_some h
  refine Wp.fragN (fun S => ∃ wz1_2, ∃ S', St.Weak ⟨Try.prog, 33, Γ⟩ S S' ∧ S' = ⟨[(2, .c (.ptr 0 0 0 0)), (3, .c (.ptr 1 0 0 0))], [.live 0 2 [[I 0, nilS]], .live 0 2 [[I a0.Last, .sl 2 wz1_2 0 z1.length]], .live wz1_2 4 (z1.map eSess)]⟩) ?_ ?_
  · replace h := hz1
    refine Wp.block ?_
    refine Wp.weak (St.Weak.trans (keepW (live := [1, 2, 3, 4]) (.cons rfl (.cons rfl (.cons rfl (.cons rfl .nil))))) (St.Weak.trans (nilCellW (H := [.live 0 2 [[I a0.Last, .slv (a0.Sess.map eSess)]], .live 0 2 [[I 0, nilS]], .live 0 2 [[I a0.Last, nilS]]]) (ver := 0) (g := 2) (i := 0) (k := 1) 4 3 rfl rfl rfl rfl rfl (.cons (.cons (.cons .nil))) (.succ (.succ .zero))) (keepW (live := [1, 2, 3, 4]) (.cons rfl (.cons rfl (.cons rfl (.cons rfl .nil))))))) ?_
    refine Wp.loop (fun m S => ∃ l3_1, ∃ s4_1, ∃ wh3_1, narthexlaw17_Own_L1 N a0 m l3_1 s4_1 = some z1 ∧ S = ⟨[(1, .c (.ptr 0 0 0 0)), (2, .c (.ptr 1 0 0 0)), (3, .c (.ptr 2 0 0 0)), (4, .c (I s4_1))], [.live 0 2 [[I a0.Last, .slv (a0.Sess.map eSess)]], .live 0 2 [[I 0, nilS]], .live 0 2 [[I a0.Last, .sl 3 wh3_1 0 l3_1.length]], .live wh3_1 4 (l3_1.map eSess)]⟩) N ⟨_, _, _, h, rfl⟩ ?_
    rintro m1 _ ⟨l3_1, s4_1, wh3_1, h, rfl⟩
    cases m1 with
    | zero => rw [narthexlaw17_Own_L1.eq_1] at h; cases h
    | succ m1 =>
    rw [narthexlaw17_Own_L1.eq_2] at h
    refine Wp.seq ?_
    refine Wp.seq ?_
    refine Wp.text [1, 2, 3, 4, 13] rfl rfl ?_ -- region 3
    refine TextR.move rfl ?_
    refine TextR.fieldAddr fo24_1 rfl rfl rfl ?_
    refine TextR.load1 tk22 rfl rfl ?_
    refine TextR.lenM us22 rfl rfl ?_
    refine TextR.int rfl rfl rfl ?_
    refine TextR.done (.cons rfl (.cons rfl (.cons rfl (.cons rfl (.cons rfl .nil))))) ?_
    refine Wp.condM h rfl (fun hc2 h => ?_) (fun hc2 h => ?_)
    · refine Wp.skip ?_
      refine Wp.seq ?_
      refine Wp.block ?_
      refine Wp.seq ?_
      obtain ⟨x2, hx2, h⟩ := bind_some h
      refine Wp.text [1, 2, 3, 4, 5] rfl rfl ?_ -- region 5
      refine TextR.fieldAddr fo24_1 rfl rfl rfl ?_
      refine TextR.load1 tk22 rfl rfl ?_
      refine TextR.move rfl ?_
      refine TextR.indexA se22 rfl rfl rfl hx2 rfl ?_
      refine TextR.loadNM tk41 rfl (at_get hx2) rfl ?_
      refine TextR.alloc 4 zc41 rfl rfl (.cons (.cons (.cons (.cons .nil)))) ?_
      refine TextR.store1 tk41 rfl rfl rfl rfl rfl rfl (.succ (.succ (.succ (.succ .zero)))) ?_
      refine TextR.done (.cons rfl (.cons rfl (.cons rfl (.cons rfl (.cons rfl .nil))))) ?_
      refine Wp.seq ?_
      obtain ⟨x3, hx3, h⟩ := bind_some h
      refine Wp.text [1, 2, 3, 4, 5] rfl rfl ?_ -- region 6
      refine TextR.buildSlice  5 se25 rfl rfl rfl (.cons (.cons (.cons (.cons (.cons .nil))))) ?_
      refine TextR.fieldAddr fo41_1 rfl rfl rfl ?_
      refine TextR.load1 tk25 rfl rfl ?_
      refine TextR.appendM eI ([] : List Int) x2.Need x3 (app_eq hx3) se25 rfl rfl rfl rfl (fun _ => rfl) rfl (app_len hx3) (.succ (.succ (.succ (.succ (.succ .zero))))) ?_
      refine TextR.fieldAddr fo41_1 rfl rfl rfl ?_
      refine TextR.storeF (r' := [I x2.ID, .sl 5 1 0 x3.length, I x2.State, I x2.Age]) tk25 rfl rfl rfl rfl rfl rfl rfl (.succ (.succ (.succ (.succ .zero)))) ?_
      refine TextR.done (.cons rfl (.cons rfl (.cons rfl (.cons rfl (.cons rfl .nil))))) ?_
      refine Wp.weak (freezeW (h := 5) (ver := 1) (rows := x3.map eI) (e' := [(1, .c (.ptr 0 0 0 0)), (2, .c (.ptr 1 0 0 0)), (3, .c (.ptr 2 0 0 0)), (4, .c (I s4_1)), (5, .c (.ptr 4 0 0 0))]) (H' := [.live 0 2 [[I a0.Last, .slv (a0.Sess.map eSess)]], .live 0 2 [[I 0, nilS]], .live 0 2 [[I a0.Last, .sl 3 wh3_1 0 l3_1.length]], .live wh3_1 4 (l3_1.map eSess), .live 0 4 [[I x2.ID, .slv (x3.map eI), I x2.State, I x2.Age]], .dead]) rfl (by first | rfl | simp [-List.map_set]) (by first | rfl | simp [-List.map_set])) ?_
      obtain ⟨x4, hx4, h⟩ := bind_some h
      refine Wp.text [1, 2, 3, 4] rfl rfl ?_ -- region 7
      refine TextR.fieldAddr fo24_1 rfl rfl rfl ?_
      refine TextR.load1 tk22 rfl rfl ?_
      refine TextR.loadN (cs := [I x2.ID, .slv (x3.map eI), I x2.State, I x2.Age]) tk41 rfl rfl ?_
      refine TextR.buildSlice (rows := [{ x2 with Need := x3 }].map eSess) 6 se22 rfl rfl rfl (.cons (.cons (.cons (.cons (.cons (.cons .nil)))))) ?_
      refine TextR.appendM eSess l3_1 [{ x2 with Need := x3 }] x4 (app_eq hx4) se22 rfl (obj_of rfl) rfl (view_whole (f := eSess) (xs := [{ x2 with Need := x3 }]) rfl) (fun _ => rfl) rfl (app_len hx4) (.succ (.succ (.succ .zero))) ?_
      refine TextR.fieldAddr fo24_1 rfl rfl rfl ?_
      refine TextR.storeF (r' := [I a0.Last, .sl 3 (wh3_1 + 1) 0 x4.length]) tk22 rfl rfl rfl rfl rfl rfl rfl (.succ (.succ .zero)) ?_
      refine TextR.done (.cons rfl (.cons rfl (.cons rfl (.cons rfl .nil)))) ?_
      refine Wp.text [1, 2, 3, 4] rfl rfl ?_ -- region 4
      refine TextR.move rfl ?_
      refine TextR.int rfl rfl rfl ?_
      refine TextR.assign rfl ?_
      refine TextR.done (.cons rfl (.cons rfl (.cons rfl (.cons rfl .nil)))) ?_
      exact ⟨m1, Nat.lt_succ_self _, _, (St.Weak.trans (keepW (live := [1, 2, 3, 4]) (.cons rfl (.cons rfl (.cons rfl (.cons rfl .nil))))) (pickT (e' := [(1, .c (.ptr 0 0 0 0)), (2, .c (.ptr 1 0 0 0)), (3, .c (.ptr 2 0 0 0)), (4, .c (I (w64 (s4_1 + 1))))]) (H' := [.live 0 2 [[I a0.Last, .slv (a0.Sess.map eSess)]], .live 0 2 [[I 0, nilS]], .live 0 2 [[I a0.Last, .sl 3 (wh3_1 + 1) 0 x4.length]], .live (wh3_1 + 1) 4 (x4.map eSess)]) [0, 1, 2, 3] [0, 1, 2, 3, 0, 0, 0] 0 hok.len.symm rfl rfl (by decide) (by first | rfl | simp [-List.map_set]) (by first | rfl | simp [-List.map_set]) (by first | rfl | simp [-List.map_set]) (by first | rfl | simp [-List.map_set]))), _, _, _, h, rfl⟩
    · refine Wp.exit ?_
      obtain rfl := Option.some.inj h
      exact ⟨_, _, (St.Weak.trans (keepW (live := [2, 3]) (.cons rfl (.cons rfl .nil))) (pickT (e' := [(2, .c (.ptr 0 0 0 0)), (3, .c (.ptr 1 0 0 0))]) (H' := [.live 0 2 [[I 0, nilS]], .live 0 2 [[I a0.Last, .sl 2 wh3_1 0 l3_1.length]], .live wh3_1 4 (l3_1.map eSess)]) [1, 2, 3] [0, 0, 1, 2] 0 hok.len.symm rfl rfl (by decide) (by first | rfl | simp [-List.map_set]) (by first | rfl | simp [-List.map_set]) (by first | rfl | simp [-List.map_set]) (by first | rfl | simp [-List.map_set]))), rfl⟩
  rintro _ ⟨wz1_2, S', hw, rfl⟩
  clear hz1
  refine Wp.weak hw ?_
  refine Wp.seq ?_
  refine Wp.text [2] rfl rfl ?_ -- region 8
  refine TextR.loadN (cs := [I a0.Last, .sl 2 wz1_2 0 z1.length]) tk24 rfl rfl ?_
  refine TextR.store1 tk24 rfl rfl rfl rfl rfl rfl .zero ?_
  refine TextR.done (.cons rfl .nil) ?_
  refine Wp.weak (keepW (live := [2] ) (.cons rfl .nil)) ?_
  refine Wp.weak (freezeW (h := 2) (ver := wz1_2) (rows := z1.map eSess) (e' := [(2, .c (.ptr 0 0 0 0))]) (H' := [.live 0 2 [[I a0.Last, .slv (z1.map eSess)]], .live 0 2 [[I a0.Last, .slv (z1.map eSess)]], .dead]) (obj_of rfl) (by first | rfl | simp [-List.map_set]) (by first | rfl | simp [-List.map_set])) ?_
  refine Wp.ret ?_
  obtain rfl := Option.some.inj h
  exact Ret.one rfl (resV_cellN tk24 rfl rfl) rfl
theorem c_narthexlaw17_Own (N : Nat) (a0 : TBook) (r : TBook) (h : narthexlaw17_Own N a0 = some r) (H : List Ob) : DCall Try.prog 13 [.agg (eBook a0)] H (.agg (eBook r)) := DCall.lift (by first | rfl | simp [-List.map_set]) (by first | rfl | simp [-List.map_set]) (fun _ => by simp [-List.map_set]) (w_narthexlaw17_Own N a0 r h) H
-- narthex/narthexlaw17.act
theorem w_narthexlaw17_act (N : Nat) (a0 : TBook) (a1 : Tnarthexlaw17_Act) (r : TBook × (List Int) × Int) (h : narthexlaw17_act N a0 a1 = some r) : Nx.Call Try.prog 12 [.agg (eBook a0), .agg (enarthexlaw17_Act a1)] [] fun r' _ => r' = .tup [.agg (eBook r.1), .c (.slv (r.2.1.map eI)), .c (I r.2.2)] := by
  refine Nx.Call.of_body Try.func12 rfl en12 Try.ntmps12 rfl (fun Γ hok => ?_)
  unfold narthexlaw17_act at h
  refine Wp.seq ?_
  refine Wp.text [2, 3, 4] rfl rfl ?_ -- region 0
  refine TextR.box (cs := [I a0.Last, .slv (a0.Sess.map eSess)]) 0 rfl rfl rfl rfl .nil ?_
  refine TextR.box (cs := [I a1.K, I a1.ID, I a1.N, .slv (a1.Need.map eI)]) 1 rfl rfl rfl rfl (.cons .nil) ?_
  refine TextR.alloc 2 zc24 rfl rfl (.cons (.cons .nil)) ?_
  refine TextR.assign rfl ?_
  refine TextR.assign rfl ?_
  refine TextR.done (.cons rfl (.cons rfl (.cons rfl .nil))) ?_
  refine Wp.seq ?_
  refine Wp.seq ?_
  refine Wp.text [2, 3, 4, 20] rfl rfl ?_ -- region 1
  refine TextR.fieldAddr fo27_0 rfl rfl rfl ?_
  refine TextR.load1 tk3 rfl rfl ?_
  refine TextR.done (.cons rfl (.cons rfl (.cons rfl (.cons rfl .nil)))) ?_
  refine Wp.block ?_
  refine Wp.seq ?_
  refine Wp.text [2, 3, 4, 20, 21] rfl rfl ?_ -- region 2
  refine TextR.int rfl rfl rfl ?_
  refine TextR.assign rfl ?_
  refine TextR.done (.cons rfl (.cons rfl (.cons rfl (.cons rfl (.cons rfl .nil))))) ?_
  refine Wp.condM h rfl (fun hc1 h => ?_) (fun hc1 h => ?_)
  · refine Wp.seq ?_
    obtain ⟨x1, hx1, h⟩ := bind_some h
    obtain ⟨y2, hy2, h⟩ := bind_some h
    refine Wp.ways (S0 := ⟨[(4, .c (.ptr 2 0 0 0)), (7, .c (.ptr 4 0 0 0)), (8, .c (I y2.2))], [.live 0 2 [[I a0.Last, .slv (a0.Sess.map eSess)]], .live 0 4 [[I a1.K, I a1.ID, I a1.N, .slv (a1.Need.map eI)]], .live 0 2 [[I 0, nilS]], .dead, .live 0 2 [[I y2.1.Last, .slv (y2.1.Sess.map eSess)]]]⟩) mixed ?_ ?_ -- region 3 WAYS
    · refine RegAny.fork 11 6 [0, 1, 2, 3, 4, 5, 6, 7, 8, 9, 10, 11, 12, 13] [0, 1, 2, 3, 4, 5, 11, 6, 7, 8, 9, 10, 12, 13] rfl rfl [6, 7, 8, 9, 10, 11, 12, 13] rfl (by kernel_rfl) ?_ ?_
      · refine RegAny.leaf ⟨[3, 4], []⟩ [[], [], [], [], [], [], [], [], [], [], [], [], [], []] [true, true, true, false, true, true, false, true, true, true, true, false, false, false] [4, 7, 8] rfl (by kernel_rfl) rfl ?_
        refine RunR.loadN (cs := [I a0.Last, .slv (a0.Sess.map eSess)]) tk24 rfl rfl rfl rfl ?_
        refine RunR.fieldAddr fo27_1 rfl rfl rfl rfl rfl ?_
        refine RunR.load1 tk3 rfl rfl rfl rfl ?_
        refine RunR.buildSlice  3 se25 rfl rfl rfl rfl rfl (.cons (.cons (.cons .nil))) ?_
        refine RunR.fieldAddr fo27_3 rfl rfl rfl rfl rfl ?_
        refine RunR.load1 tk25 rfl rfl rfl rfl ?_
        refine RunR.frz (x0 := .c (.sl 3 1 0 x1.length)) (H0 := [.live 0 2 [[I a0.Last, .slv (a0.Sess.map eSess)]], .live 0 4 [[I a1.K, I a1.ID, I a1.N, .slv (a1.Need.map eI)]], .live 0 2 [[I 0, nilS]], .live 1 1 (x1.map eI)]) (x := .c (.slv (x1.map eI))) (RunR.appendM eI ([] : List Int) a1.Need x1 (app_eq hx1) se25 rfl rfl rfl rfl rfl rfl (fun _ => rfl) rfl (app_len hx1) (.succ (.succ (.succ .zero))) (RunR.nil ⟨rfl, rfl⟩)) rfl rfl rfl rfl (Frz.of_weak fun Γ => (freezeW (F := ⟨Try.prog, 1, Γ⟩) (h := 3) (ver := 1) (rows := x1.map eI) (e' := [(0, .c (.slv (x1.map eI)))]) (H' := [.live 0 2 [[I a0.Last, .slv (a0.Sess.map eSess)]], .live 0 4 [[I a1.K, I a1.ID, I a1.N, .slv (a1.Need.map eI)]], .live 0 2 [[I 0, nilS]], .dead]) rfl (by first | rfl | simp [-List.map_set]) (by first | rfl | simp [-List.map_set]))) (.same (.same (.same (.turn rfl .nil)))) ?_
        refine RunR.call rfl rfl rfl (fun H => c_sess_Open N a0 a1.ID x1 y2 hy2 H) ?_
        refine RunR.move rfl rfl rfl ?_
        refine RunR.extract rfl rfl rfl rfl ?_
        refine RunR.extract rfl rfl rfl rfl ?_
        refine RunR.alloc 4 zc24 rfl rfl rfl rfl (.cons (.cons (.cons (.cons .nil)))) ?_
        refine RunR.store1 tk24 rfl rfl rfl rfl rfl rfl rfl rfl (.succ (.succ (.succ (.succ .zero)))) ?_
        refine RunR.assign rfl rfl rfl ?_
        refine RunR.nil ⟨_, (.cons rfl (.cons rfl (.cons rfl .nil))), .refl⟩
      · refine RegAny.fork 6 3 [0, 1, 2, 3, 4, 5, 6, 7, 8, 9, 10, 11, 12, 13] [0, 1, 2, 4, 5, 6, 3, 7, 8, 9, 10, 11, 12, 13] rfl rfl [3, 6, 7, 8, 9, 10, 11, 12, 13] rfl (by kernel_rfl) ?_ ?_
        · refine RegAny.leaf ⟨[3, 4], []⟩ [[], [], [], [], [], [], [], [], [], [], [], [], [], []] [true, true, true, false, true, true, false, false, false, false, false, true, false, false] [4, 7, 8] rfl (by kernel_rfl) rfl ?_
          refine RunR.loadN (cs := [I a0.Last, .slv (a0.Sess.map eSess)]) tk24 rfl rfl rfl rfl ?_
          refine RunR.fieldAddr fo27_1 rfl rfl rfl rfl rfl ?_
          refine RunR.load1 tk3 rfl rfl rfl rfl ?_
          refine RunR.buildSlice  3 se25 rfl rfl rfl rfl rfl (.cons (.cons (.cons .nil))) ?_
          refine RunR.fieldAddr fo27_3 rfl rfl rfl rfl rfl ?_
          refine RunR.load1 tk25 rfl rfl rfl rfl ?_
          refine RunR.alloc 4 zc24 rfl rfl rfl rfl (.cons (.cons (.cons (.cons .nil)))) ?_
          refine RunR.frz (x0 := .c (.sl 3 1 0 x1.length)) (H0 := [.live 0 2 [[I a0.Last, .slv (a0.Sess.map eSess)]], .live 0 4 [[I a1.K, I a1.ID, I a1.N, .slv (a1.Need.map eI)]], .live 0 2 [[I 0, nilS]], .live 1 1 (x1.map eI), .live 0 2 [[I 0, nilS]]]) (x := .c (.slv (x1.map eI))) (RunR.appendM eI ([] : List Int) a1.Need x1 (app_eq hx1) se25 rfl rfl rfl rfl rfl rfl (fun _ => rfl) rfl (app_len hx1) (.succ (.succ (.succ .zero))) (RunR.nil ⟨rfl, rfl⟩)) rfl rfl rfl rfl (Frz.of_weak fun Γ => (freezeW (F := ⟨Try.prog, 1, Γ⟩) (h := 3) (ver := 1) (rows := x1.map eI) (e' := [(0, .c (.slv (x1.map eI)))]) (H' := [.live 0 2 [[I a0.Last, .slv (a0.Sess.map eSess)]], .live 0 4 [[I a1.K, I a1.ID, I a1.N, .slv (a1.Need.map eI)]], .live 0 2 [[I 0, nilS]], .dead, .live 0 2 [[I 0, nilS]]]) rfl (by first | rfl | simp [-List.map_set]) (by first | rfl | simp [-List.map_set]))) (.same (.same (.same (.turn rfl (.same .nil))))) ?_
          refine RunR.call rfl rfl rfl (fun H => c_sess_Open N a0 a1.ID x1 y2 hy2 H) ?_
          refine RunR.move rfl rfl rfl ?_
          refine RunR.extract rfl rfl rfl rfl ?_
          refine RunR.extract rfl rfl rfl rfl ?_
          refine RunR.store1 tk24 rfl rfl rfl rfl rfl rfl rfl rfl (.succ (.succ (.succ (.succ .zero)))) ?_
          refine RunR.assign rfl rfl rfl ?_
          refine RunR.nil ⟨_, (.cons rfl (.cons rfl (.cons rfl .nil))), .refl⟩
        · refine RegAny.leaf ⟨[3, 4], []⟩ [[], [], [], [], [], [], [], [], [], [], [], [], [], []] [true, true, true, true, true, false, false, false, false, false, false, true, false, false] [4, 7, 8] rfl (by kernel_rfl) rfl ?_
          refine RunR.loadN (cs := [I a0.Last, .slv (a0.Sess.map eSess)]) tk24 rfl rfl rfl rfl ?_
          refine RunR.fieldAddr fo27_1 rfl rfl rfl rfl rfl ?_
          refine RunR.load1 tk3 rfl rfl rfl rfl ?_
          refine RunR.fieldAddr fo27_3 rfl rfl rfl rfl rfl ?_
          refine RunR.load1 tk25 rfl rfl rfl rfl ?_
          refine RunR.alloc 3 zc24 rfl rfl rfl rfl (.cons (.cons (.cons .nil))) ?_
          refine RunR.buildSlice  4 se25 rfl rfl rfl rfl rfl (.cons (.cons (.cons (.cons .nil)))) ?_
          refine RunR.frz (x0 := .c (.sl 4 1 0 x1.length)) (H0 := [.live 0 2 [[I a0.Last, .slv (a0.Sess.map eSess)]], .live 0 4 [[I a1.K, I a1.ID, I a1.N, .slv (a1.Need.map eI)]], .live 0 2 [[I 0, nilS]], .live 0 2 [[I 0, nilS]], .live 1 1 (x1.map eI)]) (x := .c (.slv (x1.map eI))) (RunR.appendM eI ([] : List Int) a1.Need x1 (app_eq hx1) se25 rfl rfl rfl rfl rfl rfl (fun _ => rfl) rfl (app_len hx1) (.succ (.succ (.succ (.succ .zero)))) (RunR.nil ⟨rfl, rfl⟩)) rfl rfl rfl rfl (Frz.of_weak fun Γ => (freezeW (F := ⟨Try.prog, 1, Γ⟩) (h := 4) (ver := 1) (rows := x1.map eI) (e' := [(0, .c (.slv (x1.map eI)))]) (H' := [.live 0 2 [[I a0.Last, .slv (a0.Sess.map eSess)]], .live 0 4 [[I a1.K, I a1.ID, I a1.N, .slv (a1.Need.map eI)]], .live 0 2 [[I 0, nilS]], .live 0 2 [[I 0, nilS]], .dead]) rfl (by first | rfl | simp [-List.map_set]) (by first | rfl | simp [-List.map_set]))) (.same (.same (.same (.same (.turn rfl .nil))))) ?_
          refine RunR.call rfl rfl rfl (fun H => c_sess_Open N a0 a1.ID x1 y2 hy2 H) ?_
          refine RunR.move rfl rfl rfl ?_
          refine RunR.extract rfl rfl rfl rfl ?_
          refine RunR.extract rfl rfl rfl rfl ?_
          refine RunR.store1 tk24 rfl rfl rfl rfl rfl rfl rfl rfl (.succ (.succ (.succ .zero))) ?_
          refine RunR.assign rfl rfl rfl ?_
          refine RunR.nil ⟨_, (.cons rfl (.cons rfl (.cons rfl .nil))), (pickT (e' := [(4, .c (.ptr 2 0 0 0)), (7, .c (.ptr 4 0 0 0)), (8, .c (I y2.2))]) (H' := [.live 0 2 [[I a0.Last, .slv (a0.Sess.map eSess)]], .live 0 4 [[I a1.K, I a1.ID, I a1.N, .slv (a1.Need.map eI)]], .live 0 2 [[I 0, nilS]], .dead, .live 0 2 [[I y2.1.Last, .slv (y2.1.Sess.map eSess)]]]) [0, 1, 2, 4, 3] [0, 1, 2, 4, 3] 0 hok.len.symm rfl rfl (by decide) (by first | rfl | simp [-List.map_set]) (by first | rfl | simp [-List.map_set]) (by first | rfl | simp [-List.map_set]) (by first | rfl | simp [-List.map_set]))⟩
    refine Wp.seq ?_
    refine Wp.text [4, 5, 6] rfl rfl ?_ -- region 4
    refine TextR.loadN (cs := [I y2.1.Last, .slv (y2.1.Sess.map eSess)]) tk24 rfl rfl ?_
    refine TextR.move rfl ?_
    refine TextR.store1 tk24 rfl rfl rfl rfl rfl rfl (.succ (.succ .zero)) ?_
    refine TextR.assign rfl ?_
    refine TextR.assign rfl ?_
    refine TextR.done (.cons rfl (.cons rfl (.cons rfl .nil))) ?_
    refine Wp.weak (keepW (live := [4, 5, 6] ) (.cons rfl (.cons rfl (.cons rfl .nil)))) ?_
    refine Wp.weak (nzT (e' := [(4, .c (.ptr 2 0 0 0)), (5, .c (.slv ([].map eI))), (6, .c (I y2.2))]) (H' := [.live 0 2 [[I a0.Last, .slv (a0.Sess.map eSess)]], .live 0 4 [[I a1.K, I a1.ID, I a1.N, .slv (a1.Need.map eI)]], .live 0 2 [[I y2.1.Last, .slv (y2.1.Sess.map eSess)]], .dead, .live 0 2 [[I y2.1.Last, .slv (y2.1.Sess.map eSess)]]]) (by first | rfl | simp [-List.map_set]) (by first | rfl | simp [-List.map_set])) ?_
    refine Wp.ret ?_
    obtain rfl := Option.some.inj h
    exact Ret.three rfl (resV_cellN tk24 rfl rfl) (resV_tmp rfl) (resV_tmp rfl) rfl
  · refine Wp.seq ?_
    refine Wp.text [2, 3, 4, 20, 36] rfl rfl ?_ -- region 5
    refine TextR.int rfl rfl rfl ?_
    refine TextR.assign rfl ?_
    refine TextR.done (.cons rfl (.cons rfl (.cons rfl (.cons rfl (.cons rfl .nil))))) ?_
    refine Wp.condM h rfl (fun hc2 h => ?_) (fun hc2 h => ?_)
    · refine Wp.seq ?_
      obtain ⟨y3, hy3, h⟩ := bind_some h
      refine Wp.text [4, 9, 10, 11] rfl rfl ?_ -- region 6
      refine TextR.loadN (cs := [I a0.Last, .slv (a0.Sess.map eSess)]) tk24 rfl rfl ?_
      refine TextR.dcall rfl rfl (c_sess_Grant N a0 y3 hy3 _) ?_
      refine TextR.move rfl ?_
      refine TextR.extract rfl rfl ?_
      refine TextR.extract rfl rfl ?_
      refine TextR.extract rfl rfl ?_
      refine TextR.alloc 3 zc24 rfl rfl (.cons (.cons (.cons .nil))) ?_
      refine TextR.store1 tk24 rfl rfl rfl rfl rfl rfl (.succ (.succ (.succ .zero))) ?_
      refine TextR.assign rfl ?_
      refine TextR.assign rfl ?_
      refine TextR.done (.cons rfl (.cons rfl (.cons rfl (.cons rfl .nil)))) ?_
      refine Wp.seq ?_
      refine Wp.text [4, 5, 6] rfl rfl ?_ -- region 7
      refine TextR.loadN (cs := [I y3.1.Last, .slv (y3.1.Sess.map eSess)]) tk24 rfl rfl ?_
      refine TextR.move rfl ?_
      refine TextR.buildSlice (rows := [y3.2.1].map eI) 4 se25 rfl rfl rfl (.cons (.cons (.cons (.cons .nil)))) ?_
      refine TextR.move rfl ?_
      refine TextR.store1 tk24 rfl rfl rfl rfl rfl rfl (.succ (.succ .zero)) ?_
      refine TextR.assign rfl ?_
      refine TextR.assign rfl ?_
      refine TextR.done (.cons rfl (.cons rfl (.cons rfl .nil))) ?_
      refine Wp.weak (keepW (live := [4, 5, 6] ) (.cons rfl (.cons rfl (.cons rfl .nil)))) ?_
      refine Wp.weak (freezeW (h := 4) (ver := 0) (rows := [y3.2.1].map eI) (e' := [(4, .c (.ptr 2 0 0 0)), (5, .c (.slv ([y3.2.1].map eI))), (6, .c (I y3.2.2))]) (H' := [.live 0 2 [[I a0.Last, .slv (a0.Sess.map eSess)]], .live 0 4 [[I a1.K, I a1.ID, I a1.N, .slv (a1.Need.map eI)]], .live 0 2 [[I y3.1.Last, .slv (y3.1.Sess.map eSess)]], .live 0 2 [[I y3.1.Last, .slv (y3.1.Sess.map eSess)]], .dead]) rfl (by first | rfl | simp [-List.map_set]) (by first | rfl | simp [-List.map_set])) ?_
      refine Wp.ret ?_
      obtain rfl := Option.some.inj h
      exact Ret.three rfl (resV_cellN tk24 rfl rfl) (resV_tmp rfl) (resV_tmp rfl) rfl
    · refine Wp.seq ?_
      refine Wp.text [2, 3, 4, 20, 48] rfl rfl ?_ -- region 8
      refine TextR.int rfl rfl rfl ?_
      refine TextR.assign rfl ?_
      refine TextR.done (.cons rfl (.cons rfl (.cons rfl (.cons rfl (.cons rfl .nil))))) ?_
      refine Wp.condM h rfl (fun hc3 h => ?_) (fun hc3 h => ?_)
      · refine Wp.seq ?_
        obtain ⟨y4, hy4, h⟩ := bind_some h
        refine Wp.text [4, 12, 13] rfl rfl ?_ -- region 9
        refine TextR.loadN (cs := [I a0.Last, .slv (a0.Sess.map eSess)]) tk24 rfl rfl ?_
        refine TextR.fieldAddr fo27_1 rfl rfl rfl ?_
        refine TextR.load1 tk3 rfl rfl ?_
        refine TextR.dcall rfl rfl (c_sess_Release N a0 a1.ID y4 hy4 _) ?_
        refine TextR.move rfl ?_
        refine TextR.extract rfl rfl ?_
        refine TextR.extract rfl rfl ?_
        refine TextR.alloc 3 zc24 rfl rfl (.cons (.cons (.cons .nil))) ?_
        refine TextR.store1 tk24 rfl rfl rfl rfl rfl rfl (.succ (.succ (.succ .zero))) ?_
        refine TextR.assign rfl ?_
        refine TextR.done (.cons rfl (.cons rfl (.cons rfl .nil))) ?_
        refine Wp.seq ?_
        refine Wp.text [4, 5, 6] rfl rfl ?_ -- region 10
        refine TextR.loadN (cs := [I y4.1.Last, .slv (y4.1.Sess.map eSess)]) tk24 rfl rfl ?_
        refine TextR.move rfl ?_
        refine TextR.store1 tk24 rfl rfl rfl rfl rfl rfl (.succ (.succ .zero)) ?_
        refine TextR.assign rfl ?_
        refine TextR.assign rfl ?_
        refine TextR.done (.cons rfl (.cons rfl (.cons rfl .nil))) ?_
        refine Wp.weak (keepW (live := [4, 5, 6] ) (.cons rfl (.cons rfl (.cons rfl .nil)))) ?_
        refine Wp.weak (nzT (e' := [(4, .c (.ptr 2 0 0 0)), (5, .c (.slv ([].map eI))), (6, .c (I y4.2))]) (H' := [.live 0 2 [[I a0.Last, .slv (a0.Sess.map eSess)]], .live 0 4 [[I a1.K, I a1.ID, I a1.N, .slv (a1.Need.map eI)]], .live 0 2 [[I y4.1.Last, .slv (y4.1.Sess.map eSess)]], .live 0 2 [[I y4.1.Last, .slv (y4.1.Sess.map eSess)]]]) (by first | rfl | simp [-List.map_set]) (by first | rfl | simp [-List.map_set])) ?_
        refine Wp.ret ?_
        obtain rfl := Option.some.inj h
        exact Ret.three rfl (resV_cellN tk24 rfl rfl) (resV_tmp rfl) (resV_tmp rfl) rfl
      · refine Wp.seq ?_
        refine Wp.text [2, 3, 4, 20, 59] rfl rfl ?_ -- region 11
        refine TextR.int rfl rfl rfl ?_
        refine TextR.assign rfl ?_
        refine TextR.done (.cons rfl (.cons rfl (.cons rfl (.cons rfl (.cons rfl .nil))))) ?_
        refine Wp.condM h rfl (fun hc4 h => ?_) (fun hc4 h => ?_)
        · refine Wp.seq ?_
          obtain ⟨y5, hy5, h⟩ := bind_some h
          refine Wp.text [4, 14, 15] rfl rfl ?_ -- region 12
          refine TextR.loadN (cs := [I a0.Last, .slv (a0.Sess.map eSess)]) tk24 rfl rfl ?_
          refine TextR.fieldAddr fo27_1 rfl rfl rfl ?_
          refine TextR.load1 tk3 rfl rfl ?_
          refine TextR.dcall rfl rfl (c_sess_Cancel N a0 a1.ID y5 hy5 _) ?_
          refine TextR.move rfl ?_
          refine TextR.extract rfl rfl ?_
          refine TextR.extract rfl rfl ?_
          refine TextR.alloc 3 zc24 rfl rfl (.cons (.cons (.cons .nil))) ?_
          refine TextR.store1 tk24 rfl rfl rfl rfl rfl rfl (.succ (.succ (.succ .zero))) ?_
          refine TextR.assign rfl ?_
          refine TextR.done (.cons rfl (.cons rfl (.cons rfl .nil))) ?_
          refine Wp.seq ?_
          refine Wp.text [4, 5, 6] rfl rfl ?_ -- region 13
          refine TextR.loadN (cs := [I y5.1.Last, .slv (y5.1.Sess.map eSess)]) tk24 rfl rfl ?_
          refine TextR.move rfl ?_
          refine TextR.store1 tk24 rfl rfl rfl rfl rfl rfl (.succ (.succ .zero)) ?_
          refine TextR.assign rfl ?_
          refine TextR.assign rfl ?_
          refine TextR.done (.cons rfl (.cons rfl (.cons rfl .nil))) ?_
          refine Wp.weak (keepW (live := [4, 5, 6] ) (.cons rfl (.cons rfl (.cons rfl .nil)))) ?_
          refine Wp.weak (nzT (e' := [(4, .c (.ptr 2 0 0 0)), (5, .c (.slv ([].map eI))), (6, .c (I y5.2))]) (H' := [.live 0 2 [[I a0.Last, .slv (a0.Sess.map eSess)]], .live 0 4 [[I a1.K, I a1.ID, I a1.N, .slv (a1.Need.map eI)]], .live 0 2 [[I y5.1.Last, .slv (y5.1.Sess.map eSess)]], .live 0 2 [[I y5.1.Last, .slv (y5.1.Sess.map eSess)]]]) (by first | rfl | simp [-List.map_set]) (by first | rfl | simp [-List.map_set])) ?_
          refine Wp.ret ?_
          obtain rfl := Option.some.inj h
          exact Ret.three rfl (resV_cellN tk24 rfl rfl) (resV_tmp rfl) (resV_tmp rfl) rfl
        · refine Wp.seq ?_
          refine Wp.text [2, 3, 4, 70] rfl rfl ?_ -- region 14
          refine TextR.int rfl rfl rfl ?_
          refine TextR.assign rfl ?_
          refine TextR.done (.cons rfl (.cons rfl (.cons rfl (.cons rfl .nil)))) ?_
          refine Wp.condM h rfl (fun hc5 h => ?_) (fun hc5 h => ?_)
          · refine Wp.seq ?_
            obtain ⟨y6, hy6, h⟩ := bind_some h
            refine Wp.text [4, 16, 17, 18] rfl rfl ?_ -- region 15
            refine TextR.loadN (cs := [I a0.Last, .slv (a0.Sess.map eSess)]) tk24 rfl rfl ?_
            refine TextR.fieldAddr fo27_2 rfl rfl rfl ?_
            refine TextR.load1 tk3 rfl rfl ?_
            refine TextR.dcall rfl rfl (c_sess_Tick N a0 a1.N y6 hy6 _) ?_
            refine TextR.move rfl ?_
            refine TextR.extract rfl rfl ?_
            refine TextR.extract rfl rfl ?_
            refine TextR.extract rfl rfl ?_
            refine TextR.alloc 3 zc24 rfl rfl (.cons (.cons (.cons .nil))) ?_
            refine TextR.store1 tk24 rfl rfl rfl rfl rfl rfl (.succ (.succ (.succ .zero))) ?_
            refine TextR.assign rfl ?_
            refine TextR.assign rfl ?_
            refine TextR.done (.cons rfl (.cons rfl (.cons rfl (.cons rfl .nil)))) ?_
            refine Wp.seq ?_
            refine Wp.text [4, 5, 6] rfl rfl ?_ -- region 16
            refine TextR.loadN (cs := [I y6.1.Last, .slv (y6.1.Sess.map eSess)]) tk24 rfl rfl ?_
            refine TextR.move rfl ?_
            refine TextR.buildSlice (rows := [y6.2.1].map eI) 4 se25 rfl rfl rfl (.cons (.cons (.cons (.cons .nil)))) ?_
            refine TextR.move rfl ?_
            refine TextR.store1 tk24 rfl rfl rfl rfl rfl rfl (.succ (.succ .zero)) ?_
            refine TextR.assign rfl ?_
            refine TextR.assign rfl ?_
            refine TextR.done (.cons rfl (.cons rfl (.cons rfl .nil))) ?_
            refine Wp.weak (keepW (live := [4, 5, 6] ) (.cons rfl (.cons rfl (.cons rfl .nil)))) ?_
            refine Wp.weak (freezeW (h := 4) (ver := 0) (rows := [y6.2.1].map eI) (e' := [(4, .c (.ptr 2 0 0 0)), (5, .c (.slv ([y6.2.1].map eI))), (6, .c (I y6.2.2))]) (H' := [.live 0 2 [[I a0.Last, .slv (a0.Sess.map eSess)]], .live 0 4 [[I a1.K, I a1.ID, I a1.N, .slv (a1.Need.map eI)]], .live 0 2 [[I y6.1.Last, .slv (y6.1.Sess.map eSess)]], .live 0 2 [[I y6.1.Last, .slv (y6.1.Sess.map eSess)]], .dead]) rfl (by first | rfl | simp [-List.map_set]) (by first | rfl | simp [-List.map_set])) ?_
            refine Wp.ret ?_
            obtain rfl := Option.some.inj h
            exact Ret.three rfl (resV_cellN tk24 rfl rfl) (resV_tmp rfl) (resV_tmp rfl) rfl
          · refine Wp.skip ?_
            refine Wp.seq ?_
            obtain ⟨y7, hy7, h⟩ := bind_some h
            refine Wp.text [4, 5, 6] rfl rfl ?_ -- region 17
            refine TextR.loadN (cs := [I a0.Last, .slv (a0.Sess.map eSess)]) tk24 rfl rfl ?_
            refine TextR.fieldAddr fo27_2 rfl rfl rfl ?_
            refine TextR.load1 tk3 rfl rfl ?_
            refine TextR.dcall rfl rfl (c_sess_Gone N a0 a1.N y7 hy7 _) ?_
            refine TextR.extract rfl rfl ?_
            refine TextR.extract rfl rfl ?_
            refine TextR.extract rfl rfl ?_
            refine TextR.store1 tk24 rfl rfl rfl rfl rfl rfl (.succ (.succ .zero)) ?_
            refine TextR.assign rfl ?_
            refine TextR.assign rfl ?_
            refine TextR.done (.cons rfl (.cons rfl (.cons rfl .nil))) ?_
            refine Wp.ret ?_
            obtain rfl := Option.some.inj h
            exact Ret.three rfl (resV_cellN tk24 rfl rfl) (resV_tmp rfl) (resV_tmp rfl) rfl
theorem c_narthexlaw17_act (N : Nat) (a0 : TBook) (a1 : Tnarthexlaw17_Act) (r : TBook × (List Int) × Int) (h : narthexlaw17_act N a0 a1 = some r) (H : List Ob) : DCall Try.prog 12 [.agg (eBook a0), .agg (enarthexlaw17_Act a1)] H (.tup [.agg (eBook r.1), .c (.slv (r.2.1.map eI)), .c (I r.2.2)]) := DCall.lift (by first | rfl | simp [-List.map_set]) (by first | rfl | simp [-List.map_set]) (fun _ => by simp [-List.map_set]) (w_narthexlaw17_act N a0 a1 r h) H
-- narthex/narthexref17.need
theorem w_narthexref17_need (N : Nat) (a0 : List Int) (r : Bool) (h : narthexref17_need N a0 = some r) : Nx.Call Try.prog 35 [.c (.slv (a0.map eI))] [] fun r' _ => r' = .c (B r) := by
  refine Nx.Call.of_body Try.func35 rfl en35 Try.ntmps35 rfl (fun Γ hok => ?_)
  unfold narthexref17_need at h
  refine Wp.seq ?_
  refine Wp.text [0] rfl rfl ?_ -- region 0
  refine TextR.assign rfl ?_
  refine TextR.done (.cons rfl .nil) ?_
  refine Wp.seq ?_
  refine Wp.seq ?_
  refine Wp.text [0, 3] rfl rfl ?_ -- region 1
  refine TextR.assign rfl ?_
  refine TextR.done (.cons rfl (.cons rfl .nil)) ?_
  obtain ⟨z1, hz1, h⟩ := bind_some h
  refine Wp.fragR (fun S => ∃ z3, z1 = .inr z3 ∧ ∃ S', St.Weak ⟨Try.prog, 34, Γ⟩ S S' ∧ S' = ⟨[(0, .c (.slv (a0.map eI)))], []⟩) (fun S => ∃ v, z1 = .inl v ∧ Ret Try.prog Try.f35 (fun r' _ => r' = .c (B v)) .ret S) ?_ ?_ ?_
  · replace h := hz1
    refine Wp.block ?_
    refine Wp.weak (keepW (live := [0, 3]) (.cons rfl (.cons rfl .nil))) ?_
    refine Wp.loop (fun m S => ∃ s3_1, narthexref17_need_L1 N a0 m s3_1 = some z1 ∧ S = ⟨[(0, .c (.slv (a0.map eI))), (3, .c (I s3_1))], []⟩) N ⟨_, h, rfl⟩ ?_
    rintro m1 _ ⟨s3_1, h, rfl⟩
    cases m1 with
    | zero => rw [narthexref17_need_L1.eq_1] at h; cases h
    | succ m1 =>
    rw [narthexref17_need_L1.eq_2] at h
    refine Wp.seq ?_
    refine Wp.seq ?_
    refine Wp.text [0, 3, 7] rfl rfl ?_ -- region 2
    refine TextR.move rfl ?_
    refine TextR.move rfl ?_
    refine TextR.lenM us25 rfl rfl ?_
    refine TextR.int rfl rfl rfl ?_
    refine TextR.done (.cons rfl (.cons rfl (.cons rfl .nil))) ?_
    refine Wp.condM h rfl (fun hc2 h => ?_) (fun hc2 h => ?_)
    · refine Wp.skip ?_
      refine Wp.seq ?_
      refine Wp.block ?_
      refine Wp.seq ?_
      obtain ⟨x4, hx4, h⟩ := bind_some h
      obtain ⟨x5, hx5, h⟩ := bind_some h
      obtain ⟨x6, hx6, h⟩ := bind_some h
      refine Wp.go true (some ⟨[], []⟩) [[], [], [], [], [], [], [(15, false)], [(15, false)], [(15, false)], [(18, true), (15, false)], [(18, true), (15, false)], [(18, true), (15, false)], [(18, true), (15, false)], [(18, true), (15, false)], [(18, true), (15, false)], [(18, true), (15, false)], [(18, true), (15, false)], [(18, true), (15, false)], [(18, true), (15, false)], [(15, false)], []] [] [0, 3, 30] mixed rfl rfl (by kernel_rfl) ?_ -- region 4
      refine RunR.move rfl rfl rfl ?_
      refine RunR.move rfl rfl rfl ?_
      refine RunR.indexA se25 rfl rfl rfl rfl rfl hx4 rfl ?_
      refine RunR.load1M tk3 rfl rfl rfl (at_get hx4) rfl ?_
      refine RunR.int rfl rfl rfl rfl rfl ?_
      refine RunR.move rfl rfl rfl ?_
      refine RunR.move rfl rfl rfl ?_
      refine RunR.int rfl rfl rfl rfl rfl ?_
      refine RunR.move rfl rfl rfl ?_
      refine RunR.move rfl rfl rfl ?_
      refine RunR.move rfl rfl rfl ?_
      refine RunR.int rfl rfl rfl rfl rfl ?_
      refine RunR.indexAG se25 rfl rfl rfl rfl rfl (ifPos hx5 (fun hb => (gAnd (gF (gN hb)) (gT hb)))) (ifAt hx5 (fun hb => (gAnd (gF (gN hb)) (gT hb)))) rfl ?_
      refine RunR.load1G tk3 rfl rfl rfl (ifAt hx5 (fun hb => (gAnd (gF (gN hb)) (gT hb)))) rfl ?_
      refine RunR.move rfl rfl rfl ?_
      refine RunR.move rfl rfl rfl ?_
      refine RunR.indexAG se25 rfl rfl rfl rfl rfl (ifPos hx6 (fun hb => (gAnd (gF (gN hb)) (gT hb)))) (ifAt hx6 (fun hb => (gAnd (gF (gN hb)) (gT hb)))) rfl ?_
      refine RunR.load1G tk3 rfl rfl rfl (ifAt hx6 (fun hb => (gAnd (gF (gN hb)) (gT hb)))) rfl ?_
      refine RunR.int rfl rfl rfl rfl rfl ?_
      refine RunR.pickAnd rfl rfl rfl rfl ?_
      refine RunR.pickOr rfl rfl rfl rfl ?_
      refine RunR.doneQ (.cons rfl (.cons rfl (.cons rfl .nil))) ?_
      refine Wp.condM h rfl (fun hc3 h => ?_) (fun hc3 h => ?_)
      · refine Wp.seq ?_
        refine Wp.text [2] rfl rfl ?_ -- region 5
        refine TextR.assign rfl ?_
        refine TextR.done (.cons rfl .nil) ?_
        refine Wp.ret ?_
        exact ⟨_, (Option.some.inj h).symm, Ret.one rfl (resV_tmp rfl) rfl⟩
      · refine Wp.skip ?_
        refine Wp.text [0, 3] rfl rfl ?_ -- region 3
        refine TextR.move rfl ?_
        refine TextR.int rfl rfl rfl ?_
        refine TextR.assign rfl ?_
        refine TextR.done (.cons rfl (.cons rfl .nil)) ?_
        exact ⟨m1, Nat.lt_succ_self _, _, (keepW (live := [0, 3]) (.cons rfl (.cons rfl .nil))), _, h, rfl⟩
    · refine Wp.exit ?_
      exact ⟨_, (Option.some.inj h).symm, _, (keepW (live := [0]) (.cons rfl .nil)), rfl⟩
  · rintro _ ⟨z3, rfl, _, hw, rfl⟩
    dsimp only at h
    clear hz1
    refine Wp.weak hw ?_
    refine Wp.seq ?_
    refine Wp.text [2] rfl rfl ?_ -- region 6
    refine TextR.move rfl ?_
    refine TextR.lenM us25 rfl rfl ?_
    refine TextR.int rfl rfl rfl ?_
    refine TextR.assign rfl ?_
    refine TextR.done (.cons rfl .nil) ?_
    refine Wp.ret ?_
    obtain rfl := Option.some.inj h
    exact Ret.one rfl (resV_tmp rfl) rfl
  · rintro S' ⟨r2, rfl, hR⟩
    dsimp only at h
    obtain rfl := Option.some.inj h
    exact hR
theorem c_narthexref17_need (N : Nat) (a0 : List Int) (r : Bool) (h : narthexref17_need N a0 = some r) (H : List Ob) : DCall Try.prog 35 [.c (.slv (a0.map eI))] H (.c (B r)) := DCall.lift (by first | rfl | simp [-List.map_set]) (by first | rfl | simp [-List.map_set]) (fun _ => by simp [-List.map_set]) (w_narthexref17_need N a0 r h) H
-- narthex/narthexref17.Check
theorem w_narthexref17_Check (N : Nat) (a0 : TBook) (r : Bool) (h : narthexref17_Check N a0 = some r) : Nx.Call Try.prog 17 [.agg (eBook a0)] [] fun r' _ => r' = .c (B r) := by
  refine Nx.Call.of_body Try.func17 rfl en17 Try.ntmps17 rfl (fun Γ hok => ?_)
  unfold narthexref17_Check at h
  refine Wp.seq ?_
  refine Wp.text [1] rfl rfl ?_ -- region 0
  refine TextR.box (cs := [I a0.Last, .slv (a0.Sess.map eSess)]) 0 rfl rfl rfl rfl .nil ?_
  refine TextR.assign rfl ?_
  refine TextR.done (.cons rfl .nil) ?_
  refine Wp.seq ?_
  refine Wp.seq ?_
  refine Wp.go false none [[], [], [], [], [(8, false)], [(8, false)], [(8, false)], [(8, false)], []] [] [1, 13] mixed rfl rfl (by kernel_rfl) ?_ -- region 1
  refine RunR.fieldAddr fo24_0 rfl rfl rfl rfl rfl ?_
  refine RunR.load1 tk3 rfl rfl rfl rfl ?_
  refine RunR.int rfl rfl rfl rfl rfl ?_
  refine RunR.move rfl rfl rfl ?_
  refine RunR.fieldAddr fo24_1 rfl rfl rfl rfl rfl ?_
  refine RunR.load1 tk22 rfl rfl rfl rfl ?_
  refine RunR.lenM us22 rfl rfl rfl rfl ?_
  refine RunR.int rfl rfl rfl rfl rfl ?_
  refine RunR.pickOr rfl rfl rfl rfl ?_
  refine RunR.doneQ (.cons rfl (.cons rfl .nil)) ?_
  refine Wp.condM h rfl (fun hc1 h => ?_) (fun hc1 h => ?_)
  · refine Wp.seq ?_
    refine Wp.text [2] rfl rfl ?_ -- region 2
    refine TextR.assign rfl ?_
    refine TextR.done (.cons rfl .nil) ?_
    refine Wp.ret ?_
    obtain rfl := Option.some.inj h
    exact Ret.one rfl (resV_tmp rfl) rfl
  · refine Wp.skip ?_
    refine Wp.seq ?_
    refine Wp.seq ?_
    refine Wp.text [1, 3] rfl rfl ?_ -- region 3
    refine TextR.assign rfl ?_
    refine TextR.done (.cons rfl (.cons rfl .nil)) ?_
    obtain ⟨z1, hz1, h⟩ := bind_some h
    refine Wp.fragR (fun S => ∃ z3, z1 = .inr z3 ∧ ∃ S', St.Weak ⟨Try.prog, 78, Γ⟩ S S' ∧ S' = ⟨[], []⟩) (fun S => ∃ v, z1 = .inl v ∧ Ret Try.prog Try.f17 (fun r' _ => r' = .c (B v)) .ret S) ?_ ?_ ?_
    · replace h := hz1
      refine Wp.block ?_
      refine Wp.weak (keepW (live := [1, 3]) (.cons rfl (.cons rfl .nil))) ?_
      refine Wp.loop (fun m S => ∃ s3_1, narthexref17_Check_L1 N a0 m s3_1 = some z1 ∧ S = ⟨[(1, .c (.ptr 0 0 0 0)), (3, .c (I s3_1))], [.live 0 2 [[I a0.Last, .slv (a0.Sess.map eSess)]]]⟩) N ⟨_, h, rfl⟩ ?_
      rintro m1 _ ⟨s3_1, h, rfl⟩
      cases m1 with
      | zero => rw [narthexref17_Check_L1.eq_1] at h; cases h
      | succ m1 =>
      rw [narthexref17_Check_L1.eq_2] at h
      refine Wp.seq ?_
      refine Wp.seq ?_
      refine Wp.text [1, 3, 18] rfl rfl ?_ -- region 4
      refine TextR.move rfl ?_
      refine TextR.fieldAddr fo24_1 rfl rfl rfl ?_
      refine TextR.load1 tk22 rfl rfl ?_
      refine TextR.lenM us22 rfl rfl ?_
      refine TextR.int rfl rfl rfl ?_
      refine TextR.done (.cons rfl (.cons rfl (.cons rfl .nil))) ?_
      refine Wp.condM h rfl (fun hc3 h => ?_) (fun hc3 h => ?_)
      · refine Wp.skip ?_
        refine Wp.seq ?_
        refine Wp.block ?_
        refine Wp.seq ?_
        obtain ⟨x4, hx4, h⟩ := bind_some h
        refine Wp.text [1, 3, 4] rfl rfl ?_ -- region 6
        refine TextR.fieldAddr fo24_1 rfl rfl rfl ?_
        refine TextR.load1 tk22 rfl rfl ?_
        refine TextR.move rfl ?_
        refine TextR.indexA se22 rfl rfl rfl hx4 rfl ?_
        refine TextR.loadNM tk41 rfl (at_get hx4) rfl ?_
        refine TextR.alloc 1 zc41 rfl rfl (.cons .nil) ?_
        refine TextR.store1 tk41 rfl rfl rfl rfl rfl rfl (.succ .zero) ?_
        refine TextR.done (.cons rfl (.cons rfl (.cons rfl .nil))) ?_
        refine Wp.seq ?_
        refine Wp.seq ?_
        obtain ⟨x5, hx5, h⟩ := bind_some h
        obtain ⟨y6, hy6, h⟩ := bind_some h
        refine Wp.go true (some ⟨[], []⟩) [[], [], [], [], [(29, false)], [(29, false)], [(29, false)], [(29, false)], [(29, false)], [], [], [(36, false)], [(36, false)], [(36, false)], [(39, true), (36, false)], [(39, true), (36, false)], [(39, true), (36, false)], [(39, true), (36, false)], [(39, true), (36, false)], [(39, true), (36, false)], [(39, true), (36, false)], [(39, true), (36, false)], [(39, true), (36, false)], [(39, true), (36, false)], [(36, false)], [], [], [(52, false)], [(52, false)], [(52, false)], [(52, false)], [], [], [(58, false)], [(58, false)], [(58, false)], []] [] [1, 3, 4, 62] mixed rfl rfl (by kernel_rfl) ?_ -- region 7
        refine RunR.fieldAddr fo41_0 rfl rfl rfl rfl rfl ?_
        refine RunR.load1 tk3 rfl rfl rfl rfl ?_
        refine RunR.int rfl rfl rfl rfl rfl ?_
        refine RunR.move rfl rfl rfl ?_
        refine RunR.fieldAddr fo41_0 rfl rfl rfl rfl rfl ?_
        refine RunR.load1 tk3 rfl rfl rfl rfl ?_
        refine RunR.fieldAddr fo24_0 rfl rfl rfl rfl rfl ?_
        refine RunR.load1 tk3 rfl rfl rfl rfl ?_
        refine RunR.int rfl rfl rfl rfl rfl ?_
        refine RunR.pickOr rfl rfl rfl rfl ?_
        refine RunR.move rfl rfl rfl ?_
        refine RunR.move rfl rfl rfl ?_
        refine RunR.int rfl rfl rfl rfl rfl ?_
        refine RunR.move rfl rfl rfl ?_
        refine RunR.fieldAddr fo24_1 rfl rfl rfl rfl rfl ?_
        refine RunR.load1 tk22 rfl rfl rfl rfl ?_
        refine RunR.move rfl rfl rfl ?_
        refine RunR.int rfl rfl rfl rfl rfl ?_
        refine RunR.indexAG se22 rfl rfl rfl rfl rfl (ifPos hx5 (fun hb => (gAnd (gF (gN hb)) (gT hb)))) (ifAt hx5 (fun hb => (gAnd (gF (gN hb)) (gT hb)))) rfl ?_
        refine RunR.fieldAddr fo41_0 rfl rfl rfl rfl rfl ?_
        refine RunR.load1G tk3 rfl rfl rfl (ifAt hx5 (fun hb => (gAnd (gF (gN hb)) (gT hb)))) rfl ?_
        refine RunR.fieldAddr fo41_0 rfl rfl rfl rfl rfl ?_
        refine RunR.load1 tk3 rfl rfl rfl rfl ?_
        refine RunR.int rfl rfl rfl rfl rfl ?_
        refine RunR.pickAnd rfl rfl rfl rfl ?_
        refine RunR.pickOr rfl rfl rfl rfl ?_
        refine RunR.move rfl rfl rfl ?_
        refine RunR.fieldAddr fo41_1 rfl rfl rfl rfl rfl ?_
        refine RunR.load1 tk25 rfl rfl rfl rfl ?_
        refine RunR.callG rfl rfl rfl (fun hb H => c_narthexref17_need N x4.Need y6 (ifT hy6 gF hb) H) ?_
        refine RunR.not rfl rfl rfl ?_
        refine RunR.pickOr rfl rfl rfl rfl ?_
        refine RunR.move rfl rfl rfl ?_
        refine RunR.fieldAddr fo41_3 rfl rfl rfl rfl rfl ?_
        refine RunR.load1 tk3 rfl rfl rfl rfl ?_
        refine RunR.int rfl rfl rfl rfl rfl ?_
        refine RunR.pickOr rfl rfl rfl rfl ?_
        refine RunR.doneQ (.cons rfl (.cons rfl (.cons rfl (.cons rfl .nil)))) ?_
        refine Wp.condM h rfl (fun hc4 h => ?_) (fun hc4 h => ?_)
        · refine Wp.seq ?_
          refine Wp.text [2] rfl rfl ?_ -- region 8
          refine TextR.assign rfl ?_
          refine TextR.done (.cons rfl .nil) ?_
          refine Wp.ret ?_
          exact ⟨_, (Option.some.inj h).symm, Ret.one rfl (resV_tmp rfl) rfl⟩
        · refine Wp.skip ?_
          refine Wp.seq ?_
          refine Wp.seq ?_
          refine Wp.go false none [[], [], [], [], [(66, true)], [(66, true)], [(66, true)], []] [] [1, 3, 4, 70] mixed rfl rfl (by kernel_rfl) ?_ -- region 9
          refine RunR.fieldAddr fo41_2 rfl rfl rfl rfl rfl ?_
          refine RunR.load1 tk36 rfl rfl rfl rfl ?_
          refine RunR.int rfl rfl rfl rfl rfl ?_
          refine RunR.move rfl rfl rfl ?_
          refine RunR.fieldAddr fo41_3 rfl rfl rfl rfl rfl ?_
          refine RunR.load1 tk3 rfl rfl rfl rfl ?_
          refine RunR.int rfl rfl rfl rfl rfl ?_
          refine RunR.pickAnd rfl rfl rfl rfl ?_
          refine RunR.doneQ (.cons rfl (.cons rfl (.cons rfl (.cons rfl .nil)))) ?_
          refine Wp.condM h rfl (fun hc5 h => ?_) (fun hc5 h => ?_)
          · refine Wp.exit ?_
            refine Wp.text [1, 3] rfl rfl ?_ -- region 5
            refine TextR.move rfl ?_
            refine TextR.int rfl rfl rfl ?_
            refine TextR.assign rfl ?_
            refine TextR.done (.cons rfl (.cons rfl .nil)) ?_
            exact ⟨m1, Nat.lt_succ_self _, _, (St.Weak.trans (keepW (live := [1, 3]) (.cons rfl (.cons rfl .nil))) (pickT (e' := [(1, .c (.ptr 0 0 0 0)), (3, .c (I (w64 (s3_1 + 1))))]) (H' := [.live 0 2 [[I a0.Last, .slv (a0.Sess.map eSess)]]]) [0] [0, 0] 0 hok.len.symm rfl rfl (by decide) (by first | rfl | simp [-List.map_set]) (by first | rfl | simp [-List.map_set]) (by first | rfl | simp [-List.map_set]) (by first | rfl | simp [-List.map_set]))), _, h, rfl⟩
          · refine Wp.skip ?_
            refine Wp.seq ?_
            refine Wp.go false none [[], [], [], [], [(74, false)], [(74, false)], []] [] [1, 3, 77] mixed rfl rfl (by kernel_rfl) ?_ -- region 10
            refine RunR.fieldAddr fo41_2 rfl rfl rfl rfl rfl ?_
            refine RunR.load1 tk36 rfl rfl rfl rfl ?_
            refine RunR.int rfl rfl rfl rfl rfl ?_
            refine RunR.move rfl rfl rfl ?_
            refine RunR.move rfl rfl rfl ?_
            refine RunR.int rfl rfl rfl rfl rfl ?_
            refine RunR.pickOr rfl rfl rfl rfl ?_
            refine RunR.doneQ (.cons rfl (.cons rfl (.cons rfl .nil))) ?_
            refine Wp.condM h rfl (fun hc6 h => ?_) (fun hc6 h => ?_)
            · refine Wp.seq ?_
              refine Wp.text [2] rfl rfl ?_ -- region 11
              refine TextR.assign rfl ?_
              refine TextR.done (.cons rfl .nil) ?_
              refine Wp.ret ?_
              exact ⟨_, (Option.some.inj h).symm, Ret.one rfl (resV_tmp rfl) rfl⟩
            · refine Wp.skip ?_
              refine Wp.text [1, 3] rfl rfl ?_ -- region 5
              refine TextR.move rfl ?_
              refine TextR.int rfl rfl rfl ?_
              refine TextR.assign rfl ?_
              refine TextR.done (.cons rfl (.cons rfl .nil)) ?_
              exact ⟨m1, Nat.lt_succ_self _, _, (St.Weak.trans (keepW (live := [1, 3]) (.cons rfl (.cons rfl .nil))) (pickT (e' := [(1, .c (.ptr 0 0 0 0)), (3, .c (I (w64 (s3_1 + 1))))]) (H' := [.live 0 2 [[I a0.Last, .slv (a0.Sess.map eSess)]]]) [0] [0, 0] 0 hok.len.symm rfl rfl (by decide) (by first | rfl | simp [-List.map_set]) (by first | rfl | simp [-List.map_set]) (by first | rfl | simp [-List.map_set]) (by first | rfl | simp [-List.map_set]))), _, h, rfl⟩
      · refine Wp.exit ?_
        exact ⟨_, (Option.some.inj h).symm, _, (St.Weak.trans (keepW (live := []) .nil) (pickT (e' := []) (H' := []) [] [0] 0 hok.len.symm rfl rfl (by decide) (by first | rfl | simp [-List.map_set]) (by first | rfl | simp [-List.map_set]) (by first | rfl | simp [-List.map_set]) (by first | rfl | simp [-List.map_set]))), rfl⟩
    · rintro _ ⟨z3, rfl, _, hw, rfl⟩
      dsimp only at h
      clear hz1
      refine Wp.weak hw ?_
      refine Wp.seq ?_
      refine Wp.text [2] rfl rfl ?_ -- region 12
      refine TextR.assign rfl ?_
      refine TextR.done (.cons rfl .nil) ?_
      refine Wp.ret ?_
      obtain rfl := Option.some.inj h
      exact Ret.one rfl (resV_tmp rfl) rfl
    · rintro S' ⟨r2, rfl, hR⟩
      dsimp only at h
      obtain rfl := Option.some.inj h
      exact hR
theorem c_narthexref17_Check (N : Nat) (a0 : TBook) (r : Bool) (h : narthexref17_Check N a0 = some r) (H : List Ob) : DCall Try.prog 17 [.agg (eBook a0)] H (.c (B r)) := DCall.lift (by first | rfl | simp [-List.map_set]) (by first | rfl | simp [-List.map_set]) (fun _ => by simp [-List.map_set]) (w_narthexref17_Check N a0 r h) H
-- narthex/narthexref01.Has
theorem w_narthexref01_Has (N : Nat) (a0 : List Int) (a1 : Int) (r : Bool) (h : narthexref01_Has N a0 a1 = some r) : Nx.Call Try.prog 22 [.c (.slv (a0.map eI)), .c (I a1)] [] fun r' _ => r' = .c (B r) := by
  refine Nx.Call.of_body Try.func22 rfl en22 Try.ntmps22 rfl (fun Γ hok => ?_)
  unfold narthexref01_Has at h
  refine Wp.seq ?_
  refine Wp.text [0, 1] rfl rfl ?_ -- region 0
  refine TextR.assign rfl ?_
  refine TextR.done (.cons rfl (.cons rfl .nil)) ?_
  refine Wp.seq ?_
  refine Wp.seq ?_
  refine Wp.text [0, 1, 5] rfl rfl ?_ -- region 1
  refine TextR.assign rfl ?_
  refine TextR.done (.cons rfl (.cons rfl (.cons rfl .nil))) ?_
  obtain ⟨z1, hz1, h⟩ := bind_some h
  refine Wp.fragR (fun S => ∃ z3, z1 = .inr z3 ∧ ∃ S', St.Weak ⟨Try.prog, 18, Γ⟩ S S' ∧ S' = ⟨[], []⟩) (fun S => ∃ v, z1 = .inl v ∧ Ret Try.prog Try.f22 (fun r' _ => r' = .c (B v)) .ret S) ?_ ?_ ?_
  · replace h := hz1
    refine Wp.block ?_
    refine Wp.weak (keepW (live := [0, 1, 5]) (.cons rfl (.cons rfl (.cons rfl .nil)))) ?_
    refine Wp.loop (fun m S => ∃ s5_1, narthexref01_Has_L1 N a0 a1 m s5_1 = some z1 ∧ S = ⟨[(0, .c (.slv (a0.map eI))), (1, .c (I a1)), (5, .c (I s5_1))], []⟩) N ⟨_, h, rfl⟩ ?_
    rintro m1 _ ⟨s5_1, h, rfl⟩
    cases m1 with
    | zero => rw [narthexref01_Has_L1.eq_1] at h; cases h
    | succ m1 =>
    rw [narthexref01_Has_L1.eq_2] at h
    refine Wp.seq ?_
    refine Wp.seq ?_
    refine Wp.text [0, 1, 5, 9] rfl rfl ?_ -- region 2
    refine TextR.move rfl ?_
    refine TextR.move rfl ?_
    refine TextR.lenM us25 rfl rfl ?_
    refine TextR.int rfl rfl rfl ?_
    refine TextR.done (.cons rfl (.cons rfl (.cons rfl (.cons rfl .nil)))) ?_
    refine Wp.condM h rfl (fun hc2 h => ?_) (fun hc2 h => ?_)
    · refine Wp.skip ?_
      refine Wp.seq ?_
      refine Wp.block ?_
      refine Wp.seq ?_
      obtain ⟨x4, hx4, h⟩ := bind_some h
      refine Wp.text [0, 1, 5, 17] rfl rfl ?_ -- region 4
      refine TextR.move rfl ?_
      refine TextR.move rfl ?_
      refine TextR.indexA se25 rfl rfl rfl hx4 rfl ?_
      refine TextR.load1M tk3 rfl (at_get hx4) rfl ?_
      refine TextR.move rfl ?_
      refine TextR.int rfl rfl rfl ?_
      refine TextR.done (.cons rfl (.cons rfl (.cons rfl (.cons rfl .nil)))) ?_
      refine Wp.condM h rfl (fun hc3 h => ?_) (fun hc3 h => ?_)
      · refine Wp.seq ?_
        refine Wp.text [4] rfl rfl ?_ -- region 5
        refine TextR.assign rfl ?_
        refine TextR.done (.cons rfl .nil) ?_
        refine Wp.ret ?_
        exact ⟨_, (Option.some.inj h).symm, Ret.one rfl (resV_tmp rfl) rfl⟩
      · refine Wp.skip ?_
        refine Wp.text [0, 1, 5] rfl rfl ?_ -- region 3
        refine TextR.move rfl ?_
        refine TextR.int rfl rfl rfl ?_
        refine TextR.assign rfl ?_
        refine TextR.done (.cons rfl (.cons rfl (.cons rfl .nil))) ?_
        exact ⟨m1, Nat.lt_succ_self _, _, (keepW (live := [0, 1, 5]) (.cons rfl (.cons rfl (.cons rfl .nil)))), _, h, rfl⟩
    · refine Wp.exit ?_
      exact ⟨_, (Option.some.inj h).symm, _, (keepW (live := []) .nil), rfl⟩
  · rintro _ ⟨z3, rfl, _, hw, rfl⟩
    dsimp only at h
    clear hz1
    refine Wp.weak hw ?_
    refine Wp.seq ?_
    refine Wp.text [4] rfl rfl ?_ -- region 6
    refine TextR.assign rfl ?_
    refine TextR.done (.cons rfl .nil) ?_
    refine Wp.ret ?_
    obtain rfl := Option.some.inj h
    exact Ret.one rfl (resV_tmp rfl) rfl
  · rintro S' ⟨r2, rfl, hR⟩
    dsimp only at h
    obtain rfl := Option.some.inj h
    exact hR
theorem c_narthexref01_Has (N : Nat) (a0 : List Int) (a1 : Int) (r : Bool) (h : narthexref01_Has N a0 a1 = some r) (H : List Ob) : DCall Try.prog 22 [.c (.slv (a0.map eI)), .c (I a1)] H (.c (B r)) := DCall.lift (by first | rfl | simp [-List.map_set]) (by first | rfl | simp [-List.map_set]) (fun _ => by simp [-List.map_set]) (w_narthexref01_Has N a0 a1 r h) H
-- narthex/narthexref01.Place
theorem w_narthexref01_Place (N : Nat) (a0 : List Int) (a1 : Int) (r : Int) (h : narthexref01_Place N a0 a1 = some r) : Nx.Call Try.prog 60 [.c (.slv (a0.map eI)), .c (I a1)] [] fun r' _ => r' = .c (I r) := by
  refine Nx.Call.of_body Try.func60 rfl en60 Try.ntmps60 rfl (fun Γ hok => ?_)
  unfold narthexref01_Place at h
  refine Wp.seq ?_
  refine Wp.text [0, 1] rfl rfl ?_ -- region 0
  refine TextR.assign rfl ?_
  refine TextR.done (.cons rfl (.cons rfl .nil)) ?_
  refine Wp.seq ?_
  refine Wp.text [0, 1, 5] rfl rfl ?_ -- region 1
  refine TextR.assign rfl ?_
  refine TextR.done (.cons rfl (.cons rfl (.cons rfl .nil))) ?_
  refine Wp.seq ?_
  refine Wp.seq ?_
  refine Wp.text [0, 1, 5, 6] rfl rfl ?_ -- region 2
  refine TextR.assign rfl ?_
  refine TextR.done (.cons rfl (.cons rfl (.cons rfl (.cons rfl .nil)))) ?_
  obtain ⟨z1, hz1, h⟩ := bind_some h
  refine Wp.fragN (fun S => ∃ S', St.Weak ⟨Try.prog, 33, Γ⟩ S S' ∧ S' = ⟨[(5, .c (I z1))], []⟩) ?_ ?_
  · replace h := hz1
    refine Wp.block ?_
    refine Wp.weak (keepW (live := [0, 1, 5, 6]) (.cons rfl (.cons rfl (.cons rfl (.cons rfl .nil))))) ?_
    refine Wp.loop (fun m S => ∃ s5_1, ∃ s6_1, narthexref01_Place_L1 N a0 a1 m s5_1 s6_1 = some z1 ∧ S = ⟨[(0, .c (.slv (a0.map eI))), (1, .c (I a1)), (5, .c (I s5_1)), (6, .c (I s6_1))], []⟩) N ⟨_, _, h, rfl⟩ ?_
    rintro m1 _ ⟨s5_1, s6_1, h, rfl⟩
    cases m1 with
    | zero => rw [narthexref01_Place_L1.eq_1] at h; cases h
    | succ m1 =>
    rw [narthexref01_Place_L1.eq_2] at h
    refine Wp.seq ?_
    refine Wp.seq ?_
    refine Wp.text [0, 1, 5, 6, 10] rfl rfl ?_ -- region 3
    refine TextR.move rfl ?_
    refine TextR.move rfl ?_
    refine TextR.lenM us25 rfl rfl ?_
    refine TextR.int rfl rfl rfl ?_
    refine TextR.done (.cons rfl (.cons rfl (.cons rfl (.cons rfl (.cons rfl .nil))))) ?_
    refine Wp.condM h rfl (fun hc2 h => ?_) (fun hc2 h => ?_)
    · refine Wp.skip ?_
      refine Wp.seq ?_
      refine Wp.block ?_
      refine Wp.seq ?_
      obtain ⟨x2, hx2, h⟩ := bind_some h
      obtain ⟨x3, hx3, h⟩ := bind_some h
      obtain ⟨x4, hx4, h⟩ := bind_some h
      obtain ⟨y5, hy5, h⟩ := bind_some h
      refine Wp.go true (some ⟨[], []⟩) [[], [], [], [], [], [], [], [(19, true)], [(19, true)], [(19, true)], [(19, true)], [(19, true)], [(19, true)], [(19, true)], [(19, true)], [(19, true)], []] [] [0, 1, 5, 6, 29] mixed rfl rfl (by kernel_rfl) ?_ -- region 5
      refine RunR.move rfl rfl rfl ?_
      refine RunR.move rfl rfl rfl ?_
      refine RunR.indexA se25 rfl rfl rfl rfl rfl hx2 rfl ?_
      refine RunR.load1M tk3 rfl rfl rfl (at_get hx2) rfl ?_
      refine RunR.move rfl rfl rfl ?_
      refine RunR.int rfl rfl rfl rfl rfl ?_
      refine RunR.move rfl rfl rfl ?_
      refine RunR.move rfl rfl rfl ?_
      refine RunR.move rfl rfl rfl ?_
      refine RunR.sliceMG se25 rfl rfl rfl rfl rfl rfl rfl (ifT hx3 gT) (fun _ => rfl) ?_
      refine RunR.move rfl rfl rfl ?_
      refine RunR.move rfl rfl rfl ?_
      refine RunR.indexAG se25 rfl rfl rfl rfl rfl (ifPos hx4 gT) (ifAt hx4 gT) rfl ?_
      refine RunR.load1G tk3 rfl rfl rfl (ifAt hx4 gT) rfl ?_
      refine RunR.callG rfl rfl rfl (fun hb H => c_narthexref01_Has N x3 x4 y5 (ifT hy5 gT hb) H) ?_
      refine RunR.not rfl rfl rfl ?_
      refine RunR.pickAnd rfl rfl rfl rfl ?_
      refine RunR.doneQ (.cons rfl (.cons rfl (.cons rfl (.cons rfl (.cons rfl .nil))))) ?_
      refine Wp.condM h rfl (fun hc3 h => ?_) (fun hc3 h => ?_)
      · refine Wp.text [0, 1, 5, 6] rfl rfl ?_ -- region 6
        refine TextR.move rfl ?_
        refine TextR.int rfl rfl rfl ?_
        refine TextR.assign rfl ?_
        refine TextR.done (.cons rfl (.cons rfl (.cons rfl (.cons rfl .nil)))) ?_
        refine Wp.text [0, 1, 5, 6] rfl rfl ?_ -- region 4
        refine TextR.move rfl ?_
        refine TextR.int rfl rfl rfl ?_
        refine TextR.assign rfl ?_
        refine TextR.done (.cons rfl (.cons rfl (.cons rfl (.cons rfl .nil)))) ?_
        exact ⟨m1, Nat.lt_succ_self _, _, (keepW (live := [0, 1, 5, 6]) (.cons rfl (.cons rfl (.cons rfl (.cons rfl .nil))))), _, _, h, rfl⟩
      · refine Wp.skip ?_
        refine Wp.text [0, 1, 5, 6] rfl rfl ?_ -- region 4
        refine TextR.move rfl ?_
        refine TextR.int rfl rfl rfl ?_
        refine TextR.assign rfl ?_
        refine TextR.done (.cons rfl (.cons rfl (.cons rfl (.cons rfl .nil)))) ?_
        exact ⟨m1, Nat.lt_succ_self _, _, (keepW (live := [0, 1, 5, 6]) (.cons rfl (.cons rfl (.cons rfl (.cons rfl .nil))))), _, _, h, rfl⟩
    · refine Wp.exit ?_
      obtain rfl := Option.some.inj h
      exact ⟨_, (keepW (live := [5]) (.cons rfl .nil)), rfl⟩
  rintro _ ⟨S', hw, rfl⟩
  clear hz1
  refine Wp.weak hw ?_
  refine Wp.seq ?_
  refine Wp.text [4] rfl rfl ?_ -- region 7
  refine TextR.move rfl ?_
  refine TextR.assign rfl ?_
  refine TextR.done (.cons rfl .nil) ?_
  refine Wp.ret ?_
  obtain rfl := Option.some.inj h
  exact Ret.one rfl (resV_tmp rfl) rfl
-- narthex/narthexref01.Of
theorem w_narthexref01_Of (N : Nat) (a0 : List Int) (r : (List Int)) (h : narthexref01_Of N a0 = some r) : Nx.Call Try.prog 48 [.c (.slv (a0.map eI))] [] fun r' _ => r' = .c (.slv (r.map eI)) := by
  refine Nx.Call.of_body Try.func48 rfl en48 Try.ntmps48 rfl (fun Γ hok => ?_)
  unfold narthexref01_Of at h
  refine Wp.seq ?_
  refine Wp.text [0] rfl rfl ?_ -- region 0
  refine TextR.assign rfl ?_
  refine TextR.done (.cons rfl .nil) ?_
  refine Wp.seq ?_
  refine Wp.text [0, 3] rfl rfl ?_ -- region 1
  refine TextR.buildSlice  0 se25 rfl rfl rfl .nil ?_
  refine TextR.assign rfl ?_
  refine TextR.done (.cons rfl (.cons rfl .nil)) ?_
  refine Wp.seq ?_
  refine Wp.seq ?_
  refine Wp.text [0, 3, 4] rfl rfl ?_ -- region 2
  refine TextR.assign rfl ?_
  refine TextR.done (.cons rfl (.cons rfl (.cons rfl .nil))) ?_
  obtain ⟨z1, hz1, h⟩ := bind_some h
  refine Wp.fragN (fun S => ∃ wz1_0, ∃ S', St.Weak ⟨Try.prog, 41, Γ⟩ S S' ∧ S' = ⟨[(3, .c (.sl 0 wz1_0 0 z1.length))], [.live wz1_0 1 (z1.map eI)]⟩) ?_ ?_
  · replace h := hz1
    refine Wp.block ?_
    refine Wp.weak (keepW (live := [0, 3, 4]) (.cons rfl (.cons rfl (.cons rfl .nil)))) ?_
    refine Wp.loop (fun m S => ∃ l0_1, ∃ s4_1, ∃ wh0_1, narthexref01_Of_L1 N a0 m l0_1 s4_1 = some z1 ∧ S = ⟨[(0, .c (.slv (a0.map eI))), (3, .c (.sl 0 wh0_1 0 l0_1.length)), (4, .c (I s4_1))], [.live wh0_1 1 (l0_1.map eI)]⟩) N ⟨_, _, _, h, rfl⟩ ?_
    rintro m1 _ ⟨l0_1, s4_1, wh0_1, h, rfl⟩
    cases m1 with
    | zero => rw [narthexref01_Of_L1.eq_1] at h; cases h
    | succ m1 =>
    rw [narthexref01_Of_L1.eq_2] at h
    refine Wp.seq ?_
    refine Wp.seq ?_
    refine Wp.text [0, 3, 4, 10] rfl rfl ?_ -- region 3
    refine TextR.move rfl ?_
    refine TextR.move rfl ?_
    refine TextR.lenM us25 rfl rfl ?_
    refine TextR.int rfl rfl rfl ?_
    refine TextR.done (.cons rfl (.cons rfl (.cons rfl (.cons rfl .nil)))) ?_
    refine Wp.condM h rfl (fun hc2 h => ?_) (fun hc2 h => ?_)
    · refine Wp.skip ?_
      refine Wp.seq ?_
      refine Wp.block ?_
      refine Wp.seq ?_
      refine Wp.seq ?_
      obtain ⟨x2, hx2, h⟩ := bind_some h
      obtain ⟨y3, hy3, h⟩ := bind_some h
      refine Wp.text [0, 3, 4, 18] rfl rfl ?_ -- region 5
      refine TextR.move rfl ?_
      refine TextR.move rfl ?_
      refine TextR.move rfl ?_
      refine TextR.indexA se25 rfl rfl rfl hx2 rfl ?_
      refine TextR.load1M tk3 rfl (at_get hx2) rfl ?_
      refine TextR.dcall rfl rfl (DCall.borrow (fs := [.c (.slv (l0_1.map eI)), .c (I x2)]) (by simp [-List.map_set, obj, List.take_of_length_le]) (by first | rfl | simp [-List.map_set]) rfl (w_narthexref01_Has N l0_1 x2 y3 hy3)) ?_
      refine TextR.done (.cons rfl (.cons rfl (.cons rfl (.cons rfl .nil)))) ?_
      refine Wp.condM h rfl (fun hc3 h => ?_) (fun hc3 h => ?_)
      · refine Wp.exit ?_
        refine Wp.text [0, 3, 4] rfl rfl ?_ -- region 4
        refine TextR.move rfl ?_
        refine TextR.int rfl rfl rfl ?_
        refine TextR.assign rfl ?_
        refine TextR.done (.cons rfl (.cons rfl (.cons rfl .nil))) ?_
        exact ⟨m1, Nat.lt_succ_self _, _, (keepW (live := [0, 3, 4]) (.cons rfl (.cons rfl (.cons rfl .nil)))), _, _, _, h, rfl⟩
      · refine Wp.skip ?_
        refine Wp.seq ?_
        obtain ⟨x4, hx4, h⟩ := bind_some h
        obtain ⟨y5, hy5, h⟩ := bind_some h
        refine Wp.text [0, 3, 4, 5] rfl rfl ?_ -- region 6
        refine TextR.move rfl ?_
        refine TextR.move rfl ?_
        refine TextR.move rfl ?_
        refine TextR.indexA se25 rfl rfl rfl hx4 rfl ?_
        refine TextR.load1M tk3 rfl (at_get hx4) rfl ?_
        refine TextR.dcall rfl rfl (DCall.borrow (fs := [.c (.slv (l0_1.map eI)), .c (I x4)]) (by simp [-List.map_set, obj, List.take_of_length_le]) (by first | rfl | simp [-List.map_set]) rfl (w_narthexref01_Place N l0_1 x4 y5 hy5)) ?_
        refine TextR.assign rfl ?_
        refine TextR.done (.cons rfl (.cons rfl (.cons rfl (.cons rfl .nil)))) ?_
        obtain ⟨x6, hx6, h⟩ := bind_some h
        obtain ⟨x7, hx7, h⟩ := bind_some h
        obtain ⟨x8, hx8, h⟩ := bind_some h
        obtain ⟨x9, hx9, h⟩ := bind_some h
        obtain ⟨x10, hx10, h⟩ := bind_some h
        obtain ⟨x11, hx11, h⟩ := bind_some h
        refine Wp.ways (S0 := ⟨[(0, .c (.slv (a0.map eI))), (3, .c (.sl 1 3 0 x11.length)), (4, .c (I s4_1))], [.live wh0_1 1 (l0_1.map eI), .live 3 1 (x11.map eI), .live 0 1 ([x8].map eI)]⟩) mixed ?_ ?_ -- region 7 WAYS
        · refine RegAny.fork 9 4 [0, 1, 2, 3, 4, 5, 6, 7, 8, 9, 10, 11, 12, 13, 14, 15] [0, 1, 2, 3, 5, 6, 7, 8, 9, 4, 10, 11, 12, 13, 14, 15] rfl rfl [4, 9, 10, 14, 15] rfl (by kernel_rfl) ?_ ?_
          · refine RegAny.leaf ⟨[1, 2], []⟩ [[], [], [], [], [], [], [], [], [], [], [], [], [], [], [], []] [false, true, true, true, false, true, true, true, true, false, false, true, true, true, false, false] [0, 3, 4] rfl (by kernel_rfl) rfl ?_
            refine RunR.buildSlice  1 se25 rfl rfl rfl rfl rfl (.cons .nil) ?_
            refine RunR.move rfl rfl rfl ?_
            refine RunR.move rfl rfl rfl ?_
            refine RunR.sliceOM se25 rfl rfl rfl rfl rfl (obj_of rfl) rfl rfl hx6 ?_
            refine RunR.appendM eI ([] : List Int) ((l0_1.drop 0).take x6.length) x7 (app_eq hx7) se25 rfl rfl rfl rfl rfl (view_piece (f := eI) (xs := l0_1) (obj_of rfl) (by have q0 := sub_le hx6; first | exact q0 | (simp only [List.length_set, List.length_take, List.length_drop, length_cpy, length_clr] at *; omega))) (fun _ => rfl) rfl (app_len hx7) (.succ .zero) ?_
            refine RunR.move rfl rfl rfl ?_
            refine RunR.move rfl rfl rfl ?_
            refine RunR.indexA se25 rfl rfl rfl rfl rfl hx8 rfl ?_
            refine RunR.load1M tk3 rfl rfl rfl (at_get hx8) rfl ?_
            refine RunR.buildSlice (rows := [x8].map eI) 2 se25 rfl rfl rfl rfl rfl (.cons (.cons .nil)) ?_
            refine RunR.appendM eI x7 [x8] x9 (app_eq hx9) se25 rfl rfl rfl rfl rfl (view_whole (f := eI) (xs := [x8]) rfl) (fun _ => rfl) rfl (app_len hx9) (.succ .zero) ?_
            refine RunR.move rfl rfl rfl ?_
            refine RunR.move rfl rfl rfl ?_
            refine RunR.sliceOM se25 rfl rfl rfl rfl rfl (obj_of rfl) rfl rfl hx10 ?_
            refine RunR.appendM eI x9 ((l0_1.drop (Int.toNat y5)).take x10.length) x11 (app_eq hx11) se25 rfl rfl rfl rfl rfl (view_piece (f := eI) (xs := l0_1) (obj_of rfl) (by have q0 := sub_le hx10; first | exact q0 | (simp only [List.length_set, List.length_take, List.length_drop, length_cpy, length_clr] at *; omega))) (fun _ => rfl) rfl (app_len hx11) (.succ .zero) ?_
            refine RunR.assign rfl rfl rfl ?_
            refine RunR.nil ⟨_, (.cons rfl (.cons rfl (.cons rfl .nil))), .refl⟩
          · refine RegAny.fork 8 0 [0, 1, 2, 3, 4, 5, 6, 7, 8, 9, 10, 11, 12, 13, 14, 15] [1, 2, 3, 4, 5, 6, 7, 8, 0, 9, 10, 11, 12, 13, 14, 15] rfl rfl [0, 8, 9, 10, 14, 15] rfl (by kernel_rfl) ?_ ?_
            · refine RegAny.leaf ⟨[1, 2], []⟩ [[], [], [], [], [], [], [], [], [], [], [], [], [], [], [], []] [false, true, true, true, true, true, true, true, false, false, false, true, true, true, false, false] [0, 3, 4] rfl (by kernel_rfl) rfl ?_
              refine RunR.buildSlice  1 se25 rfl rfl rfl rfl rfl (.cons .nil) ?_
              refine RunR.move rfl rfl rfl ?_
              refine RunR.move rfl rfl rfl ?_
              refine RunR.sliceOM se25 rfl rfl rfl rfl rfl (obj_of rfl) rfl rfl hx6 ?_
              refine RunR.move rfl rfl rfl ?_
              refine RunR.move rfl rfl rfl ?_
              refine RunR.indexA se25 rfl rfl rfl rfl rfl hx8 rfl ?_
              refine RunR.load1M tk3 rfl rfl rfl (at_get hx8) rfl ?_
              refine RunR.buildSlice (rows := [x8].map eI) 2 se25 rfl rfl rfl rfl rfl (.cons (.cons .nil)) ?_
              refine RunR.appendM eI ([] : List Int) ((l0_1.drop 0).take x6.length) x7 (app_eq hx7) se25 rfl rfl rfl rfl rfl (view_piece (f := eI) (xs := l0_1) (obj_of rfl) (by have q0 := sub_le hx6; first | exact q0 | (simp only [List.length_set, List.length_take, List.length_drop, length_cpy, length_clr] at *; omega))) (fun _ => rfl) rfl (app_len hx7) (.succ .zero) ?_
              refine RunR.appendM eI x7 [x8] x9 (app_eq hx9) se25 rfl rfl rfl rfl rfl (view_whole (f := eI) (xs := [x8]) rfl) (fun _ => rfl) rfl (app_len hx9) (.succ .zero) ?_
              refine RunR.move rfl rfl rfl ?_
              refine RunR.move rfl rfl rfl ?_
              refine RunR.sliceOM se25 rfl rfl rfl rfl rfl (obj_of rfl) rfl rfl hx10 ?_
              refine RunR.appendM eI x9 ((l0_1.drop (Int.toNat y5)).take x10.length) x11 (app_eq hx11) se25 rfl rfl rfl rfl rfl (view_piece (f := eI) (xs := l0_1) (obj_of rfl) (by have q0 := sub_le hx10; first | exact q0 | (simp only [List.length_set, List.length_take, List.length_drop, length_cpy, length_clr] at *; omega))) (fun _ => rfl) rfl (app_len hx11) (.succ .zero) ?_
              refine RunR.assign rfl rfl rfl ?_
              refine RunR.nil ⟨_, (.cons rfl (.cons rfl (.cons rfl .nil))), .refl⟩
            · refine RegAny.leaf ⟨[1, 2], []⟩ [[], [], [], [], [], [], [], [], [], [], [], [], [], [], [], []] [true, true, true, false, false, false, false, false, false, false, false, true, true, true, false, false] [0, 3, 4] rfl (by kernel_rfl) rfl ?_
              refine RunR.move rfl rfl rfl ?_
              refine RunR.move rfl rfl rfl ?_
              refine RunR.sliceOM se25 rfl rfl rfl rfl rfl (obj_of rfl) rfl rfl hx6 ?_
              refine RunR.move rfl rfl rfl ?_
              refine RunR.move rfl rfl rfl ?_
              refine RunR.indexA se25 rfl rfl rfl rfl rfl hx8 rfl ?_
              refine RunR.load1M tk3 rfl rfl rfl (at_get hx8) rfl ?_
              refine RunR.buildSlice (rows := [x8].map eI) 1 se25 rfl rfl rfl rfl rfl (.cons .nil) ?_
              refine RunR.buildSlice  2 se25 rfl rfl rfl rfl rfl (.cons (.cons .nil)) ?_
              refine RunR.appendM eI ([] : List Int) ((l0_1.drop 0).take x6.length) x7 (app_eq hx7) se25 rfl rfl rfl rfl rfl (view_piece (f := eI) (xs := l0_1) (obj_of rfl) (by have q0 := sub_le hx6; first | exact q0 | (simp only [List.length_set, List.length_take, List.length_drop, length_cpy, length_clr] at *; omega))) (fun _ => rfl) rfl (app_len hx7) (.succ (.succ .zero)) ?_
              refine RunR.appendM eI x7 [x8] x9 (app_eq hx9) se25 rfl rfl rfl rfl rfl (view_whole (f := eI) (xs := [x8]) rfl) (fun _ => rfl) rfl (app_len hx9) (.succ (.succ .zero)) ?_
              refine RunR.move rfl rfl rfl ?_
              refine RunR.move rfl rfl rfl ?_
              refine RunR.sliceOM se25 rfl rfl rfl rfl rfl (obj_of rfl) rfl rfl hx10 ?_
              refine RunR.appendM eI x9 ((l0_1.drop (Int.toNat y5)).take x10.length) x11 (app_eq hx11) se25 rfl rfl rfl rfl rfl (view_piece (f := eI) (xs := l0_1) (obj_of rfl) (by have q0 := sub_le hx10; first | exact q0 | (simp only [List.length_set, List.length_take, List.length_drop, length_cpy, length_clr] at *; omega))) (fun _ => rfl) rfl (app_len hx11) (.succ (.succ .zero)) ?_
              refine RunR.assign rfl rfl rfl ?_
              refine RunR.nil ⟨_, (.cons rfl (.cons rfl (.cons rfl .nil))), (pickT (e' := [(0, .c (.slv (a0.map eI))), (3, .c (.sl 1 3 0 x11.length)), (4, .c (I s4_1))]) (H' := [.live wh0_1 1 (l0_1.map eI), .live 3 1 (x11.map eI), .live 0 1 ([x8].map eI)]) [0, 2, 1] [0, 2, 1] 0 hok.len.symm rfl rfl (by decide) (by first | rfl | simp [-List.map_set]) (by first | rfl | simp [-List.map_set]) (by first | rfl | simp [-List.map_set]) (by first | rfl | simp [-List.map_set]))⟩
        refine Wp.text [0, 3, 4] rfl rfl ?_ -- region 4
        refine TextR.move rfl ?_
        refine TextR.int rfl rfl rfl ?_
        refine TextR.assign rfl ?_
        refine TextR.done (.cons rfl (.cons rfl (.cons rfl .nil))) ?_
        exact ⟨m1, Nat.lt_succ_self _, _, (St.Weak.trans (keepW (live := [0, 3, 4]) (.cons rfl (.cons rfl (.cons rfl .nil)))) (pickT (e' := [(0, .c (.slv (a0.map eI))), (3, .c (.sl 0 3 0 x11.length)), (4, .c (I (w64 (s4_1 + 1))))]) (H' := [.live 3 1 (x11.map eI)]) [1] [0, 0, 0] 0 hok.len.symm rfl rfl (by decide) (by first | rfl | simp [-List.map_set]) (by first | rfl | simp [-List.map_set]) (by first | rfl | simp [-List.map_set]) (by first | rfl | simp [-List.map_set]))), _, _, _, h, rfl⟩
    · refine Wp.exit ?_
      obtain rfl := Option.some.inj h
      exact ⟨_, _, (keepW (live := [3]) (.cons rfl .nil)), rfl⟩
  rintro _ ⟨wz1_0, S', hw, rfl⟩
  clear hz1
  refine Wp.weak hw ?_
  refine Wp.seq ?_
  refine Wp.text [2] rfl rfl ?_ -- region 8
  refine TextR.move rfl ?_
  refine TextR.assign rfl ?_
  refine TextR.done (.cons rfl .nil) ?_
  refine Wp.weak (keepW (live := [2] ) (.cons rfl .nil)) ?_
  refine Wp.weak (freezeW (h := 0) (ver := wz1_0) (rows := z1.map eI) (e' := [(2, .c (.slv (z1.map eI)))]) (H' := [.dead]) (obj_of rfl) (by first | rfl | simp [-List.map_set]) (by first | rfl | simp [-List.map_set])) ?_
  refine Wp.ret ?_
  obtain rfl := Option.some.inj h
  exact Ret.one rfl (resV_tmp rfl) rfl
theorem c_narthexref01_Of (N : Nat) (a0 : List Int) (r : (List Int)) (h : narthexref01_Of N a0 = some r) (H : List Ob) : DCall Try.prog 48 [.c (.slv (a0.map eI))] H (.c (.slv (r.map eI))) := DCall.lift (by first | rfl | simp [-List.map_set]) (by first | rfl | simp [-List.map_set]) (fun _ => by simp [-List.map_set]) (w_narthexref01_Of N a0 r h) H
-- narthex/narthexref17.Open
theorem w_narthexref17_Open (N : Nat) (a0 : TBook) (a1 : Int) (a2 : List Int) (r : TBook × Int) (h : narthexref17_Open N a0 a1 a2 = some r) : Nx.Call Try.prog 29 [.agg (eBook a0), .c (I a1), .c (.slv (a2.map eI))] [] fun r' _ => r' = .tup [.agg (eBook r.1), .c (I r.2)] := by
  refine Nx.Call.of_body Try.func29 rfl en29 Try.ntmps29 rfl (fun Γ hok => ?_)
  unfold narthexref17_Open at h
  refine Wp.seq ?_
  refine Wp.text [1, 2, 3, 6] rfl rfl ?_ -- region 0
  refine TextR.box (cs := [I a0.Last, .slv (a0.Sess.map eSess)]) 0 rfl rfl rfl rfl .nil ?_
  refine TextR.alloc 1 zc24 rfl rfl (.cons .nil) ?_
  refine TextR.assign rfl ?_
  refine TextR.done (.cons rfl (.cons rfl (.cons rfl (.cons rfl .nil)))) ?_
  refine Wp.seq ?_
  refine Wp.seq ?_
  obtain ⟨y1, hy1, h⟩ := bind_some h
  refine Wp.text [1, 2, 3, 6, 10] rfl rfl ?_ -- region 1
  refine TextR.loadN (cs := [I a0.Last, .slv (a0.Sess.map eSess)]) tk24 rfl rfl ?_
  refine TextR.dcall rfl rfl (c_narthexref17_Check N a0 y1 hy1 _) ?_
  refine TextR.not rfl ?_
  refine TextR.done (.cons rfl (.cons rfl (.cons rfl (.cons rfl (.cons rfl .nil))))) ?_
  refine Wp.condM h rfl (fun hc1 h => ?_) (fun hc1 h => ?_)
  · refine Wp.seq ?_
    refine Wp.text [6, 7] rfl rfl ?_ -- region 2
    refine TextR.build cm24 rfl ?_
    refine TextR.store1 tk24 rfl rfl rfl rfl rfl rfl (.succ .zero) ?_
    refine TextR.assign rfl ?_
    refine TextR.done (.cons rfl (.cons rfl .nil)) ?_
    refine Wp.weak (keepW (live := [6, 7] ) (.cons rfl (.cons rfl .nil))) ?_
    refine Wp.weak (nzT (e' := [(6, .c (.ptr 1 0 0 0)), (7, .c (I 170))]) (H' := [.live 0 2 [[I a0.Last, .slv (a0.Sess.map eSess)]], .live 0 2 [[I 0, .slv ([].map eSess)]]]) (by first | rfl | simp [-List.map_set]) (by first | rfl | simp [-List.map_set])) ?_
    refine Wp.ret ?_
    obtain rfl := Option.some.inj h
    exact Ret.two rfl (resV_cellN tk24 rfl rfl) (resV_tmp rfl) rfl
  · refine Wp.skip ?_
    refine Wp.seq ?_
    refine Wp.seq ?_
    refine Wp.text [1, 2, 3, 6, 15] rfl rfl ?_ -- region 3
    refine TextR.move rfl ?_
    refine TextR.fieldAddr fo24_0 rfl rfl rfl ?_
    refine TextR.load1 tk3 rfl rfl ?_
    refine TextR.int rfl rfl rfl ?_
    refine TextR.done (.cons rfl (.cons rfl (.cons rfl (.cons rfl (.cons rfl .nil))))) ?_
    refine Wp.condM h rfl (fun hc2 h => ?_) (fun hc2 h => ?_)
    · refine Wp.seq ?_
      refine Wp.text [6, 7] rfl rfl ?_ -- region 4
      refine TextR.build cm24 rfl ?_
      refine TextR.store1 tk24 rfl rfl rfl rfl rfl rfl (.succ .zero) ?_
      refine TextR.assign rfl ?_
      refine TextR.done (.cons rfl (.cons rfl .nil)) ?_
      refine Wp.weak (keepW (live := [6, 7] ) (.cons rfl (.cons rfl .nil))) ?_
      refine Wp.weak (nzT (e' := [(6, .c (.ptr 1 0 0 0)), (7, .c (I 171))]) (H' := [.live 0 2 [[I a0.Last, .slv (a0.Sess.map eSess)]], .live 0 2 [[I 0, .slv ([].map eSess)]]]) (by first | rfl | simp [-List.map_set]) (by first | rfl | simp [-List.map_set])) ?_
      refine Wp.ret ?_
      obtain rfl := Option.some.inj h
      exact Ret.two rfl (resV_cellN tk24 rfl rfl) (resV_tmp rfl) rfl
    · refine Wp.skip ?_
      refine Wp.seq ?_
      obtain ⟨y2, hy2, h⟩ := bind_some h
      refine Wp.text [1, 2, 3, 6] rfl rfl ?_ -- region 5
      refine TextR.move rfl ?_
      refine TextR.dcall rfl rfl (c_narthexref01_Of N a2 y2 hy2 _) ?_
      refine TextR.assign rfl ?_
      refine TextR.done (.cons rfl (.cons rfl (.cons rfl (.cons rfl .nil)))) ?_
      refine Wp.seq ?_
      refine Wp.seq ?_
      obtain ⟨y3, hy3, h⟩ := bind_some h
      refine Wp.text [1, 2, 3, 6, 21] rfl rfl ?_ -- region 6
      refine TextR.move rfl ?_
      refine TextR.dcall rfl rfl (c_narthexref17_need N y2 y3 hy3 _) ?_
      refine TextR.not rfl ?_
      refine TextR.done (.cons rfl (.cons rfl (.cons rfl (.cons rfl (.cons rfl .nil))))) ?_
      refine Wp.condM h rfl (fun hc3 h => ?_) (fun hc3 h => ?_)
      · refine Wp.seq ?_
        refine Wp.text [6, 7] rfl rfl ?_ -- region 7
        refine TextR.build cm24 rfl ?_
        refine TextR.store1 tk24 rfl rfl rfl rfl rfl rfl (.succ .zero) ?_
        refine TextR.assign rfl ?_
        refine TextR.done (.cons rfl (.cons rfl .nil)) ?_
        refine Wp.weak (keepW (live := [6, 7] ) (.cons rfl (.cons rfl .nil))) ?_
        refine Wp.weak (nzT (e' := [(6, .c (.ptr 1 0 0 0)), (7, .c (I 172))]) (H' := [.live 0 2 [[I a0.Last, .slv (a0.Sess.map eSess)]], .live 0 2 [[I 0, .slv ([].map eSess)]]]) (by first | rfl | simp [-List.map_set]) (by first | rfl | simp [-List.map_set])) ?_
        refine Wp.ret ?_
        obtain rfl := Option.some.inj h
        exact Ret.two rfl (resV_cellN tk24 rfl rfl) (resV_tmp rfl) rfl
      · refine Wp.skip ?_
        refine Wp.seq ?_
        refine Wp.seq ?_
        refine Wp.text [1, 2, 3, 6, 26] rfl rfl ?_ -- region 8
        refine TextR.fieldAddr fo24_1 rfl rfl rfl ?_
        refine TextR.load1 tk22 rfl rfl ?_
        refine TextR.lenM us22 rfl rfl ?_
        refine TextR.int rfl rfl rfl ?_
        refine TextR.done (.cons rfl (.cons rfl (.cons rfl (.cons rfl (.cons rfl .nil))))) ?_
        refine Wp.condM h rfl (fun hc4 h => ?_) (fun hc4 h => ?_)
        · refine Wp.seq ?_
          refine Wp.text [6, 7] rfl rfl ?_ -- region 9
          refine TextR.build cm24 rfl ?_
          refine TextR.store1 tk24 rfl rfl rfl rfl rfl rfl (.succ .zero) ?_
          refine TextR.assign rfl ?_
          refine TextR.done (.cons rfl (.cons rfl .nil)) ?_
          refine Wp.weak (keepW (live := [6, 7] ) (.cons rfl (.cons rfl .nil))) ?_
          refine Wp.weak (nzT (e' := [(6, .c (.ptr 1 0 0 0)), (7, .c (I 173))]) (H' := [.live 0 2 [[I a0.Last, .slv (a0.Sess.map eSess)]], .live 0 2 [[I 0, .slv ([].map eSess)]]]) (by first | rfl | simp [-List.map_set]) (by first | rfl | simp [-List.map_set])) ?_
          refine Wp.ret ?_
          obtain rfl := Option.some.inj h
          exact Ret.two rfl (resV_cellN tk24 rfl rfl) (resV_tmp rfl) rfl
        · refine Wp.skip ?_
          refine Wp.seq ?_
          refine Wp.text [1, 2, 3, 6] rfl rfl ?_ -- region 10
          refine TextR.move rfl ?_
          refine TextR.fieldAddr fo24_0 rfl rfl rfl ?_
          refine TextR.storeF (r' := [I a1, .slv (a0.Sess.map eSess)]) tk3 rfl rfl rfl rfl rfl rfl rfl .zero ?_
          refine TextR.done (.cons rfl (.cons rfl (.cons rfl (.cons rfl .nil)))) ?_
          refine Wp.seq ?_
          obtain ⟨x4, hx4, h⟩ := bind_some h
          obtain ⟨x5, hx5, h⟩ := bind_some h
          refine Wp.text [3, 6] rfl rfl ?_ -- region 11
          refine TextR.buildSlice  2 se22 rfl rfl rfl (.cons (.cons .nil)) ?_
          refine TextR.fieldAddr fo24_1 rfl rfl rfl ?_
          refine TextR.load1 tk22 rfl rfl ?_
          refine TextR.appendM eSess ([] : List TSess) a0.Sess x4 (app_eq hx4) se22 rfl rfl rfl rfl (fun _ => rfl) rfl (app_len hx4) (.succ (.succ .zero)) ?_
          refine TextR.move rfl ?_
          refine TextR.move rfl ?_
          refine TextR.build cm41 rfl ?_
          refine TextR.buildSlice (rows := [(⟨a1, y2, 0, 0⟩ : TSess)].map eSess) 3 se22 rfl rfl rfl (.cons (.cons (.cons .nil))) ?_
          refine TextR.appendM eSess x4 [(⟨a1, y2, 0, 0⟩ : TSess)] x5 (app_eq hx5) se22 rfl rfl rfl (view_whole (f := eSess) (xs := [(⟨a1, y2, 0, 0⟩ : TSess)]) rfl) (fun _ => rfl) rfl (app_len hx5) (.succ (.succ .zero)) ?_
          refine TextR.fieldAddr fo24_1 rfl rfl rfl ?_
          refine TextR.storeF (r' := [I a1, .sl 2 2 0 x5.length]) tk22 rfl rfl rfl rfl rfl rfl rfl .zero ?_
          refine TextR.done (.cons rfl (.cons rfl .nil)) ?_
          refine Wp.seq ?_
          refine Wp.text [6, 7] rfl rfl ?_ -- region 12
          refine TextR.loadN (cs := [I a1, .sl 2 2 0 x5.length]) tk24 rfl rfl ?_
          refine TextR.store1 tk24 rfl rfl rfl rfl rfl rfl (.succ .zero) ?_
          refine TextR.assign rfl ?_
          refine TextR.done (.cons rfl (.cons rfl .nil)) ?_
          refine Wp.weak (keepW (live := [6, 7] ) (.cons rfl (.cons rfl .nil))) ?_
          refine Wp.weak (freezeW (h := 2) (ver := 2) (rows := x5.map eSess) (e' := [(6, .c (.ptr 1 0 0 0)), (7, .c (I 0))]) (H' := [.live 0 2 [[I a1, .slv (x5.map eSess)]], .live 0 2 [[I a1, .slv (x5.map eSess)]], .dead, .live 0 4 ([(⟨a1, y2, 0, 0⟩ : TSess)].map eSess)]) rfl (by first | rfl | simp [-List.map_set]) (by first | rfl | simp [-List.map_set])) ?_
          refine Wp.ret ?_
          obtain rfl := Option.some.inj h
          exact Ret.two rfl (resV_cellN tk24 rfl rfl) (resV_tmp rfl) rfl
theorem c_narthexref17_Open (N : Nat) (a0 : TBook) (a1 : Int) (a2 : List Int) (r : TBook × Int) (h : narthexref17_Open N a0 a1 a2 = some r) (H : List Ob) : DCall Try.prog 29 [.agg (eBook a0), .c (I a1), .c (.slv (a2.map eI))] H (.tup [.agg (eBook r.1), .c (I r.2)]) := DCall.lift (by first | rfl | simp [-List.map_set]) (by first | rfl | simp [-List.map_set]) (fun _ => by simp [-List.map_set]) (w_narthexref17_Open N a0 a1 a2 r h) H
-- narthex/narthexref17.Granted
theorem w_narthexref17_Granted (N : Nat) (a0 : TBook) (r : Bool) (h : narthexref17_Granted N a0 = some r) : Nx.Call Try.prog 49 [.agg (eBook a0)] [] fun r' _ => r' = .c (B r) := by
  refine Nx.Call.of_body Try.func49 rfl en49 Try.ntmps49 rfl (fun Γ hok => ?_)
  unfold narthexref17_Granted at h
  refine Wp.seq ?_
  refine Wp.text [1] rfl rfl ?_ -- region 0
  refine TextR.box (cs := [I a0.Last, .slv (a0.Sess.map eSess)]) 0 rfl rfl rfl rfl .nil ?_
  refine TextR.assign rfl ?_
  refine TextR.done (.cons rfl .nil) ?_
  refine Wp.seq ?_
  obtain ⟨x1, hx1, h⟩ := bind_some h
  refine Wp.go false none [[], [], [], [], [], [(7, true)], [(7, true)], [(7, true)], [(7, true)], [(7, true)], [(7, true)], [], []] [] [2] mixed rfl rfl (by kernel_rfl) ?_ -- region 1
  refine RunR.fieldAddr fo24_1 rfl rfl rfl rfl rfl ?_
  refine RunR.load1 tk22 rfl rfl rfl rfl ?_
  refine RunR.lenM us22 rfl rfl rfl rfl ?_
  refine RunR.int rfl rfl rfl rfl rfl ?_
  refine RunR.move rfl rfl rfl ?_
  refine RunR.fieldAddr fo24_1 rfl rfl rfl rfl rfl ?_
  refine RunR.load1 tk22 rfl rfl rfl rfl ?_
  refine RunR.indexAG se22 rfl rfl rfl rfl rfl (ifPos hx1 gT) (ifAt hx1 gT) rfl ?_
  refine RunR.fieldAddr fo41_2 rfl rfl rfl rfl rfl ?_
  refine RunR.load1G tk36 rfl rfl rfl (ifAt hx1 gT) rfl ?_
  refine RunR.int rfl rfl rfl rfl rfl ?_
  refine RunR.pickAnd rfl rfl rfl rfl ?_
  refine RunR.assign rfl rfl rfl ?_
  refine RunR.doneQ (.cons rfl .nil) ?_
  refine Wp.ret ?_
  obtain rfl := Option.some.inj h
  exact Ret.one rfl (resV_tmp rfl) rfl
theorem c_narthexref17_Granted (N : Nat) (a0 : TBook) (r : Bool) (h : narthexref17_Granted N a0 = some r) (H : List Ob) : DCall Try.prog 49 [.agg (eBook a0)] H (.c (B r)) := DCall.lift (by first | rfl | simp [-List.map_set]) (by first | rfl | simp [-List.map_set]) (fun _ => by simp [-List.map_set]) (w_narthexref17_Granted N a0 r h) H
-- narthex/narthexref17.Grant
theorem w_narthexref17_Grant (N : Nat) (a0 : TBook) (r : TBook × Int × Int) (h : narthexref17_Grant N a0 = some r) : Nx.Call Try.prog 30 [.agg (eBook a0)] [] fun r' _ => r' = .tup [.agg (eBook r.1), .c (I r.2.1), .c (I r.2.2)] := by
  refine Nx.Call.of_body Try.func30 rfl en30 Try.ntmps30 rfl (fun Γ hok => ?_)
  unfold narthexref17_Grant at h
  refine Wp.seq ?_
  refine Wp.text [1, 2] rfl rfl ?_ -- region 0
  refine TextR.box (cs := [I a0.Last, .slv (a0.Sess.map eSess)]) 0 rfl rfl rfl rfl .nil ?_
  refine TextR.alloc 1 zc24 rfl rfl (.cons .nil) ?_
  refine TextR.assign rfl ?_
  refine TextR.assign rfl ?_
  refine TextR.done (.cons rfl (.cons rfl .nil)) ?_
  refine Wp.seq ?_
  refine Wp.seq ?_
  obtain ⟨y1, hy1, h⟩ := bind_some h
  refine Wp.text [1, 2, 8] rfl rfl ?_ -- region 1
  refine TextR.loadN (cs := [I a0.Last, .slv (a0.Sess.map eSess)]) tk24 rfl rfl ?_
  refine TextR.dcall rfl rfl (c_narthexref17_Check N a0 y1 hy1 _) ?_
  refine TextR.not rfl ?_
  refine TextR.done (.cons rfl (.cons rfl (.cons rfl .nil))) ?_
  refine Wp.condM h rfl (fun hc1 h => ?_) (fun hc1 h => ?_)
  · refine Wp.seq ?_
    refine Wp.text [2, 3, 4] rfl rfl ?_ -- region 2
    refine TextR.build cm24 rfl ?_
    refine TextR.store1 tk24 rfl rfl rfl rfl rfl rfl (.succ .zero) ?_
    refine TextR.assign rfl ?_
    refine TextR.assign rfl ?_
    refine TextR.done (.cons rfl (.cons rfl (.cons rfl .nil))) ?_
    refine Wp.weak (keepW (live := [2, 3, 4] ) (.cons rfl (.cons rfl (.cons rfl .nil)))) ?_
    refine Wp.weak (nzT (e' := [(2, .c (.ptr 1 0 0 0)), (3, .c (I 0)), (4, .c (I 170))]) (H' := [.live 0 2 [[I a0.Last, .slv (a0.Sess.map eSess)]], .live 0 2 [[I 0, .slv ([].map eSess)]]]) (by first | rfl | simp [-List.map_set]) (by first | rfl | simp [-List.map_set])) ?_
    refine Wp.ret ?_
    obtain rfl := Option.some.inj h
    exact Ret.three rfl (resV_cellN tk24 rfl rfl) (resV_tmp rfl) (resV_tmp rfl) rfl
  · refine Wp.skip ?_
    refine Wp.seq ?_
    refine Wp.seq ?_
    obtain ⟨y2, hy2, h⟩ := bind_some h
    refine Wp.go false none [[], [], [], [], [], [(14, false)], [(14, false)], []] [] [1, 2, 17] mixed rfl rfl (by kernel_rfl) ?_ -- region 3
    refine RunR.fieldAddr fo24_1 rfl rfl rfl rfl rfl ?_
    refine RunR.load1 tk22 rfl rfl rfl rfl ?_
    refine RunR.lenM us22 rfl rfl rfl rfl ?_
    refine RunR.int rfl rfl rfl rfl rfl ?_
    refine RunR.move rfl rfl rfl ?_
    refine RunR.loadN (cs := [I a0.Last, .slv (a0.Sess.map eSess)]) tk24 rfl rfl rfl rfl ?_
    refine RunR.callG rfl rfl rfl (fun hb H => c_narthexref17_Granted N a0 y2 (ifT hy2 gF hb) H) ?_
    refine RunR.pickOr rfl rfl rfl rfl ?_
    refine RunR.doneQ (.cons rfl (.cons rfl (.cons rfl .nil))) ?_
    refine Wp.condM h rfl (fun hc2 h => ?_) (fun hc2 h => ?_)
    · refine Wp.seq ?_
      refine Wp.text [2, 3, 4] rfl rfl ?_ -- region 4
      refine TextR.build cm24 rfl ?_
      refine TextR.store1 tk24 rfl rfl rfl rfl rfl rfl (.succ .zero) ?_
      refine TextR.assign rfl ?_
      refine TextR.assign rfl ?_
      refine TextR.done (.cons rfl (.cons rfl (.cons rfl .nil))) ?_
      refine Wp.weak (keepW (live := [2, 3, 4] ) (.cons rfl (.cons rfl (.cons rfl .nil)))) ?_
      refine Wp.weak (nzT (e' := [(2, .c (.ptr 1 0 0 0)), (3, .c (I 0)), (4, .c (I 175))]) (H' := [.live 0 2 [[I a0.Last, .slv (a0.Sess.map eSess)]], .live 0 2 [[I 0, .slv ([].map eSess)]]]) (by first | rfl | simp [-List.map_set]) (by first | rfl | simp [-List.map_set])) ?_
      refine Wp.ret ?_
      obtain rfl := Option.some.inj h
      exact Ret.three rfl (resV_cellN tk24 rfl rfl) (resV_tmp rfl) (resV_tmp rfl) rfl
    · refine Wp.skip ?_
      refine Wp.seq ?_
      obtain ⟨x3, hx3, h⟩ := bind_some h
      refine Wp.text [1, 2, 5] rfl rfl ?_ -- region 5
      refine TextR.buildSlice  2 se22 rfl rfl rfl (.cons (.cons .nil)) ?_
      refine TextR.fieldAddr fo24_1 rfl rfl rfl ?_
      refine TextR.load1 tk22 rfl rfl ?_
      refine TextR.appendM eSess ([] : List TSess) a0.Sess x3 (app_eq hx3) se22 rfl rfl rfl rfl (fun _ => rfl) rfl (app_len hx3) (.succ (.succ .zero)) ?_
      refine TextR.assign rfl ?_
      refine TextR.done (.cons rfl (.cons rfl (.cons rfl .nil))) ?_
      refine Wp.seq ?_
      obtain ⟨x4, hx4, h⟩ := bind_some h
      refine Wp.text [1, 2, 5] rfl rfl ?_ -- region 6
      refine TextR.move rfl ?_
      refine TextR.indexOA se22 rfl rfl rfl hx4 ?_
      refine TextR.fieldAddr fo41_2 rfl rfl rfl ?_
      refine TextR.storeO { x4 with State := 1 } tk36 rfl rfl rfl rfl rfl (at_get hx4) rfl rfl (.succ (.succ .zero)) ?_
      refine TextR.done (.cons rfl (.cons rfl (.cons rfl .nil))) ?_
      refine Wp.weak (eqW (S' := ⟨[(1, .c (.ptr 0 0 0 0)), (2, .c (.ptr 1 0 0 0)), (5, .c (.sl 2 1 0 (x3.set (Int.toNat 0) { x4 with State := 1 }).length))], [.live 0 2 [[I a0.Last, .slv (a0.Sess.map eSess)]], .live 0 2 [[I 0, nilS]], .live 1 4 ((x3.set (Int.toNat 0) { x4 with State := 1 }).map eSess)]⟩) (by first | rfl | (simp only [List.length_set]; done) | (simp only [List.length_set]; rfl))) ?_
      refine Wp.seq ?_
      obtain ⟨x5, hx5, h⟩ := bind_some h
      refine Wp.go true (some ⟨[1], []⟩) [] [false, false, false, false, true, true, true, true, false, false, false] [2, 3, 4] mixed rfl rfl (by kernel_rfl) ?_ -- region 7
      refine RunR.fieldAddr fo24_0 rfl rfl rfl rfl rfl ?_
      refine RunR.load1 tk3 rfl rfl rfl rfl ?_
      refine RunR.move rfl rfl rfl ?_
      refine RunR.build cm24 rfl rfl rfl ?_
      refine RunR.move rfl rfl rfl ?_
      refine RunR.indexOA se22 rfl rfl rfl rfl rfl hx5 ?_
      refine RunR.fieldAddr fo41_0 rfl rfl rfl rfl rfl ?_
      refine RunR.load1O tk3 rfl rfl rfl rfl (at_get hx5) rfl ?_
      refine RunR.store1 tk24 rfl rfl rfl rfl rfl rfl rfl rfl (.succ .zero) ?_
      refine RunR.assign rfl rfl rfl ?_
      refine RunR.assign rfl rfl rfl ?_
      refine RunR.doneQ (.cons rfl (.cons rfl (.cons rfl .nil))) ?_
      refine Wp.weak (keepW (live := [2, 3, 4] ) (.cons rfl (.cons rfl (.cons rfl .nil)))) ?_
      refine Wp.weak (freezeW (h := 2) (ver := 1) (rows := (x3.set (Int.toNat 0) { x4 with State := 1 }).map eSess) (e' := [(2, .c (.ptr 1 0 0 0)), (3, .c (I x5.ID)), (4, .c (I 0))]) (H' := [.live 0 2 [[I a0.Last, .slv (a0.Sess.map eSess)]], .live 0 2 [[I a0.Last, .slv ((x3.set (Int.toNat 0) { x4 with State := 1 }).map eSess)]], .dead]) rfl (by first | rfl | simp [-List.map_set]) (by first | rfl | simp [-List.map_set])) ?_
      refine Wp.ret ?_
      obtain rfl := Option.some.inj h
      exact Ret.three rfl (resV_cellN tk24 rfl rfl) (resV_tmp rfl) (resV_tmp rfl) rfl
theorem c_narthexref17_Grant (N : Nat) (a0 : TBook) (r : TBook × Int × Int) (h : narthexref17_Grant N a0 = some r) (H : List Ob) : DCall Try.prog 30 [.agg (eBook a0)] H (.tup [.agg (eBook r.1), .c (I r.2.1), .c (I r.2.2)]) := DCall.lift (by first | rfl | simp [-List.map_set]) (by first | rfl | simp [-List.map_set]) (fun _ => by simp [-List.map_set]) (w_narthexref17_Grant N a0 r h) H
-- narthex/narthexref17.Find
theorem w_narthexref17_Find (N : Nat) (a0 : TBook) (a1 : Int) (r : Int) (h : narthexref17_Find N a0 a1 = some r) : Nx.Call Try.prog 16 [.agg (eBook a0), .c (I a1)] [] fun r' _ => r' = .c (I r) := by
  refine Nx.Call.of_body Try.func16 rfl en16 Try.ntmps16 rfl (fun Γ hok => ?_)
  unfold narthexref17_Find at h
  refine Wp.seq ?_
  refine Wp.text [1, 2] rfl rfl ?_ -- region 0
  refine TextR.box (cs := [I a0.Last, .slv (a0.Sess.map eSess)]) 0 rfl rfl rfl rfl .nil ?_
  refine TextR.assign rfl ?_
  refine TextR.done (.cons rfl (.cons rfl .nil)) ?_
  refine Wp.seq ?_
  refine Wp.seq ?_
  refine Wp.text [1, 2, 5] rfl rfl ?_ -- region 1
  refine TextR.assign rfl ?_
  refine TextR.done (.cons rfl (.cons rfl (.cons rfl .nil))) ?_
  obtain ⟨z1, hz1, h⟩ := bind_some h
  refine Wp.fragR (fun S => ∃ z3, z1 = .inr z3 ∧ ∃ S', St.Weak ⟨Try.prog, 22, Γ⟩ S S' ∧ S' = ⟨[], []⟩) (fun S => ∃ v, z1 = .inl v ∧ Ret Try.prog Try.f16 (fun r' _ => r' = .c (I v)) .ret S) ?_ ?_ ?_
  · replace h := hz1
    refine Wp.block ?_
    refine Wp.weak (keepW (live := [1, 2, 5]) (.cons rfl (.cons rfl (.cons rfl .nil)))) ?_
    refine Wp.loop (fun m S => ∃ s5_1, narthexref17_Find_L1 N a0 a1 m s5_1 = some z1 ∧ S = ⟨[(1, .c (I a1)), (2, .c (.ptr 0 0 0 0)), (5, .c (I s5_1))], [.live 0 2 [[I a0.Last, .slv (a0.Sess.map eSess)]]]⟩) N ⟨_, h, rfl⟩ ?_
    rintro m1 _ ⟨s5_1, h, rfl⟩
    cases m1 with
    | zero => rw [narthexref17_Find_L1.eq_1] at h; cases h
    | succ m1 =>
    rw [narthexref17_Find_L1.eq_2] at h
    refine Wp.seq ?_
    refine Wp.seq ?_
    refine Wp.text [1, 2, 5, 10] rfl rfl ?_ -- region 2
    refine TextR.move rfl ?_
    refine TextR.fieldAddr fo24_1 rfl rfl rfl ?_
    refine TextR.load1 tk22 rfl rfl ?_
    refine TextR.lenM us22 rfl rfl ?_
    refine TextR.int rfl rfl rfl ?_
    refine TextR.done (.cons rfl (.cons rfl (.cons rfl (.cons rfl .nil)))) ?_
    refine Wp.condM h rfl (fun hc2 h => ?_) (fun hc2 h => ?_)
    · refine Wp.skip ?_
      refine Wp.seq ?_
      refine Wp.block ?_
      refine Wp.seq ?_
      obtain ⟨x4, hx4, h⟩ := bind_some h
      refine Wp.text [1, 2, 5, 20] rfl rfl ?_ -- region 4
      refine TextR.fieldAddr fo24_1 rfl rfl rfl ?_
      refine TextR.load1 tk22 rfl rfl ?_
      refine TextR.move rfl ?_
      refine TextR.indexA se22 rfl rfl rfl hx4 rfl ?_
      refine TextR.fieldAddr fo41_0 rfl rfl rfl ?_
      refine TextR.load1M tk3 rfl (at_get hx4) rfl ?_
      refine TextR.move rfl ?_
      refine TextR.int rfl rfl rfl ?_
      refine TextR.done (.cons rfl (.cons rfl (.cons rfl (.cons rfl .nil)))) ?_
      refine Wp.condM h rfl (fun hc3 h => ?_) (fun hc3 h => ?_)
      · refine Wp.seq ?_
        refine Wp.text [4] rfl rfl ?_ -- region 5
        refine TextR.move rfl ?_
        refine TextR.assign rfl ?_
        refine TextR.done (.cons rfl .nil) ?_
        refine Wp.ret ?_
        exact ⟨_, (Option.some.inj h).symm, Ret.one rfl (resV_tmp rfl) rfl⟩
      · refine Wp.skip ?_
        refine Wp.text [1, 2, 5] rfl rfl ?_ -- region 3
        refine TextR.move rfl ?_
        refine TextR.int rfl rfl rfl ?_
        refine TextR.assign rfl ?_
        refine TextR.done (.cons rfl (.cons rfl (.cons rfl .nil))) ?_
        exact ⟨m1, Nat.lt_succ_self _, _, (keepW (live := [1, 2, 5]) (.cons rfl (.cons rfl (.cons rfl .nil)))), _, h, rfl⟩
    · refine Wp.exit ?_
      exact ⟨_, (Option.some.inj h).symm, _, (St.Weak.trans (keepW (live := []) .nil) (pickT (e' := []) (H' := []) [] [0] 0 hok.len.symm rfl rfl (by decide) (by first | rfl | simp [-List.map_set]) (by first | rfl | simp [-List.map_set]) (by first | rfl | simp [-List.map_set]) (by first | rfl | simp [-List.map_set]))), rfl⟩
  · rintro _ ⟨z3, rfl, _, hw, rfl⟩
    dsimp only at h
    clear hz1
    refine Wp.weak hw ?_
    refine Wp.seq ?_
    refine Wp.text [4] rfl rfl ?_ -- region 6
    refine TextR.assign rfl ?_
    refine TextR.done (.cons rfl .nil) ?_
    refine Wp.ret ?_
    obtain rfl := Option.some.inj h
    exact Ret.one rfl (resV_tmp rfl) rfl
  · rintro S' ⟨r2, rfl, hR⟩
    dsimp only at h
    obtain rfl := Option.some.inj h
    exact hR
theorem c_narthexref17_Find (N : Nat) (a0 : TBook) (a1 : Int) (r : Int) (h : narthexref17_Find N a0 a1 = some r) (H : List Ob) : DCall Try.prog 16 [.agg (eBook a0), .c (I a1)] H (.c (I r)) := DCall.lift (by first | rfl | simp [-List.map_set]) (by first | rfl | simp [-List.map_set]) (fun _ => by simp [-List.map_set]) (w_narthexref17_Find N a0 a1 r h) H
-- narthex/narthexref17.Without
theorem w_narthexref17_Without (N : Nat) (a0 : TBook) (a1 : Int) (r : TBook) (h : narthexref17_Without N a0 a1 = some r) : Nx.Call Try.prog 50 [.agg (eBook a0), .c (I a1)] [] fun r' _ => r' = .agg (eBook r) := by
  refine Nx.Call.of_body Try.func50 rfl en50 Try.ntmps50 rfl (fun Γ hok => ?_)
  unfold narthexref17_Without at h
  refine Wp.seq ?_
  refine Wp.text [1, 2, 4] rfl rfl ?_ -- region 0
  refine TextR.box (cs := [I a0.Last, .slv (a0.Sess.map eSess)]) 0 rfl rfl rfl rfl .nil ?_
  refine TextR.alloc 1 zc24 rfl rfl (.cons .nil) ?_
  refine TextR.done (.cons rfl (.cons rfl (.cons rfl .nil))) ?_
  refine Wp.seq ?_
  obtain ⟨x1, hx1, h⟩ := bind_some h
  obtain ⟨x2, hx2, h⟩ := bind_some h
  obtain ⟨x3, hx3, h⟩ := bind_some h
  obtain ⟨x4, hx4, h⟩ := bind_some h
  refine Wp.go true (some ⟨[2], []⟩) [] [false, true, true, true, true, false, true, true, true, true, true, true, false, true] [2, 4] mixed rfl rfl (by kernel_rfl) ?_ -- region 1
  refine RunR.buildSlice  2 se22 rfl rfl rfl rfl rfl (.cons (.cons .nil)) ?_
  refine RunR.fieldAddr fo24_1 rfl rfl rfl rfl rfl ?_
  refine RunR.load1 tk22 rfl rfl rfl rfl ?_
  refine RunR.move rfl rfl rfl ?_
  refine RunR.sliceM se22 rfl rfl rfl rfl rfl rfl rfl hx1 (fun _ => rfl) ?_
  refine RunR.appendM eSess ([] : List TSess) x1 x2 (app_eq hx2) se22 rfl rfl rfl rfl rfl rfl (fun _ => rfl) rfl (app_len hx2) (.succ (.succ .zero)) ?_
  refine RunR.fieldAddr fo24_1 rfl rfl rfl rfl rfl ?_
  refine RunR.load1 tk22 rfl rfl rfl rfl ?_
  refine RunR.move rfl rfl rfl ?_
  refine RunR.int rfl rfl rfl rfl rfl ?_
  refine RunR.sliceM se22 rfl rfl rfl rfl rfl rfl rfl hx3 (fun _ => rfl) ?_
  refine RunR.appendM eSess x2 x3 x4 (app_eq hx4) se22 rfl rfl rfl rfl rfl rfl (fun _ => rfl) rfl (app_len hx4) (.succ (.succ .zero)) ?_
  refine RunR.fieldAddr fo24_1 rfl rfl rfl rfl rfl ?_
  refine RunR.storeF (r' := [I a0.Last, .sl 2 2 0 x4.length]) tk22 rfl rfl rfl rfl rfl rfl rfl rfl rfl .zero ?_
  refine RunR.doneQ (.cons rfl (.cons rfl .nil)) ?_
  refine Wp.seq ?_
  refine Wp.text [4] rfl rfl ?_ -- region 2
  refine TextR.loadN (cs := [I a0.Last, .sl 2 2 0 x4.length]) tk24 rfl rfl ?_
  refine TextR.store1 tk24 rfl rfl rfl rfl rfl rfl (.succ .zero) ?_
  refine TextR.done (.cons rfl .nil) ?_
  refine Wp.weak (keepW (live := [4] ) (.cons rfl .nil)) ?_
  refine Wp.weak (freezeW (h := 2) (ver := 2) (rows := x4.map eSess) (e' := [(4, .c (.ptr 1 0 0 0))]) (H' := [.live 0 2 [[I a0.Last, .slv (x4.map eSess)]], .live 0 2 [[I a0.Last, .slv (x4.map eSess)]], .dead]) rfl (by first | rfl | simp [-List.map_set]) (by first | rfl | simp [-List.map_set])) ?_
  refine Wp.ret ?_
  obtain rfl := Option.some.inj h
  exact Ret.one rfl (resV_cellN tk24 rfl rfl) rfl
theorem c_narthexref17_Without (N : Nat) (a0 : TBook) (a1 : Int) (r : TBook) (h : narthexref17_Without N a0 a1 = some r) (H : List Ob) : DCall Try.prog 50 [.agg (eBook a0), .c (I a1)] H (.agg (eBook r)) := DCall.lift (by first | rfl | simp [-List.map_set]) (by first | rfl | simp [-List.map_set]) (fun _ => by simp [-List.map_set]) (w_narthexref17_Without N a0 a1 r h) H
-- narthex/narthexref17.End
theorem w_narthexref17_End (N : Nat) (a0 : TBook) (a1 : Int) (a2 : Int) (r : TBook × Int) (h : narthexref17_End N a0 a1 a2 = some r) : Nx.Call Try.prog 31 [.agg (eBook a0), .c (I a1), .c (I a2)] [] fun r' _ => r' = .tup [.agg (eBook r.1), .c (I r.2)] := by
  refine Nx.Call.of_body Try.func31 rfl en31 Try.ntmps31 rfl (fun Γ hok => ?_)
  unfold narthexref17_End at h
  refine Wp.seq ?_
  refine Wp.text [1, 2, 3, 6] rfl rfl ?_ -- region 0
  refine TextR.box (cs := [I a0.Last, .slv (a0.Sess.map eSess)]) 0 rfl rfl rfl rfl .nil ?_
  refine TextR.alloc 1 zc24 rfl rfl (.cons .nil) ?_
  refine TextR.assign rfl ?_
  refine TextR.done (.cons rfl (.cons rfl (.cons rfl (.cons rfl .nil)))) ?_
  refine Wp.seq ?_
  refine Wp.seq ?_
  obtain ⟨y1, hy1, h⟩ := bind_some h
  refine Wp.text [1, 2, 3, 6, 11] rfl rfl ?_ -- region 1
  refine TextR.loadN (cs := [I a0.Last, .slv (a0.Sess.map eSess)]) tk24 rfl rfl ?_
  refine TextR.dcall rfl rfl (c_narthexref17_Check N a0 y1 hy1 _) ?_
  refine TextR.not rfl ?_
  refine TextR.done (.cons rfl (.cons rfl (.cons rfl (.cons rfl (.cons rfl .nil))))) ?_
  refine Wp.condM h rfl (fun hc1 h => ?_) (fun hc1 h => ?_)
  · refine Wp.seq ?_
    refine Wp.text [6, 7] rfl rfl ?_ -- region 2
    refine TextR.build cm24 rfl ?_
    refine TextR.store1 tk24 rfl rfl rfl rfl rfl rfl (.succ .zero) ?_
    refine TextR.assign rfl ?_
    refine TextR.done (.cons rfl (.cons rfl .nil)) ?_
    refine Wp.weak (keepW (live := [6, 7] ) (.cons rfl (.cons rfl .nil))) ?_
    refine Wp.weak (nzT (e' := [(6, .c (.ptr 1 0 0 0)), (7, .c (I 170))]) (H' := [.live 0 2 [[I a0.Last, .slv (a0.Sess.map eSess)]], .live 0 2 [[I 0, .slv ([].map eSess)]]]) (by first | rfl | simp [-List.map_set]) (by first | rfl | simp [-List.map_set])) ?_
    refine Wp.ret ?_
    obtain rfl := Option.some.inj h
    exact Ret.two rfl (resV_cellN tk24 rfl rfl) (resV_tmp rfl) rfl
  · refine Wp.skip ?_
    refine Wp.seq ?_
    obtain ⟨y2, hy2, h⟩ := bind_some h
    refine Wp.text [2, 3, 6, 8] rfl rfl ?_ -- region 3
    refine TextR.loadN (cs := [I a0.Last, .slv (a0.Sess.map eSess)]) tk24 rfl rfl ?_
    refine TextR.move rfl ?_
    refine TextR.dcall rfl rfl (c_narthexref17_Find N a0 a1 y2 hy2 _) ?_
    refine TextR.assign rfl ?_
    refine TextR.done (.cons rfl (.cons rfl (.cons rfl (.cons rfl .nil)))) ?_
    refine Wp.seq ?_
    refine Wp.seq ?_
    refine Wp.text [2, 3, 6, 8, 17] rfl rfl ?_ -- region 4
    refine TextR.move rfl ?_
    refine TextR.int rfl rfl rfl ?_
    refine TextR.done (.cons rfl (.cons rfl (.cons rfl (.cons rfl (.cons rfl .nil))))) ?_
    refine Wp.condM h rfl (fun hc2 h => ?_) (fun hc2 h => ?_)
    · refine Wp.seq ?_
      refine Wp.text [6, 7] rfl rfl ?_ -- region 5
      refine TextR.build cm24 rfl ?_
      refine TextR.store1 tk24 rfl rfl rfl rfl rfl rfl (.succ .zero) ?_
      refine TextR.assign rfl ?_
      refine TextR.done (.cons rfl (.cons rfl .nil)) ?_
      refine Wp.weak (keepW (live := [6, 7] ) (.cons rfl (.cons rfl .nil))) ?_
      refine Wp.weak (nzT (e' := [(6, .c (.ptr 1 0 0 0)), (7, .c (I 174))]) (H' := [.live 0 2 [[I a0.Last, .slv (a0.Sess.map eSess)]], .live 0 2 [[I 0, .slv ([].map eSess)]]]) (by first | rfl | simp [-List.map_set]) (by first | rfl | simp [-List.map_set])) ?_
      refine Wp.ret ?_
      obtain rfl := Option.some.inj h
      exact Ret.two rfl (resV_cellN tk24 rfl rfl) (resV_tmp rfl) rfl
    · refine Wp.skip ?_
      refine Wp.seq ?_
      refine Wp.seq ?_
      obtain ⟨x3, hx3, h⟩ := bind_some h
      refine Wp.text [3, 6, 8, 26] rfl rfl ?_ -- region 6
      refine TextR.fieldAddr fo24_1 rfl rfl rfl ?_
      refine TextR.load1 tk22 rfl rfl ?_
      refine TextR.move rfl ?_
      refine TextR.indexA se22 rfl rfl rfl hx3 rfl ?_
      refine TextR.fieldAddr fo41_2 rfl rfl rfl ?_
      refine TextR.load1M tk36 rfl (at_get hx3) rfl ?_
      refine TextR.move rfl ?_
      refine TextR.int rfl rfl rfl ?_
      refine TextR.done (.cons rfl (.cons rfl (.cons rfl (.cons rfl .nil)))) ?_
      refine Wp.condM h rfl (fun hc3 h => ?_) (fun hc3 h => ?_)
      · refine Wp.seq ?_
        refine Wp.text [6, 7] rfl rfl ?_ -- region 7
        refine TextR.build cm24 rfl ?_
        refine TextR.store1 tk24 rfl rfl rfl rfl rfl rfl (.succ .zero) ?_
        refine TextR.assign rfl ?_
        refine TextR.done (.cons rfl (.cons rfl .nil)) ?_
        refine Wp.weak (keepW (live := [6, 7] ) (.cons rfl (.cons rfl .nil))) ?_
        refine Wp.weak (nzT (e' := [(6, .c (.ptr 1 0 0 0)), (7, .c (I 175))]) (H' := [.live 0 2 [[I a0.Last, .slv (a0.Sess.map eSess)]], .live 0 2 [[I 0, .slv ([].map eSess)]]]) (by first | rfl | simp [-List.map_set]) (by first | rfl | simp [-List.map_set])) ?_
        refine Wp.ret ?_
        obtain rfl := Option.some.inj h
        exact Ret.two rfl (resV_cellN tk24 rfl rfl) (resV_tmp rfl) rfl
      · refine Wp.skip ?_
        refine Wp.seq ?_
        obtain ⟨y4, hy4, h⟩ := bind_some h
        refine Wp.text [6, 7] rfl rfl ?_ -- region 8
        refine TextR.loadN (cs := [I a0.Last, .slv (a0.Sess.map eSess)]) tk24 rfl rfl ?_
        refine TextR.move rfl ?_
        refine TextR.dcall rfl rfl (c_narthexref17_Without N a0 y2 y4 hy4 _) ?_
        refine TextR.store1 tk24 rfl rfl rfl rfl rfl rfl (.succ .zero) ?_
        refine TextR.assign rfl ?_
        refine TextR.done (.cons rfl (.cons rfl .nil)) ?_
        refine Wp.ret ?_
        obtain rfl := Option.some.inj h
        exact Ret.two rfl (resV_cellN tk24 rfl rfl) (resV_tmp rfl) rfl
theorem c_narthexref17_End (N : Nat) (a0 : TBook) (a1 : Int) (a2 : Int) (r : TBook × Int) (h : narthexref17_End N a0 a1 a2 = some r) (H : List Ob) : DCall Try.prog 31 [.agg (eBook a0), .c (I a1), .c (I a2)] H (.tup [.agg (eBook r.1), .c (I r.2)]) := DCall.lift (by first | rfl | simp [-List.map_set]) (by first | rfl | simp [-List.map_set]) (fun _ => by simp [-List.map_set]) (w_narthexref17_End N a0 a1 a2 r h) H
-- narthex/narthexref17.Tick
theorem w_narthexref17_Tick (N : Nat) (a0 : TBook) (a1 : Int) (r : TBook × Int) (h : narthexref17_Tick N a0 a1 = some r) : Nx.Call Try.prog 32 [.agg (eBook a0), .c (I a1)] [] fun r' _ => r' = .tup [.agg (eBook r.1), .c (I r.2)] := by
  refine Nx.Call.of_body Try.func32 rfl en32 Try.ntmps32 rfl (fun Γ hok => ?_)
  unfold narthexref17_Tick at h
  refine Wp.seq ?_
  refine Wp.text [1, 2, 4] rfl rfl ?_ -- region 0
  refine TextR.box (cs := [I a0.Last, .slv (a0.Sess.map eSess)]) 0 rfl rfl rfl rfl .nil ?_
  refine TextR.alloc 1 zc24 rfl rfl (.cons .nil) ?_
  refine TextR.assign rfl ?_
  refine TextR.done (.cons rfl (.cons rfl (.cons rfl .nil))) ?_
  refine Wp.seq ?_
  refine Wp.seq ?_
  obtain ⟨y1, hy1, h⟩ := bind_some h
  refine Wp.text [1, 2, 4, 9] rfl rfl ?_ -- region 1
  refine TextR.loadN (cs := [I a0.Last, .slv (a0.Sess.map eSess)]) tk24 rfl rfl ?_
  refine TextR.dcall rfl rfl (c_narthexref17_Granted N a0 y1 hy1 _) ?_
  refine TextR.not rfl ?_
  refine TextR.done (.cons rfl (.cons rfl (.cons rfl (.cons rfl .nil)))) ?_
  refine Wp.condM h rfl (fun hc1 h => ?_) (fun hc1 h => ?_)
  · refine Wp.seq ?_
    refine Wp.text [4, 5] rfl rfl ?_ -- region 2
    refine TextR.loadN (cs := [I a0.Last, .slv (a0.Sess.map eSess)]) tk24 rfl rfl ?_
    refine TextR.store1 tk24 rfl rfl rfl rfl rfl rfl (.succ .zero) ?_
    refine TextR.assign rfl ?_
    refine TextR.done (.cons rfl (.cons rfl .nil)) ?_
    refine Wp.ret ?_
    obtain rfl := Option.some.inj h
    exact Ret.two rfl (resV_cellN tk24 rfl rfl) (resV_tmp rfl) rfl
  · refine Wp.skip ?_
    refine Wp.seq ?_
    obtain ⟨x2, hx2, h⟩ := bind_some h
    refine Wp.text [1, 2, 4, 6] rfl rfl ?_ -- region 3
    refine TextR.buildSlice  2 se22 rfl rfl rfl (.cons (.cons .nil)) ?_
    refine TextR.fieldAddr fo24_1 rfl rfl rfl ?_
    refine TextR.load1 tk22 rfl rfl ?_
    refine TextR.appendM eSess ([] : List TSess) a0.Sess x2 (app_eq hx2) se22 rfl rfl rfl rfl (fun _ => rfl) rfl (app_len hx2) (.succ (.succ .zero)) ?_
    refine TextR.assign rfl ?_
    refine TextR.done (.cons rfl (.cons rfl (.cons rfl (.cons rfl .nil)))) ?_
    refine Wp.seq ?_
    refine Wp.seq ?_
    obtain ⟨x3, hx3, h⟩ := bind_some h
    refine Wp.text [1, 2, 4, 6, 19] rfl rfl ?_ -- region 4
    refine TextR.move rfl ?_
    refine TextR.indexOA se22 rfl rfl rfl hx3 ?_
    refine TextR.fieldAddr fo41_3 rfl rfl rfl ?_
    refine TextR.load1O tk3 rfl rfl (at_get hx3) rfl ?_
    refine TextR.int rfl rfl rfl ?_
    refine TextR.done (.cons rfl (.cons rfl (.cons rfl (.cons rfl (.cons rfl .nil))))) ?_
    obtain ⟨z4, hz4, h⟩ := bind_some h
    refine Wp.fragN (fun S => ∃ S', St.Weak ⟨Try.prog, 42, Γ⟩ S S' ∧ S' = ⟨[(1, .c (I a1)), (2, .c (.ptr 0 0 0 0)), (4, .c (.ptr 1 0 0 0)), (6, .c (.sl 2 1 0 z4.length))], [.live 0 2 [[I a0.Last, .slv (a0.Sess.map eSess)]], .live 0 2 [[I 0, nilS]], .live 1 4 (z4.map eSess)]⟩) ?_ ?_
    · replace h := hz4
      refine Wp.condM h rfl (fun hc3 h => ?_) (fun hc3 h => ?_)
      · obtain ⟨x5, hx5, h⟩ := bind_some h
        obtain ⟨x6, hx6, h⟩ := bind_some h
        refine Wp.text [1, 2, 4, 6] rfl rfl ?_ -- region 5
        refine TextR.move rfl ?_
        refine TextR.indexOA se22 rfl rfl rfl hx5 ?_
        refine TextR.fieldAddr fo41_3 rfl rfl rfl ?_
        refine TextR.load1O tk3 rfl rfl (at_get hx5) rfl ?_
        refine TextR.int rfl rfl rfl ?_
        refine TextR.indexOA se22 rfl rfl rfl hx6 ?_
        refine TextR.fieldAddr fo41_3 rfl rfl rfl ?_
        refine TextR.storeO { x6 with Age := w64 (x5.Age + 1) } tk3 rfl rfl rfl rfl rfl (at_get hx6) rfl rfl (.succ (.succ .zero)) ?_
        refine TextR.done (.cons rfl (.cons rfl (.cons rfl (.cons rfl .nil)))) ?_
        obtain rfl := Option.some.inj h
        exact ⟨_, (St.Weak.trans (eqW (S' := ⟨[(1, .c (I a1)), (2, .c (.ptr 0 0 0 0)), (4, .c (.ptr 1 0 0 0)), (6, .c (.sl 2 1 0 (x2.set (Int.toNat 0) { x6 with Age := w64 (x5.Age + 1) }).length))], [.live 0 2 [[I a0.Last, .slv (a0.Sess.map eSess)]], .live 0 2 [[I 0, nilS]], .live 1 4 ((x2.set (Int.toNat 0) { x6 with Age := w64 (x5.Age + 1) }).map eSess)]⟩) (by first | rfl | (simp only [List.length_set]; done) | (simp only [List.length_set]; rfl))) (keepW (live := [1, 2, 4, 6]) (.cons rfl (.cons rfl (.cons rfl (.cons rfl .nil)))))), rfl⟩
      · refine Wp.skip ?_
        obtain rfl := Option.some.inj h
        exact ⟨_, (keepW (live := [1, 2, 4, 6]) (.cons rfl (.cons rfl (.cons rfl (.cons rfl .nil))))), rfl⟩
    rintro _ ⟨S', hw, rfl⟩
    clear hz4
    refine Wp.weak hw ?_
    refine Wp.seq ?_
    refine Wp.text [1, 2, 4, 6] rfl rfl ?_ -- region 6
    refine TextR.move rfl ?_
    refine TextR.fieldAddr fo24_1 rfl rfl rfl ?_
    refine TextR.storeF (r' := [I a0.Last, .sl 2 1 0 z4.length]) tk22 rfl rfl rfl rfl rfl rfl rfl .zero ?_
    refine TextR.done (.cons rfl (.cons rfl (.cons rfl (.cons rfl .nil)))) ?_
    refine Wp.seq ?_
    refine Wp.seq ?_
    obtain ⟨x7, hx7, h⟩ := bind_some h
    refine Wp.text [2, 4, 6, 34] rfl rfl ?_ -- region 7
    refine TextR.move rfl ?_
    refine TextR.indexOA se22 rfl rfl rfl hx7 ?_
    refine TextR.fieldAddr fo41_3 rfl rfl rfl ?_
    refine TextR.load1O tk3 rfl rfl (at_get hx7) rfl ?_
    refine TextR.move rfl ?_
    refine TextR.int rfl rfl rfl ?_
    refine TextR.done (.cons rfl (.cons rfl (.cons rfl (.cons rfl .nil)))) ?_
    refine Wp.condM h rfl (fun hc2 h => ?_) (fun hc2 h => ?_)
    · refine Wp.seq ?_
      refine Wp.weak (freezeW (h := 2) (ver := 1) (rows := z4.map eSess) (e' := [(2, .c (.ptr 0 0 0 0)), (4, .c (.ptr 1 0 0 0)), (6, .c (.slv (z4.map eSess))), (34, .c (B (decide (x7.Age ≥ a1))))]) (H' := [.live 0 2 [[I a0.Last, .slv (z4.map eSess)]], .live 0 2 [[I 0, nilS]], .dead]) rfl (by first | rfl | simp [-List.map_set]) (by first | rfl | simp [-List.map_set])) ?_
      obtain ⟨y8, hy8, h⟩ := bind_some h
      obtain ⟨x9, hx9, h⟩ := bind_some h
      refine Wp.go true (some ⟨[1], []⟩) [] [false, false, true, true, true, true, false, false] [4, 5] mixed rfl rfl (by kernel_rfl) ?_ -- region 8
      refine RunR.loadN (cs := [I a0.Last, .slv (z4.map eSess)]) tk24 rfl rfl rfl rfl ?_
      refine RunR.call rfl rfl rfl (fun H => c_narthexref17_Without N { a0 with Sess := z4 } 0 y8 hy8 H) ?_
      refine RunR.move rfl rfl rfl ?_
      refine RunR.indexA se22 rfl rfl rfl rfl rfl hx9 rfl ?_
      refine RunR.fieldAddr fo41_0 rfl rfl rfl rfl rfl ?_
      refine RunR.load1M tk3 rfl rfl rfl (at_get hx9) rfl ?_
      refine RunR.store1 tk24 rfl rfl rfl rfl rfl rfl rfl rfl (.succ .zero) ?_
      refine RunR.assign rfl rfl rfl ?_
      refine RunR.doneQ (.cons rfl (.cons rfl .nil)) ?_
      refine Wp.ret ?_
      obtain rfl := Option.some.inj h
      exact Ret.two rfl (resV_cellN tk24 rfl rfl) (resV_tmp rfl) rfl
    · refine Wp.skip ?_
      refine Wp.seq ?_
      refine Wp.text [4, 5] rfl rfl ?_ -- region 9
      refine TextR.loadN (cs := [I a0.Last, .sl 2 1 0 z4.length]) tk24 rfl rfl ?_
      refine TextR.store1 tk24 rfl rfl rfl rfl rfl rfl (.succ .zero) ?_
      refine TextR.assign rfl ?_
      refine TextR.done (.cons rfl (.cons rfl .nil)) ?_
      refine Wp.weak (keepW (live := [4, 5] ) (.cons rfl (.cons rfl .nil))) ?_
      refine Wp.weak (freezeW (h := 2) (ver := 1) (rows := z4.map eSess) (e' := [(4, .c (.ptr 1 0 0 0)), (5, .c (I 0))]) (H' := [.live 0 2 [[I a0.Last, .slv (z4.map eSess)]], .live 0 2 [[I a0.Last, .slv (z4.map eSess)]], .dead]) rfl (by first | rfl | simp [-List.map_set]) (by first | rfl | simp [-List.map_set])) ?_
      refine Wp.ret ?_
      obtain rfl := Option.some.inj h
      exact Ret.two rfl (resV_cellN tk24 rfl rfl) (resV_tmp rfl) rfl
theorem c_narthexref17_Tick (N : Nat) (a0 : TBook) (a1 : Int) (r : TBook × Int) (h : narthexref17_Tick N a0 a1 = some r) (H : List Ob) : DCall Try.prog 32 [.agg (eBook a0), .c (I a1)] H (.tup [.agg (eBook r.1), .c (I r.2)]) := DCall.lift (by first | rfl | simp [-List.map_set]) (by first | rfl | simp [-List.map_set]) (fun _ => by simp [-List.map_set]) (w_narthexref17_Tick N a0 a1 r h) H
-- narthex/narthexref17.Gone
theorem w_narthexref17_Gone (N : Nat) (a0 : TBook) (a1 : Int) (r : TBook × (List Int)) (h : narthexref17_Gone N a0 a1 = some r) : Nx.Call Try.prog 33 [.agg (eBook a0), .c (I a1)] [] fun r' _ => r' = .tup [.agg (eBook r.1), .c (.slv (r.2.map eI))] := by
  refine Nx.Call.of_body Try.func33 rfl en33 Try.ntmps33 rfl (fun Γ hok => ?_)
  unfold narthexref17_Gone at h
  refine Wp.seq ?_
  refine Wp.text [1, 2, 4] rfl rfl ?_ -- region 0
  refine TextR.box (cs := [I a0.Last, .slv (a0.Sess.map eSess)]) 0 rfl rfl rfl rfl .nil ?_
  refine TextR.alloc 1 zc24 rfl rfl (.cons .nil) ?_
  refine TextR.assign rfl ?_
  refine TextR.done (.cons rfl (.cons rfl (.cons rfl .nil))) ?_
  refine Wp.seq ?_
  refine Wp.text [1, 2, 4, 6, 7] rfl rfl ?_ -- region 1
  refine TextR.fieldAddr fo24_0 rfl rfl rfl ?_
  refine TextR.load1 tk3 rfl rfl ?_
  refine TextR.build cm24 rfl ?_
  refine TextR.buildSlice  2 se25 rfl rfl rfl (.cons (.cons .nil)) ?_
  refine TextR.alloc 3 zc24 rfl rfl (.cons (.cons (.cons .nil))) ?_
  refine TextR.store1 tk24 rfl rfl rfl rfl rfl rfl (.succ (.succ (.succ .zero))) ?_
  refine TextR.assign rfl ?_
  refine TextR.done (.cons rfl (.cons rfl (.cons rfl (.cons rfl (.cons rfl .nil))))) ?_
  refine Wp.seq ?_
  refine Wp.seq ?_
  refine Wp.text [1, 2, 4, 6, 7, 8] rfl rfl ?_ -- region 2
  refine TextR.assign rfl ?_
  refine TextR.done (.cons rfl (.cons rfl (.cons rfl (.cons rfl (.cons rfl (.cons rfl .nil)))))) ?_
  obtain ⟨z1, hz1, h⟩ := bind_some h
  refine Wp.fragN (fun S => ∃ wz1_2, ∃ wz1_3, ∃ S', St.Weak ⟨Try.prog, 48, Γ⟩ S S' ∧ S' = ⟨[(4, .c (.ptr 0 0 0 0)), (6, .c (.ptr 1 0 0 0)), (7, .c (.sl 3 wz1_3 0 z1.2.length))], [.live 0 2 [[I 0, nilS]], .live 0 2 [[I a0.Last, .sl 2 wz1_2 0 z1.1.length]], .live wz1_2 4 (z1.1.map eSess), .live wz1_3 1 (z1.2.map eI)]⟩) ?_ ?_
  · replace h := hz1
    refine Wp.block ?_
    refine Wp.weak (St.Weak.trans (keepW (live := [1, 2, 4, 6, 7, 8]) (.cons rfl (.cons rfl (.cons rfl (.cons rfl (.cons rfl (.cons rfl .nil))))))) (St.Weak.trans (pickT (e' := [(1, .c (I a1)), (2, .c (.ptr 0 0 0 0)), (4, .c (.ptr 1 0 0 0)), (6, .c (.ptr 2 0 0 0)), (7, .c (.sl 3 0 0 ([] : List Int).length)), (8, .c (I 0))]) (H' := [.live 0 2 [[I a0.Last, .slv (a0.Sess.map eSess)]], .live 0 2 [[I 0, nilS]], .live 0 2 [[I a0.Last, nilS]], .live 0 1 (([] : List Int).map eI)]) [0, 1, 3, 2] [0, 1, 3, 2] 0 hok.len.symm rfl rfl (by decide) (by first | rfl | simp [-List.map_set]) (by first | rfl | simp [-List.map_set]) (by first | rfl | simp [-List.map_set]) (by first | rfl | simp [-List.map_set])) (St.Weak.trans (nilCellW (H := [.live 0 2 [[I a0.Last, .slv (a0.Sess.map eSess)]], .live 0 2 [[I 0, nilS]], .live 0 2 [[I a0.Last, nilS]], .live 0 1 (([] : List Int).map eI)]) (ver := 0) (g := 2) (i := 0) (k := 1) 4 4 rfl rfl rfl rfl rfl (.cons (.cons (.cons (.cons .nil)))) (.succ (.succ .zero))) (St.Weak.trans (keepW (live := [1, 2, 4, 6, 7, 8]) (.cons rfl (.cons rfl (.cons rfl (.cons rfl (.cons rfl (.cons rfl .nil))))))) (pickT (e' := [(1, .c (I a1)), (2, .c (.ptr 0 0 0 0)), (4, .c (.ptr 1 0 0 0)), (6, .c (.ptr 2 0 0 0)), (7, .c (.sl 4 0 0 ([] : List Int).length)), (8, .c (I 0))]) (H' := [.live 0 2 [[I a0.Last, .slv (a0.Sess.map eSess)]], .live 0 2 [[I 0, nilS]], .live 0 2 [[I a0.Last, .sl 3 0 0 ([] : List TSess).length]], .live 0 4 (([] : List TSess).map eSess), .live 0 1 (([] : List Int).map eI)]) [0, 1, 2, 4, 3] [0, 1, 2, 4, 3] 0 hok.len.symm rfl rfl (by decide) (by first | rfl | simp [-List.map_set]) (by first | rfl | simp [-List.map_set]) (by first | rfl | simp [-List.map_set]) (by first | rfl | simp [-List.map_set])))))) ?_
    refine Wp.loop (fun m S => ∃ l3_1, ∃ l4_1, ∃ s8_1, ∃ wh3_1, ∃ wh4_1, narthexref17_Gone_L1 N a0 a1 m l3_1 l4_1 s8_1 = some z1 ∧ S = ⟨[(1, .c (I a1)), (2, .c (.ptr 0 0 0 0)), (4, .c (.ptr 1 0 0 0)), (6, .c (.ptr 2 0 0 0)), (7, .c (.sl 4 wh4_1 0 l4_1.length)), (8, .c (I s8_1))], [.live 0 2 [[I a0.Last, .slv (a0.Sess.map eSess)]], .live 0 2 [[I 0, nilS]], .live 0 2 [[I a0.Last, .sl 3 wh3_1 0 l3_1.length]], .live wh3_1 4 (l3_1.map eSess), .live wh4_1 1 (l4_1.map eI)]⟩) N ⟨_, _, _, _, _, h, rfl⟩ ?_
    rintro m1 _ ⟨l3_1, l4_1, s8_1, wh3_1, wh4_1, h, rfl⟩
    cases m1 with
    | zero => rw [narthexref17_Gone_L1.eq_1] at h; cases h
    | succ m1 =>
    rw [narthexref17_Gone_L1.eq_2] at h
    refine Wp.seq ?_
    refine Wp.seq ?_
    refine Wp.text [1, 2, 4, 6, 7, 8, 18] rfl rfl ?_ -- region 3
    refine TextR.move rfl ?_
    refine TextR.fieldAddr fo24_1 rfl rfl rfl ?_
    refine TextR.load1 tk22 rfl rfl ?_
    refine TextR.lenM us22 rfl rfl ?_
    refine TextR.int rfl rfl rfl ?_
    refine TextR.done (.cons rfl (.cons rfl (.cons rfl (.cons rfl (.cons rfl (.cons rfl (.cons rfl .nil))))))) ?_
    refine Wp.condM h rfl (fun hc2 h => ?_) (fun hc2 h => ?_)
    · refine Wp.skip ?_
      refine Wp.seq ?_
      refine Wp.block ?_
      refine Wp.seq ?_
      obtain ⟨x2, hx2, h⟩ := bind_some h
      refine Wp.text [1, 2, 4, 6, 7, 8, 9] rfl rfl ?_ -- region 5
      refine TextR.fieldAddr fo24_1 rfl rfl rfl ?_
      refine TextR.load1 tk22 rfl rfl ?_
      refine TextR.move rfl ?_
      refine TextR.indexA se22 rfl rfl rfl hx2 rfl ?_
      refine TextR.loadNM tk41 rfl (at_get hx2) rfl ?_
      refine TextR.alloc 5 zc41 rfl rfl (.cons (.cons (.cons (.cons (.cons .nil))))) ?_
      refine TextR.store1 tk41 rfl rfl rfl rfl rfl rfl (.succ (.succ (.succ (.succ (.succ .zero))))) ?_
      refine TextR.done (.cons rfl (.cons rfl (.cons rfl (.cons rfl (.cons rfl (.cons rfl (.cons rfl .nil))))))) ?_
      refine Wp.seq ?_
      obtain ⟨y3, hy3, h⟩ := bind_some h
      refine Wp.go false none [[], [], [], [], [(29, true)], [(29, true)], [(29, true)], [(29, true)], []] [] [1, 2, 4, 6, 7, 8, 9, 34] mixed rfl rfl (by kernel_rfl) ?_ -- region 6
      refine RunR.fieldAddr fo41_2 rfl rfl rfl rfl rfl ?_
      refine RunR.load1 tk36 rfl rfl rfl rfl ?_
      refine RunR.int rfl rfl rfl rfl rfl ?_
      refine RunR.move rfl rfl rfl ?_
      refine RunR.fieldAddr fo41_1 rfl rfl rfl rfl rfl ?_
      refine RunR.load1 tk25 rfl rfl rfl rfl ?_
      refine RunR.move rfl rfl rfl ?_
      refine RunR.callG rfl rfl rfl (fun hb H => c_narthexref01_Has N x2.Need a1 y3 (ifT hy3 gT hb) H) ?_
      refine RunR.pickAnd rfl rfl rfl rfl ?_
      refine RunR.doneQ (.cons rfl (.cons rfl (.cons rfl (.cons rfl (.cons rfl (.cons rfl (.cons rfl (.cons rfl .nil)))))))) ?_
      refine Wp.condM h rfl (fun hc3 h => ?_) (fun hc3 h => ?_)
      · obtain ⟨x4, hx4, h⟩ := bind_some h
        refine Wp.text [1, 2, 4, 6, 7, 8] rfl rfl ?_ -- region 7
        refine TextR.move rfl ?_
        refine TextR.fieldAddr fo41_0 rfl rfl rfl ?_
        refine TextR.load1 tk3 rfl rfl ?_
        refine TextR.buildSlice (rows := [x2.ID].map eI) 6 se25 rfl rfl rfl (.cons (.cons (.cons (.cons (.cons (.cons .nil)))))) ?_
        refine TextR.appendM eI l4_1 [x2.ID] x4 (app_eq hx4) se25 rfl (obj_of rfl) rfl (view_whole (f := eI) (xs := [x2.ID]) rfl) (fun _ => rfl) rfl (app_len hx4) (.succ (.succ (.succ (.succ .zero)))) ?_
        refine TextR.assign rfl ?_
        refine TextR.done (.cons rfl (.cons rfl (.cons rfl (.cons rfl (.cons rfl (.cons rfl .nil)))))) ?_
        refine Wp.text [1, 2, 4, 6, 7, 8] rfl rfl ?_ -- region 4
        refine TextR.move rfl ?_
        refine TextR.int rfl rfl rfl ?_
        refine TextR.assign rfl ?_
        refine TextR.done (.cons rfl (.cons rfl (.cons rfl (.cons rfl (.cons rfl (.cons rfl .nil)))))) ?_
        exact ⟨m1, Nat.lt_succ_self _, _, (St.Weak.trans (keepW (live := [1, 2, 4, 6, 7, 8]) (.cons rfl (.cons rfl (.cons rfl (.cons rfl (.cons rfl (.cons rfl .nil))))))) (pickT (e' := [(1, .c (I a1)), (2, .c (.ptr 0 0 0 0)), (4, .c (.ptr 1 0 0 0)), (6, .c (.ptr 2 0 0 0)), (7, .c (.sl 4 (wh4_1 + 1) 0 x4.length)), (8, .c (I (w64 (s8_1 + 1))))]) (H' := [.live 0 2 [[I a0.Last, .slv (a0.Sess.map eSess)]], .live 0 2 [[I 0, nilS]], .live 0 2 [[I a0.Last, .sl 3 wh3_1 0 l3_1.length]], .live wh3_1 4 (l3_1.map eSess), .live (wh4_1 + 1) 1 (x4.map eI)]) [0, 1, 2, 3, 4] [0, 1, 2, 3, 4, 0, 0] 0 hok.len.symm rfl rfl (by decide) (by first | rfl | simp [-List.map_set]) (by first | rfl | simp [-List.map_set]) (by first | rfl | simp [-List.map_set]) (by first | rfl | simp [-List.map_set]))), _, _, _, _, _, h, rfl⟩
      · obtain ⟨x5, hx5, h⟩ := bind_some h
        refine Wp.text [1, 2, 4, 6, 7, 8] rfl rfl ?_ -- region 8
        refine TextR.fieldAddr fo24_1 rfl rfl rfl ?_
        refine TextR.load1 tk22 rfl rfl ?_
        refine TextR.loadN (cs := [I x2.ID, .slv (x2.Need.map eI), I x2.State, I x2.Age]) tk41 rfl rfl ?_
        refine TextR.buildSlice (rows := [x2].map eSess) 6 se22 rfl rfl rfl (.cons (.cons (.cons (.cons (.cons (.cons .nil)))))) ?_
        refine TextR.appendM eSess l3_1 [x2] x5 (app_eq hx5) se22 rfl (obj_of rfl) rfl (view_whole (f := eSess) (xs := [x2]) rfl) (fun _ => rfl) rfl (app_len hx5) (.succ (.succ (.succ .zero))) ?_
        refine TextR.fieldAddr fo24_1 rfl rfl rfl ?_
        refine TextR.storeF (r' := [I a0.Last, .sl 3 (wh3_1 + 1) 0 x5.length]) tk22 rfl rfl rfl rfl rfl rfl rfl (.succ (.succ .zero)) ?_
        refine TextR.done (.cons rfl (.cons rfl (.cons rfl (.cons rfl (.cons rfl (.cons rfl .nil)))))) ?_
        refine Wp.text [1, 2, 4, 6, 7, 8] rfl rfl ?_ -- region 4
        refine TextR.move rfl ?_
        refine TextR.int rfl rfl rfl ?_
        refine TextR.assign rfl ?_
        refine TextR.done (.cons rfl (.cons rfl (.cons rfl (.cons rfl (.cons rfl (.cons rfl .nil)))))) ?_
        exact ⟨m1, Nat.lt_succ_self _, _, (St.Weak.trans (keepW (live := [1, 2, 4, 6, 7, 8]) (.cons rfl (.cons rfl (.cons rfl (.cons rfl (.cons rfl (.cons rfl .nil))))))) (pickT (e' := [(1, .c (I a1)), (2, .c (.ptr 0 0 0 0)), (4, .c (.ptr 1 0 0 0)), (6, .c (.ptr 2 0 0 0)), (7, .c (.sl 4 wh4_1 0 l4_1.length)), (8, .c (I (w64 (s8_1 + 1))))]) (H' := [.live 0 2 [[I a0.Last, .slv (a0.Sess.map eSess)]], .live 0 2 [[I 0, nilS]], .live 0 2 [[I a0.Last, .sl 3 (wh3_1 + 1) 0 x5.length]], .live (wh3_1 + 1) 4 (x5.map eSess), .live wh4_1 1 (l4_1.map eI)]) [0, 1, 2, 3, 4] [0, 1, 2, 3, 4, 0, 0] 0 hok.len.symm rfl rfl (by decide) (by first | rfl | simp [-List.map_set]) (by first | rfl | simp [-List.map_set]) (by first | rfl | simp [-List.map_set]) (by first | rfl | simp [-List.map_set]))), _, _, _, _, _, h, rfl⟩
    · refine Wp.exit ?_
      obtain rfl := Option.some.inj h
      exact ⟨_, _, _, (St.Weak.trans (keepW (live := [4, 6, 7]) (.cons rfl (.cons rfl (.cons rfl .nil)))) (pickT (e' := [(4, .c (.ptr 0 0 0 0)), (6, .c (.ptr 1 0 0 0)), (7, .c (.sl 3 wh4_1 0 l4_1.length))]) (H' := [.live 0 2 [[I 0, nilS]], .live 0 2 [[I a0.Last, .sl 2 wh3_1 0 l3_1.length]], .live wh3_1 4 (l3_1.map eSess), .live wh4_1 1 (l4_1.map eI)]) [1, 2, 3, 4] [0, 0, 1, 2, 3] 0 hok.len.symm rfl rfl (by decide) (by first | rfl | simp [-List.map_set]) (by first | rfl | simp [-List.map_set]) (by first | rfl | simp [-List.map_set]) (by first | rfl | simp [-List.map_set]))), rfl⟩
  rintro _ ⟨wz1_2, wz1_3, S', hw, rfl⟩
  clear hz1
  refine Wp.weak hw ?_
  refine Wp.seq ?_
  refine Wp.text [4, 5] rfl rfl ?_ -- region 9
  refine TextR.loadN (cs := [I a0.Last, .sl 2 wz1_2 0 z1.1.length]) tk24 rfl rfl ?_
  refine TextR.move rfl ?_
  refine TextR.store1 tk24 rfl rfl rfl rfl rfl rfl .zero ?_
  refine TextR.assign rfl ?_
  refine TextR.done (.cons rfl (.cons rfl .nil)) ?_
  refine Wp.weak (keepW (live := [4, 5] ) (.cons rfl (.cons rfl .nil))) ?_
  refine Wp.weak (freezeW (h := 2) (ver := wz1_2) (rows := z1.1.map eSess) (e' := [(4, .c (.ptr 0 0 0 0)), (5, .c (.sl 3 wz1_3 0 z1.2.length))]) (H' := [.live 0 2 [[I a0.Last, .slv (z1.1.map eSess)]], .live 0 2 [[I a0.Last, .slv (z1.1.map eSess)]], .dead, .live wz1_3 1 (z1.2.map eI)]) (obj_of rfl) (by first | rfl | simp [-List.map_set]) (by first | rfl | simp [-List.map_set])) ?_
  refine Wp.weak (freezeW (h := 3) (ver := wz1_3) (rows := z1.2.map eI) (e' := [(4, .c (.ptr 0 0 0 0)), (5, .c (.slv (z1.2.map eI)))]) (H' := [.live 0 2 [[I a0.Last, .slv (z1.1.map eSess)]], .live 0 2 [[I a0.Last, .slv (z1.1.map eSess)]], .dead, .dead]) (obj_of rfl) (by first | rfl | simp [-List.map_set]) (by first | rfl | simp [-List.map_set])) ?_
  refine Wp.ret ?_
  obtain rfl := Option.some.inj h
  exact Ret.two rfl (resV_cellN tk24 rfl rfl) (resV_tmp rfl) rfl
theorem c_narthexref17_Gone (N : Nat) (a0 : TBook) (a1 : Int) (r : TBook × (List Int)) (h : narthexref17_Gone N a0 a1 = some r) (H : List Ob) : DCall Try.prog 33 [.agg (eBook a0), .c (I a1)] H (.tup [.agg (eBook r.1), .c (.slv (r.2.map eI))]) := DCall.lift (by first | rfl | simp [-List.map_set]) (by first | rfl | simp [-List.map_set]) (fun _ => by simp [-List.map_set]) (w_narthexref17_Gone N a0 a1 r h) H
-- narthex/narthexlaw17.told
theorem w_narthexlaw17_told (N : Nat) (a0 : TBook) (a1 : Tnarthexlaw17_Act) (r : TBook × (List Int) × Int) (h : narthexlaw17_told N a0 a1 = some r) : Nx.Call Try.prog 14 [.agg (eBook a0), .agg (enarthexlaw17_Act a1)] [] fun r' _ => r' = .tup [.agg (eBook r.1), .c (.slv (r.2.1.map eI)), .c (I r.2.2)] := by
  refine Nx.Call.of_body Try.func14 rfl en14 Try.ntmps14 rfl (fun Γ hok => ?_)
  unfold narthexlaw17_told at h
  refine Wp.seq ?_
  refine Wp.text [2, 3, 4] rfl rfl ?_ -- region 0
  refine TextR.box (cs := [I a0.Last, .slv (a0.Sess.map eSess)]) 0 rfl rfl rfl rfl .nil ?_
  refine TextR.box (cs := [I a1.K, I a1.ID, I a1.N, .slv (a1.Need.map eI)]) 1 rfl rfl rfl rfl (.cons .nil) ?_
  refine TextR.alloc 2 zc24 rfl rfl (.cons (.cons .nil)) ?_
  refine TextR.assign rfl ?_
  refine TextR.assign rfl ?_
  refine TextR.done (.cons rfl (.cons rfl (.cons rfl .nil))) ?_
  refine Wp.seq ?_
  refine Wp.seq ?_
  obtain ⟨y1, hy1, h⟩ := bind_some h
  refine Wp.text [2, 3, 4, 23] rfl rfl ?_ -- region 1
  refine TextR.loadN (cs := [I a0.Last, .slv (a0.Sess.map eSess)]) tk24 rfl rfl ?_
  refine TextR.dcall rfl rfl (c_narthexref17_Check N a0 y1 hy1 _) ?_
  refine TextR.not rfl ?_
  refine TextR.done (.cons rfl (.cons rfl (.cons rfl (.cons rfl .nil)))) ?_
  refine Wp.condM h rfl (fun hc1 h => ?_) (fun hc1 h => ?_)
  · refine Wp.seq ?_
    refine Wp.text [3, 4, 7] rfl rfl ?_ -- region 2
    refine TextR.buildSlice  3 se25 rfl rfl rfl (.cons (.cons (.cons .nil))) ?_
    refine TextR.assign rfl ?_
    refine TextR.done (.cons rfl (.cons rfl (.cons rfl .nil))) ?_
    refine Wp.seq ?_
    refine Wp.seq ?_
    refine Wp.go false none [[], [], [], [], [(28, false)], [(28, false)], [(28, false)], []] [] [4, 7, 32] mixed rfl rfl (by kernel_rfl) ?_ -- region 3
    refine RunR.fieldAddr fo27_0 rfl rfl rfl rfl rfl ?_
    refine RunR.load1 tk3 rfl rfl rfl rfl ?_
    refine RunR.int rfl rfl rfl rfl rfl ?_
    refine RunR.move rfl rfl rfl ?_
    refine RunR.fieldAddr fo27_0 rfl rfl rfl rfl rfl ?_
    refine RunR.load1 tk3 rfl rfl rfl rfl ?_
    refine RunR.int rfl rfl rfl rfl rfl ?_
    refine RunR.pickOr rfl rfl rfl rfl ?_
    refine RunR.doneQ (.cons rfl (.cons rfl (.cons rfl .nil))) ?_
    obtain ⟨z2, hz2, h⟩ := bind_some h
    refine Wp.fragN (fun S => ∃ S', St.Weak ⟨Try.prog, 106, Γ⟩ S S' ∧ S' = ⟨[(4, .c (.ptr 0 0 0 0)), (7, .c (.sl 1 0 0 z2.length))], [.live 0 2 [[I 0, nilS]], .live 0 1 (z2.map eI)]⟩) ?_ ?_
    · replace h := hz2
      refine Wp.condM h rfl (fun hc3 h => ?_) (fun hc3 h => ?_)
      · refine Wp.text [4, 7] rfl rfl ?_ -- region 4
        refine TextR.buildSlice (rows := [0].map eI) 4 se25 rfl rfl rfl (.cons (.cons (.cons (.cons .nil)))) ?_
        refine TextR.assign rfl ?_
        refine TextR.done (.cons rfl (.cons rfl .nil)) ?_
        obtain rfl := Option.some.inj h
        exact ⟨_, (St.Weak.trans (keepW (live := [4, 7]) (.cons rfl (.cons rfl .nil))) (pickT (e' := [(4, .c (.ptr 0 0 0 0)), (7, .c (.sl 1 0 0 [0].length))]) (H' := [.live 0 2 [[I 0, nilS]], .live 0 1 ([0].map eI)]) [2, 4] [0, 0, 0, 0, 1] 0 hok.len.symm rfl rfl (by decide) (by first | rfl | simp [-List.map_set]) (by first | rfl | simp [-List.map_set]) (by first | rfl | simp [-List.map_set]) (by first | rfl | simp [-List.map_set]))), rfl⟩
      · refine Wp.skip ?_
        obtain rfl := Option.some.inj h
        exact ⟨_, (St.Weak.trans (keepW (live := [4, 7]) (.cons rfl (.cons rfl .nil))) (pickT (e' := [(4, .c (.ptr 0 0 0 0)), (7, .c (.sl 1 0 0 ([] : List Int).length))]) (H' := [.live 0 2 [[I 0, nilS]], .live 0 1 (([] : List Int).map eI)]) [2, 3] [0, 0, 0, 1] 0 hok.len.symm rfl rfl (by decide) (by first | rfl | simp [-List.map_set]) (by first | rfl | simp [-List.map_set]) (by first | rfl | simp [-List.map_set]) (by first | rfl | simp [-List.map_set]))), rfl⟩
    rintro _ ⟨S', hw, rfl⟩
    clear hz2
    refine Wp.weak hw ?_
    refine Wp.seq ?_
    refine Wp.text [4, 5, 6] rfl rfl ?_ -- region 5
    refine TextR.build cm24 rfl ?_
    refine TextR.move rfl ?_
    refine TextR.store1 tk24 rfl rfl rfl rfl rfl rfl .zero ?_
    refine TextR.assign rfl ?_
    refine TextR.assign rfl ?_
    refine TextR.done (.cons rfl (.cons rfl (.cons rfl .nil))) ?_
    refine Wp.weak (keepW (live := [4, 5, 6] ) (.cons rfl (.cons rfl (.cons rfl .nil)))) ?_
    refine Wp.weak (freezeW (h := 1) (ver := 0) (rows := z2.map eI) (e' := [(4, .c (.ptr 0 0 0 0)), (5, .c (.slv (z2.map eI))), (6, .c (I 170))]) (H' := [.live 0 2 [[I 0, nilS]], .dead]) rfl (by first | rfl | simp [-List.map_set]) (by first | rfl | simp [-List.map_set])) ?_
    refine Wp.weak (nzT (e' := [(4, .c (.ptr 0 0 0 0)), (5, .c (.slv (z2.map eI))), (6, .c (I 170))]) (H' := [.live 0 2 [[I 0, .slv ([].map eSess)]], .dead]) (by first | rfl | simp [-List.map_set]) (by first | rfl | simp [-List.map_set])) ?_
    refine Wp.ret ?_
    obtain rfl := Option.some.inj h
    exact Ret.three rfl (resV_cellN tk24 rfl rfl) (resV_tmp rfl) (resV_tmp rfl) rfl
  · refine Wp.skip ?_
    refine Wp.seq ?_
    refine Wp.seq ?_
    refine Wp.text [2, 3, 4, 37] rfl rfl ?_ -- region 6
    refine TextR.fieldAddr fo27_0 rfl rfl rfl ?_
    refine TextR.load1 tk3 rfl rfl ?_
    refine TextR.done (.cons rfl (.cons rfl (.cons rfl (.cons rfl .nil)))) ?_
    refine Wp.block ?_
    refine Wp.seq ?_
    refine Wp.text [2, 3, 4, 37, 38] rfl rfl ?_ -- region 7
    refine TextR.int rfl rfl rfl ?_
    refine TextR.assign rfl ?_
    refine TextR.done (.cons rfl (.cons rfl (.cons rfl (.cons rfl (.cons rfl .nil))))) ?_
    refine Wp.condM h rfl (fun hc2 h => ?_) (fun hc2 h => ?_)
    · refine Wp.seq ?_
      obtain ⟨y3, hy3, h⟩ := bind_some h
      refine Wp.text [4, 8, 9] rfl rfl ?_ -- region 8
      refine TextR.loadN (cs := [I a0.Last, .slv (a0.Sess.map eSess)]) tk24 rfl rfl ?_
      refine TextR.fieldAddr fo27_1 rfl rfl rfl ?_
      refine TextR.load1 tk3 rfl rfl ?_
      refine TextR.fieldAddr fo27_3 rfl rfl rfl ?_
      refine TextR.load1 tk25 rfl rfl ?_
      refine TextR.dcall rfl rfl (c_narthexref17_Open N a0 a1.ID a1.Need y3 hy3 _) ?_
      refine TextR.move rfl ?_
      refine TextR.extract rfl rfl ?_
      refine TextR.extract rfl rfl ?_
      refine TextR.alloc 3 zc24 rfl rfl (.cons (.cons (.cons .nil))) ?_
      refine TextR.store1 tk24 rfl rfl rfl rfl rfl rfl (.succ (.succ (.succ .zero))) ?_
      refine TextR.assign rfl ?_
      refine TextR.done (.cons rfl (.cons rfl (.cons rfl .nil))) ?_
      refine Wp.seq ?_
      refine Wp.text [4, 5, 6] rfl rfl ?_ -- region 9
      refine TextR.loadN (cs := [I y3.1.Last, .slv (y3.1.Sess.map eSess)]) tk24 rfl rfl ?_
      refine TextR.move rfl ?_
      refine TextR.store1 tk24 rfl rfl rfl rfl rfl rfl (.succ (.succ .zero)) ?_
      refine TextR.assign rfl ?_
      refine TextR.assign rfl ?_
      refine TextR.done (.cons rfl (.cons rfl (.cons rfl .nil))) ?_
      refine Wp.weak (keepW (live := [4, 5, 6] ) (.cons rfl (.cons rfl (.cons rfl .nil)))) ?_
      refine Wp.weak (nzT (e' := [(4, .c (.ptr 2 0 0 0)), (5, .c (.slv ([].map eI))), (6, .c (I y3.2))]) (H' := [.live 0 2 [[I a0.Last, .slv (a0.Sess.map eSess)]], .live 0 4 [[I a1.K, I a1.ID, I a1.N, .slv (a1.Need.map eI)]], .live 0 2 [[I y3.1.Last, .slv (y3.1.Sess.map eSess)]], .live 0 2 [[I y3.1.Last, .slv (y3.1.Sess.map eSess)]]]) (by first | rfl | simp [-List.map_set]) (by first | rfl | simp [-List.map_set])) ?_
      refine Wp.ret ?_
      obtain rfl := Option.some.inj h
      exact Ret.three rfl (resV_cellN tk24 rfl rfl) (resV_tmp rfl) (resV_tmp rfl) rfl
    · refine Wp.seq ?_
      refine Wp.text [2, 3, 4, 37, 51] rfl rfl ?_ -- region 10
      refine TextR.int rfl rfl rfl ?_
      refine TextR.assign rfl ?_
      refine TextR.done (.cons rfl (.cons rfl (.cons rfl (.cons rfl (.cons rfl .nil))))) ?_
      refine Wp.condM h rfl (fun hc3 h => ?_) (fun hc3 h => ?_)
      · refine Wp.seq ?_
        obtain ⟨y4, hy4, h⟩ := bind_some h
        refine Wp.text [4, 10, 11, 12] rfl rfl ?_ -- region 11
        refine TextR.loadN (cs := [I a0.Last, .slv (a0.Sess.map eSess)]) tk24 rfl rfl ?_
        refine TextR.dcall rfl rfl (c_narthexref17_Grant N a0 y4 hy4 _) ?_
        refine TextR.move rfl ?_
        refine TextR.extract rfl rfl ?_
        refine TextR.extract rfl rfl ?_
        refine TextR.extract rfl rfl ?_
        refine TextR.alloc 3 zc24 rfl rfl (.cons (.cons (.cons .nil))) ?_
        refine TextR.store1 tk24 rfl rfl rfl rfl rfl rfl (.succ (.succ (.succ .zero))) ?_
        refine TextR.assign rfl ?_
        refine TextR.assign rfl ?_
        refine TextR.done (.cons rfl (.cons rfl (.cons rfl (.cons rfl .nil)))) ?_
        refine Wp.seq ?_
        refine Wp.text [4, 5, 6] rfl rfl ?_ -- region 12
        refine TextR.loadN (cs := [I y4.1.Last, .slv (y4.1.Sess.map eSess)]) tk24 rfl rfl ?_
        refine TextR.move rfl ?_
        refine TextR.buildSlice (rows := [y4.2.1].map eI) 4 se25 rfl rfl rfl (.cons (.cons (.cons (.cons .nil)))) ?_
        refine TextR.move rfl ?_
        refine TextR.store1 tk24 rfl rfl rfl rfl rfl rfl (.succ (.succ .zero)) ?_
        refine TextR.assign rfl ?_
        refine TextR.assign rfl ?_
        refine TextR.done (.cons rfl (.cons rfl (.cons rfl .nil))) ?_
        refine Wp.weak (keepW (live := [4, 5, 6] ) (.cons rfl (.cons rfl (.cons rfl .nil)))) ?_
        refine Wp.weak (freezeW (h := 4) (ver := 0) (rows := [y4.2.1].map eI) (e' := [(4, .c (.ptr 2 0 0 0)), (5, .c (.slv ([y4.2.1].map eI))), (6, .c (I y4.2.2))]) (H' := [.live 0 2 [[I a0.Last, .slv (a0.Sess.map eSess)]], .live 0 4 [[I a1.K, I a1.ID, I a1.N, .slv (a1.Need.map eI)]], .live 0 2 [[I y4.1.Last, .slv (y4.1.Sess.map eSess)]], .live 0 2 [[I y4.1.Last, .slv (y4.1.Sess.map eSess)]], .dead]) rfl (by first | rfl | simp [-List.map_set]) (by first | rfl | simp [-List.map_set])) ?_
        refine Wp.ret ?_
        obtain rfl := Option.some.inj h
        exact Ret.three rfl (resV_cellN tk24 rfl rfl) (resV_tmp rfl) (resV_tmp rfl) rfl
      · refine Wp.seq ?_
        refine Wp.text [2, 3, 4, 37, 63] rfl rfl ?_ -- region 13
        refine TextR.int rfl rfl rfl ?_
        refine TextR.assign rfl ?_
        refine TextR.done (.cons rfl (.cons rfl (.cons rfl (.cons rfl (.cons rfl .nil))))) ?_
        refine Wp.condM h rfl (fun hc4 h => ?_) (fun hc4 h => ?_)
        · refine Wp.seq ?_
          obtain ⟨y5, hy5, h⟩ := bind_some h
          refine Wp.text [4, 13, 14] rfl rfl ?_ -- region 14
          refine TextR.loadN (cs := [I a0.Last, .slv (a0.Sess.map eSess)]) tk24 rfl rfl ?_
          refine TextR.fieldAddr fo27_1 rfl rfl rfl ?_
          refine TextR.load1 tk3 rfl rfl ?_
          refine TextR.dcall rfl rfl (c_narthexref17_End N a0 a1.ID 1 y5 hy5 _) ?_
          refine TextR.move rfl ?_
          refine TextR.extract rfl rfl ?_
          refine TextR.extract rfl rfl ?_
          refine TextR.alloc 3 zc24 rfl rfl (.cons (.cons (.cons .nil))) ?_
          refine TextR.store1 tk24 rfl rfl rfl rfl rfl rfl (.succ (.succ (.succ .zero))) ?_
          refine TextR.assign rfl ?_
          refine TextR.done (.cons rfl (.cons rfl (.cons rfl .nil))) ?_
          refine Wp.seq ?_
          refine Wp.text [4, 5, 6] rfl rfl ?_ -- region 15
          refine TextR.loadN (cs := [I y5.1.Last, .slv (y5.1.Sess.map eSess)]) tk24 rfl rfl ?_
          refine TextR.move rfl ?_
          refine TextR.store1 tk24 rfl rfl rfl rfl rfl rfl (.succ (.succ .zero)) ?_
          refine TextR.assign rfl ?_
          refine TextR.assign rfl ?_
          refine TextR.done (.cons rfl (.cons rfl (.cons rfl .nil))) ?_
          refine Wp.weak (keepW (live := [4, 5, 6] ) (.cons rfl (.cons rfl (.cons rfl .nil)))) ?_
          refine Wp.weak (nzT (e' := [(4, .c (.ptr 2 0 0 0)), (5, .c (.slv ([].map eI))), (6, .c (I y5.2))]) (H' := [.live 0 2 [[I a0.Last, .slv (a0.Sess.map eSess)]], .live 0 4 [[I a1.K, I a1.ID, I a1.N, .slv (a1.Need.map eI)]], .live 0 2 [[I y5.1.Last, .slv (y5.1.Sess.map eSess)]], .live 0 2 [[I y5.1.Last, .slv (y5.1.Sess.map eSess)]]]) (by first | rfl | simp [-List.map_set]) (by first | rfl | simp [-List.map_set])) ?_
          refine Wp.ret ?_
          obtain rfl := Option.some.inj h
          exact Ret.three rfl (resV_cellN tk24 rfl rfl) (resV_tmp rfl) (resV_tmp rfl) rfl
        · refine Wp.seq ?_
          refine Wp.text [2, 3, 4, 37, 74] rfl rfl ?_ -- region 16
          refine TextR.int rfl rfl rfl ?_
          refine TextR.assign rfl ?_
          refine TextR.done (.cons rfl (.cons rfl (.cons rfl (.cons rfl (.cons rfl .nil))))) ?_
          refine Wp.condM h rfl (fun hc5 h => ?_) (fun hc5 h => ?_)
          · refine Wp.seq ?_
            obtain ⟨y6, hy6, h⟩ := bind_some h
            refine Wp.text [4, 15, 16] rfl rfl ?_ -- region 17
            refine TextR.loadN (cs := [I a0.Last, .slv (a0.Sess.map eSess)]) tk24 rfl rfl ?_
            refine TextR.fieldAddr fo27_1 rfl rfl rfl ?_
            refine TextR.load1 tk3 rfl rfl ?_
            refine TextR.dcall rfl rfl (c_narthexref17_End N a0 a1.ID 0 y6 hy6 _) ?_
            refine TextR.move rfl ?_
            refine TextR.extract rfl rfl ?_
            refine TextR.extract rfl rfl ?_
            refine TextR.alloc 3 zc24 rfl rfl (.cons (.cons (.cons .nil))) ?_
            refine TextR.store1 tk24 rfl rfl rfl rfl rfl rfl (.succ (.succ (.succ .zero))) ?_
            refine TextR.assign rfl ?_
            refine TextR.done (.cons rfl (.cons rfl (.cons rfl .nil))) ?_
            refine Wp.seq ?_
            refine Wp.text [4, 5, 6] rfl rfl ?_ -- region 18
            refine TextR.loadN (cs := [I y6.1.Last, .slv (y6.1.Sess.map eSess)]) tk24 rfl rfl ?_
            refine TextR.move rfl ?_
            refine TextR.store1 tk24 rfl rfl rfl rfl rfl rfl (.succ (.succ .zero)) ?_
            refine TextR.assign rfl ?_
            refine TextR.assign rfl ?_
            refine TextR.done (.cons rfl (.cons rfl (.cons rfl .nil))) ?_
            refine Wp.weak (keepW (live := [4, 5, 6] ) (.cons rfl (.cons rfl (.cons rfl .nil)))) ?_
            refine Wp.weak (nzT (e' := [(4, .c (.ptr 2 0 0 0)), (5, .c (.slv ([].map eI))), (6, .c (I y6.2))]) (H' := [.live 0 2 [[I a0.Last, .slv (a0.Sess.map eSess)]], .live 0 4 [[I a1.K, I a1.ID, I a1.N, .slv (a1.Need.map eI)]], .live 0 2 [[I y6.1.Last, .slv (y6.1.Sess.map eSess)]], .live 0 2 [[I y6.1.Last, .slv (y6.1.Sess.map eSess)]]]) (by first | rfl | simp [-List.map_set]) (by first | rfl | simp [-List.map_set])) ?_
            refine Wp.ret ?_
            obtain rfl := Option.some.inj h
            exact Ret.three rfl (resV_cellN tk24 rfl rfl) (resV_tmp rfl) (resV_tmp rfl) rfl
          · refine Wp.seq ?_
            refine Wp.text [2, 3, 4, 85] rfl rfl ?_ -- region 19
            refine TextR.int rfl rfl rfl ?_
            refine TextR.assign rfl ?_
            refine TextR.done (.cons rfl (.cons rfl (.cons rfl (.cons rfl .nil)))) ?_
            refine Wp.condM h rfl (fun hc6 h => ?_) (fun hc6 h => ?_)
            · refine Wp.seq ?_
              obtain ⟨y7, hy7, h⟩ := bind_some h
              refine Wp.text [4, 17, 18] rfl rfl ?_ -- region 20
              refine TextR.loadN (cs := [I a0.Last, .slv (a0.Sess.map eSess)]) tk24 rfl rfl ?_
              refine TextR.fieldAddr fo27_2 rfl rfl rfl ?_
              refine TextR.load1 tk3 rfl rfl ?_
              refine TextR.dcall rfl rfl (c_narthexref17_Tick N a0 a1.N y7 hy7 _) ?_
              refine TextR.move rfl ?_
              refine TextR.extract rfl rfl ?_
              refine TextR.extract rfl rfl ?_
              refine TextR.alloc 3 zc24 rfl rfl (.cons (.cons (.cons .nil))) ?_
              refine TextR.store1 tk24 rfl rfl rfl rfl rfl rfl (.succ (.succ (.succ .zero))) ?_
              refine TextR.assign rfl ?_
              refine TextR.done (.cons rfl (.cons rfl (.cons rfl .nil))) ?_
              refine Wp.seq ?_
              refine Wp.text [4, 5, 6] rfl rfl ?_ -- region 21
              refine TextR.loadN (cs := [I y7.1.Last, .slv (y7.1.Sess.map eSess)]) tk24 rfl rfl ?_
              refine TextR.move rfl ?_
              refine TextR.buildSlice (rows := [y7.2].map eI) 4 se25 rfl rfl rfl (.cons (.cons (.cons (.cons .nil)))) ?_
              refine TextR.store1 tk24 rfl rfl rfl rfl rfl rfl (.succ (.succ .zero)) ?_
              refine TextR.assign rfl ?_
              refine TextR.assign rfl ?_
              refine TextR.done (.cons rfl (.cons rfl (.cons rfl .nil))) ?_
              refine Wp.weak (keepW (live := [4, 5, 6] ) (.cons rfl (.cons rfl (.cons rfl .nil)))) ?_
              refine Wp.weak (freezeW (h := 4) (ver := 0) (rows := [y7.2].map eI) (e' := [(4, .c (.ptr 2 0 0 0)), (5, .c (.slv ([y7.2].map eI))), (6, .c (I 0))]) (H' := [.live 0 2 [[I a0.Last, .slv (a0.Sess.map eSess)]], .live 0 4 [[I a1.K, I a1.ID, I a1.N, .slv (a1.Need.map eI)]], .live 0 2 [[I y7.1.Last, .slv (y7.1.Sess.map eSess)]], .live 0 2 [[I y7.1.Last, .slv (y7.1.Sess.map eSess)]], .dead]) rfl (by first | rfl | simp [-List.map_set]) (by first | rfl | simp [-List.map_set])) ?_
              refine Wp.ret ?_
              obtain rfl := Option.some.inj h
              exact Ret.three rfl (resV_cellN tk24 rfl rfl) (resV_tmp rfl) (resV_tmp rfl) rfl
            · refine Wp.skip ?_
              refine Wp.seq ?_
              obtain ⟨y8, hy8, h⟩ := bind_some h
              refine Wp.text [4, 19, 20] rfl rfl ?_ -- region 22
              refine TextR.loadN (cs := [I a0.Last, .slv (a0.Sess.map eSess)]) tk24 rfl rfl ?_
              refine TextR.fieldAddr fo27_2 rfl rfl rfl ?_
              refine TextR.load1 tk3 rfl rfl ?_
              refine TextR.dcall rfl rfl (c_narthexref17_Gone N a0 a1.N y8 hy8 _) ?_
              refine TextR.move rfl ?_
              refine TextR.extract rfl rfl ?_
              refine TextR.extract rfl rfl ?_
              refine TextR.alloc 3 zc24 rfl rfl (.cons (.cons (.cons .nil))) ?_
              refine TextR.store1 tk24 rfl rfl rfl rfl rfl rfl (.succ (.succ (.succ .zero))) ?_
              refine TextR.assign rfl ?_
              refine TextR.done (.cons rfl (.cons rfl (.cons rfl .nil))) ?_
              refine Wp.seq ?_
              refine Wp.text [4, 5, 6] rfl rfl ?_ -- region 23
              refine TextR.loadN (cs := [I y8.1.Last, .slv (y8.1.Sess.map eSess)]) tk24 rfl rfl ?_
              refine TextR.move rfl ?_
              refine TextR.store1 tk24 rfl rfl rfl rfl rfl rfl (.succ (.succ .zero)) ?_
              refine TextR.assign rfl ?_
              refine TextR.assign rfl ?_
              refine TextR.done (.cons rfl (.cons rfl (.cons rfl .nil))) ?_
              refine Wp.ret ?_
              obtain rfl := Option.some.inj h
              exact Ret.three rfl (resV_cellN tk24 rfl rfl) (resV_tmp rfl) (resV_tmp rfl) rfl
theorem c_narthexlaw17_told (N : Nat) (a0 : TBook) (a1 : Tnarthexlaw17_Act) (r : TBook × (List Int) × Int) (h : narthexlaw17_told N a0 a1 = some r) (H : List Ob) : DCall Try.prog 14 [.agg (eBook a0), .agg (enarthexlaw17_Act a1)] H (.tup [.agg (eBook r.1), .c (.slv (r.2.1.map eI)), .c (I r.2.2)]) := DCall.lift (by first | rfl | simp [-List.map_set]) (by first | rfl | simp [-List.map_set]) (fun _ => by simp [-List.map_set]) (w_narthexlaw17_told N a0 a1 r h) H
-- narthex/narthexref17.Same
theorem w_narthexref17_Same (N : Nat) (a0 : TBook) (a1 : TBook) (r : Bool) (h : narthexref17_Same N a0 a1 = some r) : Nx.Call Try.prog 18 [.agg (eBook a0), .agg (eBook a1)] [] fun r' _ => r' = .c (B r) := by
  refine Nx.Call.of_body Try.func18 rfl en18 Try.ntmps18 rfl (fun Γ hok => ?_)
  unfold narthexref17_Same at h
  refine Wp.seq ?_
  refine Wp.text [2, 3] rfl rfl ?_ -- region 0
  refine TextR.box (cs := [I a0.Last, .slv (a0.Sess.map eSess)]) 0 rfl rfl rfl rfl .nil ?_
  refine TextR.box (cs := [I a1.Last, .slv (a1.Sess.map eSess)]) 1 rfl rfl rfl rfl (.cons .nil) ?_
  refine TextR.assign rfl ?_
  refine TextR.done (.cons rfl (.cons rfl .nil)) ?_
  refine Wp.seq ?_
  refine Wp.seq ?_
  refine Wp.go false none [[], [], [], [], [], [], [(13, false)], [(13, false)], [(13, false)], [(13, false)], [(13, false)], [(13, false)], [(13, false)], []] [] [2, 3, 21] mixed rfl rfl (by kernel_rfl) ?_ -- region 1
  refine RunR.fieldAddr fo24_0 rfl rfl rfl rfl rfl ?_
  refine RunR.load1 tk3 rfl rfl rfl rfl ?_
  refine RunR.fieldAddr fo24_0 rfl rfl rfl rfl rfl ?_
  refine RunR.load1 tk3 rfl rfl rfl rfl ?_
  refine RunR.int rfl rfl rfl rfl rfl ?_
  refine RunR.move rfl rfl rfl ?_
  refine RunR.fieldAddr fo24_1 rfl rfl rfl rfl rfl ?_
  refine RunR.load1 tk22 rfl rfl rfl rfl ?_
  refine RunR.lenM us22 rfl rfl rfl rfl ?_
  refine RunR.fieldAddr fo24_1 rfl rfl rfl rfl rfl ?_
  refine RunR.load1 tk22 rfl rfl rfl rfl ?_
  refine RunR.lenM us22 rfl rfl rfl rfl ?_
  refine RunR.int rfl rfl rfl rfl rfl ?_
  refine RunR.pickOr rfl rfl rfl rfl ?_
  refine RunR.doneQ (.cons rfl (.cons rfl (.cons rfl .nil))) ?_
  refine Wp.condM h rfl (fun hc1 h => ?_) (fun hc1 h => ?_)
  · refine Wp.seq ?_
    refine Wp.text [4] rfl rfl ?_ -- region 2
    refine TextR.assign rfl ?_
    refine TextR.done (.cons rfl .nil) ?_
    refine Wp.ret ?_
    obtain rfl := Option.some.inj h
    exact Ret.one rfl (resV_tmp rfl) rfl
  · refine Wp.skip ?_
    refine Wp.seq ?_
    refine Wp.seq ?_
    refine Wp.text [2, 3, 5] rfl rfl ?_ -- region 3
    refine TextR.assign rfl ?_
    refine TextR.done (.cons rfl (.cons rfl (.cons rfl .nil))) ?_
    obtain ⟨z1, hz1, h⟩ := bind_some h
    refine Wp.fragR (fun S => ∃ z3, z1 = .inr z3 ∧ ∃ S', St.Weak ⟨Try.prog, 66, Γ⟩ S S' ∧ S' = ⟨[], []⟩) (fun S => ∃ v, z1 = .inl v ∧ Ret Try.prog Try.f18 (fun r' _ => r' = .c (B v)) .ret S) ?_ ?_ ?_
    · replace h := hz1
      refine Wp.block ?_
      refine Wp.weak (keepW (live := [2, 3, 5]) (.cons rfl (.cons rfl (.cons rfl .nil)))) ?_
      refine Wp.loop (fun m S => ∃ s5_1, narthexref17_Same_L1 N a0 a1 m s5_1 = some z1 ∧ S = ⟨[(2, .c (.ptr 0 0 0 0)), (3, .c (.ptr 1 0 0 0)), (5, .c (I s5_1))], [.live 0 2 [[I a0.Last, .slv (a0.Sess.map eSess)]], .live 0 2 [[I a1.Last, .slv (a1.Sess.map eSess)]]]⟩) N ⟨_, h, rfl⟩ ?_
      rintro m1 _ ⟨s5_1, h, rfl⟩
      cases m1 with
      | zero => rw [narthexref17_Same_L1.eq_1] at h; cases h
      | succ m1 =>
      rw [narthexref17_Same_L1.eq_2] at h
      refine Wp.seq ?_
      refine Wp.seq ?_
      refine Wp.text [2, 3, 5, 26] rfl rfl ?_ -- region 4
      refine TextR.move rfl ?_
      refine TextR.fieldAddr fo24_1 rfl rfl rfl ?_
      refine TextR.load1 tk22 rfl rfl ?_
      refine TextR.lenM us22 rfl rfl ?_
      refine TextR.int rfl rfl rfl ?_
      refine TextR.done (.cons rfl (.cons rfl (.cons rfl (.cons rfl .nil)))) ?_
      refine Wp.condM h rfl (fun hc3 h => ?_) (fun hc3 h => ?_)
      · refine Wp.skip ?_
        refine Wp.seq ?_
        refine Wp.block ?_
        refine Wp.seq ?_
        obtain ⟨x4, hx4, h⟩ := bind_some h
        obtain ⟨x5, hx5, h⟩ := bind_some h
        refine Wp.ways (S0 := ⟨[(2, .c (.ptr 0 0 0 0)), (3, .c (.ptr 1 0 0 0)), (5, .c (I s5_1)), (6, .c (.ptr 2 0 0 0)), (7, .c (.ptr 3 0 0 0))], [.live 0 2 [[I a0.Last, .slv (a0.Sess.map eSess)]], .live 0 2 [[I a1.Last, .slv (a1.Sess.map eSess)]], .live 0 4 [[I x4.ID, .slv (x4.Need.map eI), I x4.State, I x4.Age]], .live 0 4 [[I x5.ID, .slv (x5.Need.map eI), I x5.State, I x5.Age]]]⟩) mixed ?_ ?_ -- region 6 WAYS
        · refine RegAny.fork 11 10 [0, 1, 2, 3, 4, 5, 6, 7, 8, 9, 10, 11, 12, 13] [0, 1, 2, 3, 4, 5, 6, 7, 8, 9, 11, 10, 12, 13] rfl rfl [10, 11, 12, 13] rfl (by kernel_rfl) ?_ ?_
          · refine RegAny.leaf ⟨[2, 3], []⟩ [[], [], [], [], [], [], [], [], [], [], [], [], [], []] [true, true, true, true, true, true, true, true, true, true, false, false, false, false] [2, 3, 5, 6, 7] rfl (by kernel_rfl) rfl ?_
            refine RunR.fieldAddr fo24_1 rfl rfl rfl rfl rfl ?_
            refine RunR.load1 tk22 rfl rfl rfl rfl ?_
            refine RunR.move rfl rfl rfl ?_
            refine RunR.indexA se22 rfl rfl rfl rfl rfl hx4 rfl ?_
            refine RunR.loadNM tk41 rfl rfl rfl (at_get hx4) rfl ?_
            refine RunR.fieldAddr fo24_1 rfl rfl rfl rfl rfl ?_
            refine RunR.load1 tk22 rfl rfl rfl rfl ?_
            refine RunR.move rfl rfl rfl ?_
            refine RunR.indexA se22 rfl rfl rfl rfl rfl hx5 rfl ?_
            refine RunR.loadNM tk41 rfl rfl rfl (at_get hx5) rfl ?_
            refine RunR.alloc 2 zc41 rfl rfl rfl rfl (.cons (.cons .nil)) ?_
            refine RunR.alloc 3 zc41 rfl rfl rfl rfl (.cons (.cons (.cons .nil))) ?_
            refine RunR.store1 tk41 rfl rfl rfl rfl rfl rfl rfl rfl (.succ (.succ .zero)) ?_
            refine RunR.store1 tk41 rfl rfl rfl rfl rfl rfl rfl rfl (.succ (.succ (.succ .zero))) ?_
            refine RunR.nil ⟨_, (.cons rfl (.cons rfl (.cons rfl (.cons rfl (.cons rfl .nil))))), .refl⟩
          · refine RegAny.leaf ⟨[2, 3], []⟩ [[], [], [], [], [], [], [], [], [], [], [], [], [], []] [true, true, true, true, true, true, true, true, true, true, false, false, false, false] [2, 3, 5, 6, 7] rfl (by kernel_rfl) rfl ?_
            refine RunR.fieldAddr fo24_1 rfl rfl rfl rfl rfl ?_
            refine RunR.load1 tk22 rfl rfl rfl rfl ?_
            refine RunR.move rfl rfl rfl ?_
            refine RunR.indexA se22 rfl rfl rfl rfl rfl hx4 rfl ?_
            refine RunR.loadNM tk41 rfl rfl rfl (at_get hx4) rfl ?_
            refine RunR.fieldAddr fo24_1 rfl rfl rfl rfl rfl ?_
            refine RunR.load1 tk22 rfl rfl rfl rfl ?_
            refine RunR.move rfl rfl rfl ?_
            refine RunR.indexA se22 rfl rfl rfl rfl rfl hx5 rfl ?_
            refine RunR.loadNM tk41 rfl rfl rfl (at_get hx5) rfl ?_
            refine RunR.alloc 2 zc41 rfl rfl rfl rfl (.cons (.cons .nil)) ?_
            refine RunR.alloc 3 zc41 rfl rfl rfl rfl (.cons (.cons (.cons .nil))) ?_
            refine RunR.store1 tk41 rfl rfl rfl rfl rfl rfl rfl rfl (.succ (.succ (.succ .zero))) ?_
            refine RunR.store1 tk41 rfl rfl rfl rfl rfl rfl rfl rfl (.succ (.succ .zero)) ?_
            refine RunR.nil ⟨_, (.cons rfl (.cons rfl (.cons rfl (.cons rfl (.cons rfl .nil))))), (pickT (e' := [(2, .c (.ptr 0 0 0 0)), (3, .c (.ptr 1 0 0 0)), (5, .c (I s5_1)), (6, .c (.ptr 2 0 0 0)), (7, .c (.ptr 3 0 0 0))]) (H' := [.live 0 2 [[I a0.Last, .slv (a0.Sess.map eSess)]], .live 0 2 [[I a1.Last, .slv (a1.Sess.map eSess)]], .live 0 4 [[I x4.ID, .slv (x4.Need.map eI), I x4.State, I x4.Age]], .live 0 4 [[I x5.ID, .slv (x5.Need.map eI), I x5.State, I x5.Age]]]) [0, 1, 3, 2] [0, 1, 3, 2] 0 hok.len.symm rfl rfl (by decide) (by first | rfl | simp [-List.map_set]) (by first | rfl | simp [-List.map_set]) (by first | rfl | simp [-List.map_set]) (by first | rfl | simp [-List.map_set]))⟩
        refine Wp.seq ?_
        obtain ⟨y6, hy6, h⟩ := bind_some h
        refine Wp.go false none [[], [], [], [], [], [], [(44, false)], [(44, false)], [(44, false)], [(44, false)], [(44, false)], [], [], [(51, false)], [(51, false)], [(51, false)], [(51, false)], [(51, false)], [], [], [(58, false)], [(58, false)], [(58, false)], [(58, false)], [(58, false)], [(58, false)], []] [] [2, 3, 5, 65] mixed rfl rfl (by kernel_rfl) ?_ -- region 7
        refine RunR.fieldAddr fo41_0 rfl rfl rfl rfl rfl ?_
        refine RunR.load1 tk3 rfl rfl rfl rfl ?_
        refine RunR.fieldAddr fo41_0 rfl rfl rfl rfl rfl ?_
        refine RunR.load1 tk3 rfl rfl rfl rfl ?_
        refine RunR.int rfl rfl rfl rfl rfl ?_
        refine RunR.move rfl rfl rfl ?_
        refine RunR.fieldAddr fo41_2 rfl rfl rfl rfl rfl ?_
        refine RunR.load1 tk36 rfl rfl rfl rfl ?_
        refine RunR.fieldAddr fo41_2 rfl rfl rfl rfl rfl ?_
        refine RunR.load1 tk36 rfl rfl rfl rfl ?_
        refine RunR.int rfl rfl rfl rfl rfl ?_
        refine RunR.pickOr rfl rfl rfl rfl ?_
        refine RunR.move rfl rfl rfl ?_
        refine RunR.fieldAddr fo41_3 rfl rfl rfl rfl rfl ?_
        refine RunR.load1 tk3 rfl rfl rfl rfl ?_
        refine RunR.fieldAddr fo41_3 rfl rfl rfl rfl rfl ?_
        refine RunR.load1 tk3 rfl rfl rfl rfl ?_
        refine RunR.int rfl rfl rfl rfl rfl ?_
        refine RunR.pickOr rfl rfl rfl rfl ?_
        refine RunR.move rfl rfl rfl ?_
        refine RunR.fieldAddr fo41_1 rfl rfl rfl rfl rfl ?_
        refine RunR.load1 tk25 rfl rfl rfl rfl ?_
        refine RunR.fieldAddr fo41_1 rfl rfl rfl rfl rfl ?_
        refine RunR.load1 tk25 rfl rfl rfl rfl ?_
        refine RunR.callG rfl rfl rfl (fun hb H => c_narthexref01_Same N x4.Need x5.Need y6 (ifT hy6 gF hb) H) ?_
        refine RunR.not rfl rfl rfl ?_
        refine RunR.pickOr rfl rfl rfl rfl ?_
        refine RunR.doneQ (.cons rfl (.cons rfl (.cons rfl (.cons rfl .nil)))) ?_
        refine Wp.condM h rfl (fun hc4 h => ?_) (fun hc4 h => ?_)
        · refine Wp.seq ?_
          refine Wp.text [4] rfl rfl ?_ -- region 8
          refine TextR.assign rfl ?_
          refine TextR.done (.cons rfl .nil) ?_
          refine Wp.ret ?_
          exact ⟨_, (Option.some.inj h).symm, Ret.one rfl (resV_tmp rfl) rfl⟩
        · refine Wp.skip ?_
          refine Wp.text [2, 3, 5] rfl rfl ?_ -- region 5
          refine TextR.move rfl ?_
          refine TextR.int rfl rfl rfl ?_
          refine TextR.assign rfl ?_
          refine TextR.done (.cons rfl (.cons rfl (.cons rfl .nil))) ?_
          exact ⟨m1, Nat.lt_succ_self _, _, (St.Weak.trans (keepW (live := [2, 3, 5]) (.cons rfl (.cons rfl (.cons rfl .nil)))) (pickT (e' := [(2, .c (.ptr 0 0 0 0)), (3, .c (.ptr 1 0 0 0)), (5, .c (I (w64 (s5_1 + 1))))]) (H' := [.live 0 2 [[I a0.Last, .slv (a0.Sess.map eSess)]], .live 0 2 [[I a1.Last, .slv (a1.Sess.map eSess)]]]) [0, 1] [0, 1, 0, 0] 0 hok.len.symm rfl rfl (by decide) (by first | rfl | simp [-List.map_set]) (by first | rfl | simp [-List.map_set]) (by first | rfl | simp [-List.map_set]) (by first | rfl | simp [-List.map_set]))), _, h, rfl⟩
      · refine Wp.exit ?_
        exact ⟨_, (Option.some.inj h).symm, _, (St.Weak.trans (keepW (live := []) .nil) (pickT (e' := []) (H' := []) [] [0, 0] 0 hok.len.symm rfl rfl (by decide) (by first | rfl | simp [-List.map_set]) (by first | rfl | simp [-List.map_set]) (by first | rfl | simp [-List.map_set]) (by first | rfl | simp [-List.map_set]))), rfl⟩
    · rintro _ ⟨z3, rfl, _, hw, rfl⟩
      dsimp only at h
      clear hz1
      refine Wp.weak hw ?_
      refine Wp.seq ?_
      refine Wp.text [4] rfl rfl ?_ -- region 9
      refine TextR.assign rfl ?_
      refine TextR.done (.cons rfl .nil) ?_
      refine Wp.ret ?_
      obtain rfl := Option.some.inj h
      exact Ret.one rfl (resV_tmp rfl) rfl
    · rintro S' ⟨r2, rfl, hR⟩
      dsimp only at h
      obtain rfl := Option.some.inj h
      exact hR
theorem c_narthexref17_Same (N : Nat) (a0 : TBook) (a1 : TBook) (r : Bool) (h : narthexref17_Same N a0 a1 = some r) (H : List Ob) : DCall Try.prog 18 [.agg (eBook a0), .agg (eBook a1)] H (.c (B r)) := DCall.lift (by first | rfl | simp [-List.map_set]) (by first | rfl | simp [-List.map_set]) (fun _ => by simp [-List.map_set]) (w_narthexref17_Same N a0 a1 r h) H
-- narthex/narthexlaw17.SessSteps
theorem w_narthexlaw17_SessSteps (N : Nat) (a0 : TBook) (a1 : TBook) (a2 : Tnarthexlaw17_Act) (a3 : Int) (r : Bool) (h : narthexlaw17_SessSteps N a0 a1 a2 a3 = some r) : Nx.Call Try.prog 3 [.agg (eBook a0), .agg (eBook a1), .agg (enarthexlaw17_Act a2), .c (I a3)] [] fun r' _ => r' = .c (B r) := by
  refine Nx.Call.of_body Try.func3 rfl en3 Try.ntmps3 rfl (fun Γ hok => ?_)
  unfold narthexlaw17_SessSteps at h
  refine Wp.seq ?_
  refine Wp.text [3, 4, 5, 6] rfl rfl ?_ -- region 0
  refine TextR.box (cs := [I a0.Last, .slv (a0.Sess.map eSess)]) 0 rfl rfl rfl rfl .nil ?_
  refine TextR.box (cs := [I a1.Last, .slv (a1.Sess.map eSess)]) 1 rfl rfl rfl rfl (.cons .nil) ?_
  refine TextR.box (cs := [I a2.K, I a2.ID, I a2.N, .slv (a2.Need.map eI)]) 2 rfl rfl rfl rfl (.cons (.cons .nil)) ?_
  refine TextR.assign rfl ?_
  refine TextR.done (.cons rfl (.cons rfl (.cons rfl (.cons rfl .nil)))) ?_
  refine Wp.seq ?_
  refine Wp.seq ?_
  obtain ⟨z1, hz1, h⟩ := bind_some h
  refine Wp.fragN (fun S => ∃ S', St.Weak ⟨Try.prog, 132, Γ⟩ S S' ∧ S' = ⟨[(3, .c (I a3)), (4, .c (.ptr 0 0 0 0)), (5, .c (.ptr 1 0 0 0)), (6, .c (.ptr 2 0 0 0)), (37, .c (B z1))], [.live 0 2 [[I a0.Last, .slv (a0.Sess.map eSess)]], .live 0 2 [[I a1.Last, .slv (a1.Sess.map eSess)]], .live 0 4 [[I a2.K, I a2.ID, I a2.N, .slv (a2.Need.map eI)]]]⟩) ?_ ?_
  · replace h := hz1
    refine Wp.text [3, 4, 5, 6, 37] rfl rfl ?_ -- region 1 SPLIT
    obtain ⟨y2, hy2, h⟩ := bind_some h
    refine TextR.dcall rfl rfl (c_narthexlaw17_awake N y2 hy2 _) ?_
    refine TextR.not rfl ?_
    refine TextR.move rfl ?_
    refine TextR.byBool 22 rfl (fun hv => ?_) (fun hv => ?_)
    · rw [if_pos (by simpa using hv)] at h
      refine TextR.off rfl ?_
      refine TextR.off rfl ?_
      refine TextR.off rfl ?_
      refine TextR.pickOr1 rfl rfl ?_
      refine TextR.move rfl ?_
      refine TextR.off rfl ?_
      refine TextR.off rfl ?_
      refine TextR.off rfl ?_
      refine TextR.pickOr1 rfl rfl ?_
      refine TextR.move rfl ?_
      refine TextR.off rfl ?_
      refine TextR.off rfl ?_
      refine TextR.off rfl ?_
      refine TextR.off rfl ?_
      refine TextR.pickOr1 rfl rfl ?_
      refine TextR.done (.cons rfl (.cons rfl (.cons rfl (.cons rfl (.cons rfl .nil))))) ?_
      obtain rfl := Option.some.inj h
      exact ⟨_, (keepW (live := [3, 4, 5, 6, 37]) (.cons rfl (.cons rfl (.cons rfl (.cons rfl (.cons rfl .nil)))))), rfl⟩
    · rw [if_neg (by simpa using hv)] at h
      refine TextR.gloadN rfl (cs := [I a0.Last, .slv (a0.Sess.map eSess)]) tk24 rfl rfl ?_
      obtain ⟨y3, hy3, h⟩ := bind_some h
      refine TextR.dcallG rfl rfl rfl (c_narthexref17_Few N a0 y3 hy3 _) ?_
      refine TextR.gnot rfl rfl ?_
      refine TextR.pickOr rfl rfl ?_
      refine TextR.move rfl ?_
      refine TextR.byBool 27 rfl (fun hv => ?_) (fun hv => ?_)
      · rw [if_pos (by simpa using hv)] at h
        refine TextR.off rfl ?_
        refine TextR.off rfl ?_
        refine TextR.off rfl ?_
        refine TextR.pickOr1 rfl rfl ?_
        refine TextR.move rfl ?_
        refine TextR.off rfl ?_
        refine TextR.off rfl ?_
        refine TextR.off rfl ?_
        refine TextR.off rfl ?_
        refine TextR.pickOr1 rfl rfl ?_
        refine TextR.done (.cons rfl (.cons rfl (.cons rfl (.cons rfl (.cons rfl .nil))))) ?_
        obtain rfl := Option.some.inj h
        exact ⟨_, (keepW (live := [3, 4, 5, 6, 37]) (.cons rfl (.cons rfl (.cons rfl (.cons rfl (.cons rfl .nil)))))), rfl⟩
      · rw [if_neg (by simpa using hv)] at h
        refine TextR.gloadN rfl (cs := [I a1.Last, .slv (a1.Sess.map eSess)]) tk24 rfl rfl ?_
        obtain ⟨y4, hy4, h⟩ := bind_some h
        refine TextR.dcallG rfl rfl rfl (c_narthexref17_Few N a1 y4 hy4 _) ?_
        refine TextR.gnot rfl rfl ?_
        refine TextR.pickOr rfl rfl ?_
        refine TextR.move rfl ?_
        refine TextR.byBool 32 rfl (fun hv => ?_) (fun hv => ?_)
        · rw [if_pos (by simpa using hv)] at h
          refine TextR.off rfl ?_
          refine TextR.off rfl ?_
          refine TextR.off rfl ?_
          refine TextR.off rfl ?_
          refine TextR.pickOr1 rfl rfl ?_
          refine TextR.done (.cons rfl (.cons rfl (.cons rfl (.cons rfl (.cons rfl .nil))))) ?_
          obtain rfl := Option.some.inj h
          exact ⟨_, (keepW (live := [3, 4, 5, 6, 37]) (.cons rfl (.cons rfl (.cons rfl (.cons rfl (.cons rfl .nil)))))), rfl⟩
        · rw [if_neg (by simpa using hv)] at h
          refine TextR.gloadN rfl (cs := [I a2.K, I a2.ID, I a2.N, .slv (a2.Need.map eI)]) tk27 rfl rfl ?_
          refine TextR.gbuildSlice rfl (rows := [a2].map enarthexlaw17_Act) 3 se31 rfl rfl rfl (.cons (.cons (.cons .nil))) ?_
          obtain ⟨y5, hy5, h⟩ := bind_some h
          refine TextR.dcallG rfl rfl rfl (DCall.borrow (fs := [.c (.slv ([a2].map enarthexlaw17_Act))]) (by simp [-List.map_set, obj, List.take_of_length_le]) (by first | rfl | simp [-List.map_set]) rfl (w_narthexlaw17_few N [a2] y5 hy5)) ?_
          refine TextR.gnot rfl rfl ?_
          refine TextR.pickOr rfl rfl ?_
          refine TextR.done (.cons rfl (.cons rfl (.cons rfl (.cons rfl (.cons rfl .nil))))) ?_
          obtain rfl := Option.some.inj h
          exact ⟨_, (St.Weak.trans (keepW (live := [3, 4, 5, 6, 37]) (.cons rfl (.cons rfl (.cons rfl (.cons rfl (.cons rfl .nil)))))) (pickT (e' := [(3, .c (I a3)), (4, .c (.ptr 0 0 0 0)), (5, .c (.ptr 1 0 0 0)), (6, .c (.ptr 2 0 0 0)), (37, .c (B (!y5)))]) (H' := [.live 0 2 [[I a0.Last, .slv (a0.Sess.map eSess)]], .live 0 2 [[I a1.Last, .slv (a1.Sess.map eSess)]], .live 0 4 [[I a2.K, I a2.ID, I a2.N, .slv (a2.Need.map eI)]]]) [0, 1, 2] [0, 1, 2, 0] 0 hok.len.symm rfl rfl (by decide) (by first | rfl | simp [-List.map_set]) (by first | rfl | simp [-List.map_set]) (by first | rfl | simp [-List.map_set]) (by first | rfl | simp [-List.map_set]))), rfl⟩
  rintro _ ⟨S', hw, rfl⟩
  clear hz1
  refine Wp.weak hw ?_
  refine Wp.condM h rfl (fun hc1 h => ?_) (fun hc1 h => ?_)
  · refine Wp.seq ?_
    obtain ⟨y6, hy6, h⟩ := bind_some h
    refine Wp.text [8] rfl rfl ?_ -- region 2
    refine TextR.dcall rfl rfl (c_narthexlaw17_awake N y6 hy6 _) ?_
    refine TextR.assign rfl ?_
    refine TextR.done (.cons rfl .nil) ?_
    refine Wp.ret ?_
    obtain rfl := Option.some.inj h
    exact Ret.one rfl (resV_tmp rfl) rfl
  · refine Wp.skip ?_
    refine Wp.seq ?_
    refine Wp.text [3, 4, 5, 6] rfl rfl ?_ -- region 3
    refine TextR.fieldAddr fo27_0 rfl rfl rfl ?_
    refine TextR.load1 tk3 rfl rfl ?_
    refine TextR.minmax (.inr rfl) rfl ?_
    refine TextR.minmax (.inl rfl) rfl ?_
    refine TextR.fieldAddr fo27_0 rfl rfl rfl ?_
    refine TextR.storeF (r' := [I (min (max a2.K 0) 5), I a2.ID, I a2.N, .slv (a2.Need.map eI)]) tk3 rfl rfl rfl rfl rfl rfl rfl (.succ (.succ .zero)) ?_
    refine TextR.done (.cons rfl (.cons rfl (.cons rfl (.cons rfl .nil)))) ?_
    refine Wp.seq ?_
    obtain ⟨y7, hy7, h⟩ := bind_some h
    obtain ⟨y8, hy8, h⟩ := bind_some h
    refine Wp.go true (some ⟨[3], []⟩) [] [true, true, true, true, true, true, true, true, false, false, false, false] [3, 4, 5, 6, 9, 10, 11] mixed rfl rfl (by kernel_rfl) ?_ -- region 4
    refine RunR.loadN (cs := [I a0.Last, .slv (a0.Sess.map eSess)]) tk24 rfl rfl rfl rfl ?_
    refine RunR.call rfl rfl rfl (fun H => c_narthexlaw17_Own N a0 y7 hy7 H) ?_
    refine RunR.loadN (cs := [I (min (max a2.K 0) 5), I a2.ID, I a2.N, .slv (a2.Need.map eI)]) tk27 rfl rfl rfl rfl ?_
    refine RunR.call rfl rfl rfl (fun H => c_narthexlaw17_act N y7 { a2 with K := min (max a2.K 0) 5 } y8 hy8 H) ?_
    refine RunR.move rfl rfl rfl ?_
    refine RunR.extract rfl rfl rfl rfl ?_
    refine RunR.extract rfl rfl rfl rfl ?_
    refine RunR.extract rfl rfl rfl rfl ?_
    refine RunR.alloc 3 zc24 rfl rfl rfl rfl (.cons (.cons (.cons .nil))) ?_
    refine RunR.store1 tk24 rfl rfl rfl rfl rfl rfl rfl rfl (.succ (.succ (.succ .zero))) ?_
    refine RunR.assign rfl rfl rfl ?_
    refine RunR.assign rfl rfl rfl ?_
    refine RunR.doneQ (.cons rfl (.cons rfl (.cons rfl (.cons rfl (.cons rfl (.cons rfl (.cons rfl .nil))))))) ?_
    refine Wp.seq ?_
    obtain ⟨y9, hy9, h⟩ := bind_some h
    refine Wp.text [3, 4, 5, 9, 10, 11, 12, 13, 14] rfl rfl ?_ -- region 5
    refine TextR.loadN (cs := [I a0.Last, .slv (a0.Sess.map eSess)]) tk24 rfl rfl ?_
    refine TextR.loadN (cs := [I (min (max a2.K 0) 5), I a2.ID, I a2.N, .slv (a2.Need.map eI)]) tk27 rfl rfl ?_
    refine TextR.dcall rfl rfl (c_narthexlaw17_told N a0 { a2 with K := min (max a2.K 0) 5 } y9 hy9 _) ?_
    refine TextR.move rfl ?_
    refine TextR.extract rfl rfl ?_
    refine TextR.extract rfl rfl ?_
    refine TextR.extract rfl rfl ?_
    refine TextR.alloc 4 zc24 rfl rfl (.cons (.cons (.cons (.cons .nil)))) ?_
    refine TextR.store1 tk24 rfl rfl rfl rfl rfl rfl (.succ (.succ (.succ (.succ .zero)))) ?_
    refine TextR.assign rfl ?_
    refine TextR.assign rfl ?_
    refine TextR.done (.cons rfl (.cons rfl (.cons rfl (.cons rfl (.cons rfl (.cons rfl (.cons rfl (.cons rfl (.cons rfl .nil))))))))) ?_
    refine Wp.seq ?_
    obtain ⟨y10, hy10, h⟩ := bind_some h
    obtain ⟨y11, hy11, h⟩ := bind_some h
    refine Wp.text [3, 4, 5, 9, 10, 11, 12, 13, 14, 15, 16] rfl rfl ?_ -- region 6
    refine TextR.loadN (cs := [I a0.Last, .slv (a0.Sess.map eSess)]) tk24 rfl rfl ?_
    refine TextR.dcall rfl rfl (c_narthexlaw17_Own N a0 y10 hy10 _) ?_
    refine TextR.move rfl ?_
    refine TextR.dcall rfl rfl (c_sess_Poll N y10 a3 y11 hy11 _) ?_
    refine TextR.move rfl ?_
    refine TextR.extract rfl rfl ?_
    refine TextR.extract rfl rfl ?_
    refine TextR.assign rfl ?_
    refine TextR.assign rfl ?_
    refine TextR.done (.cons rfl (.cons rfl (.cons rfl (.cons rfl (.cons rfl (.cons rfl (.cons rfl (.cons rfl (.cons rfl (.cons rfl (.cons rfl .nil))))))))))) ?_
    refine Wp.seq ?_
    obtain ⟨y12, hy12, h⟩ := bind_some h
    refine Wp.text [4, 5, 9, 10, 11, 12, 13, 14, 15, 16, 17] rfl rfl ?_ -- region 7
    refine TextR.loadN (cs := [I a0.Last, .slv (a0.Sess.map eSess)]) tk24 rfl rfl ?_
    refine TextR.move rfl ?_
    refine TextR.dcall rfl rfl (c_narthexref17_Find N a0 a3 y12 hy12 _) ?_
    refine TextR.assign rfl ?_
    refine TextR.done (.cons rfl (.cons rfl (.cons rfl (.cons rfl (.cons rfl (.cons rfl (.cons rfl (.cons rfl (.cons rfl (.cons rfl (.cons rfl .nil))))))))))) ?_
    refine Wp.seq ?_
    obtain ⟨y13, hy13, h⟩ := bind_some h
    refine Wp.text [4, 5, 9, 10, 11, 12, 13, 14, 15, 16, 17, 18] rfl rfl ?_ -- region 8
    refine TextR.loadN (cs := [I a0.Last, .slv (a0.Sess.map eSess)]) tk24 rfl rfl ?_
    refine TextR.dcall rfl rfl (c_narthexref17_Check N a0 y13 hy13 _) ?_
    refine TextR.assign rfl ?_
    refine TextR.done (.cons rfl (.cons rfl (.cons rfl (.cons rfl (.cons rfl (.cons rfl (.cons rfl (.cons rfl (.cons rfl (.cons rfl (.cons rfl (.cons rfl .nil)))))))))))) ?_
    refine Wp.seq ?_
    refine Wp.text [4, 5, 9, 10, 11, 12, 13, 14, 15, 16, 17, 18, 19] rfl rfl ?_ -- region 9
    refine TextR.assign rfl ?_
    refine TextR.done (.cons rfl (.cons rfl (.cons rfl (.cons rfl (.cons rfl (.cons rfl (.cons rfl (.cons rfl (.cons rfl (.cons rfl (.cons rfl (.cons rfl (.cons rfl .nil))))))))))))) ?_
    refine Wp.seq ?_
    refine Wp.seq ?_
    refine Wp.text [4, 5, 9, 10, 11, 12, 13, 14, 15, 16, 17, 18, 19, 72] rfl rfl ?_ -- region 10
    refine TextR.move rfl ?_
    refine TextR.not rfl ?_
    refine TextR.done (.cons rfl (.cons rfl (.cons rfl (.cons rfl (.cons rfl (.cons rfl (.cons rfl (.cons rfl (.cons rfl (.cons rfl (.cons rfl (.cons rfl (.cons rfl (.cons rfl .nil)))))))))))))) ?_
    obtain ⟨z14, hz14, h⟩ := bind_some h
    refine Wp.fragN (fun S => ∃ S', St.Weak ⟨Try.prog, 132, Γ⟩ S S' ∧ S' = ⟨[(4, .c (.ptr 0 0 0 0)), (5, .c (.ptr 1 0 0 0)), (9, .c (.ptr 2 0 0 0)), (10, .c (.slv (y8.2.1.map eI))), (11, .c (I y8.2.2)), (12, .c (.ptr 3 0 0 0)), (13, .c (.slv (y9.2.1.map eI))), (14, .c (I y9.2.2)), (15, .c (I y11.1)), (16, .c (I y11.2)), (17, .c (I y12)), (18, .c (B y13)), (19, .c (I z14))], [.live 0 2 [[I a0.Last, .slv (a0.Sess.map eSess)]], .live 0 2 [[I a1.Last, .slv (a1.Sess.map eSess)]], .live 0 2 [[I y8.1.Last, .slv (y8.1.Sess.map eSess)]], .live 0 2 [[I y9.1.Last, .slv (y9.1.Sess.map eSess)]]]⟩) ?_ ?_
    · replace h := hz14
      refine Wp.condM h rfl (fun hc3 h => ?_) (fun hc3 h => ?_)
      · refine Wp.text [4, 5, 9, 10, 11, 12, 13, 14, 15, 16, 17, 18, 19] rfl rfl ?_ -- region 11
        refine TextR.assign rfl ?_
        refine TextR.done (.cons rfl (.cons rfl (.cons rfl (.cons rfl (.cons rfl (.cons rfl (.cons rfl (.cons rfl (.cons rfl (.cons rfl (.cons rfl (.cons rfl (.cons rfl .nil))))))))))))) ?_
        obtain rfl := Option.some.inj h
        exact ⟨_, (St.Weak.trans (keepW (live := [4, 5, 9, 10, 11, 12, 13, 14, 15, 16, 17, 18, 19]) (.cons rfl (.cons rfl (.cons rfl (.cons rfl (.cons rfl (.cons rfl (.cons rfl (.cons rfl (.cons rfl (.cons rfl (.cons rfl (.cons rfl (.cons rfl .nil)))))))))))))) (pickT (e' := [(4, .c (.ptr 0 0 0 0)), (5, .c (.ptr 1 0 0 0)), (9, .c (.ptr 2 0 0 0)), (10, .c (.slv (y8.2.1.map eI))), (11, .c (I y8.2.2)), (12, .c (.ptr 3 0 0 0)), (13, .c (.slv (y9.2.1.map eI))), (14, .c (I y9.2.2)), (15, .c (I y11.1)), (16, .c (I y11.2)), (17, .c (I y12)), (18, .c (B y13)), (19, .c (I 170))]) (H' := [.live 0 2 [[I a0.Last, .slv (a0.Sess.map eSess)]], .live 0 2 [[I a1.Last, .slv (a1.Sess.map eSess)]], .live 0 2 [[I y8.1.Last, .slv (y8.1.Sess.map eSess)]], .live 0 2 [[I y9.1.Last, .slv (y9.1.Sess.map eSess)]]]) [0, 1, 3, 4] [0, 1, 0, 2, 3] 0 hok.len.symm rfl rfl (by decide) (by first | rfl | simp [-List.map_set]) (by first | rfl | simp [-List.map_set]) (by first | rfl | simp [-List.map_set]) (by first | rfl | simp [-List.map_set]))), rfl⟩
      · refine Wp.seq ?_
        refine Wp.text [4, 5, 9, 10, 11, 12, 13, 14, 15, 16, 17, 18, 19, 74] rfl rfl ?_ -- region 12
        refine TextR.move rfl ?_
        refine TextR.int rfl rfl rfl ?_
        refine TextR.done (.cons rfl (.cons rfl (.cons rfl (.cons rfl (.cons rfl (.cons rfl (.cons rfl (.cons rfl (.cons rfl (.cons rfl (.cons rfl (.cons rfl (.cons rfl (.cons rfl .nil)))))))))))))) ?_
        refine Wp.condM h rfl (fun hc4 h => ?_) (fun hc4 h => ?_)
        · refine Wp.text [4, 5, 9, 10, 11, 12, 13, 14, 15, 16, 17, 18, 19] rfl rfl ?_ -- region 13
          refine TextR.assign rfl ?_
          refine TextR.done (.cons rfl (.cons rfl (.cons rfl (.cons rfl (.cons rfl (.cons rfl (.cons rfl (.cons rfl (.cons rfl (.cons rfl (.cons rfl (.cons rfl (.cons rfl .nil))))))))))))) ?_
          obtain rfl := Option.some.inj h
          exact ⟨_, (St.Weak.trans (keepW (live := [4, 5, 9, 10, 11, 12, 13, 14, 15, 16, 17, 18, 19]) (.cons rfl (.cons rfl (.cons rfl (.cons rfl (.cons rfl (.cons rfl (.cons rfl (.cons rfl (.cons rfl (.cons rfl (.cons rfl (.cons rfl (.cons rfl .nil)))))))))))))) (pickT (e' := [(4, .c (.ptr 0 0 0 0)), (5, .c (.ptr 1 0 0 0)), (9, .c (.ptr 2 0 0 0)), (10, .c (.slv (y8.2.1.map eI))), (11, .c (I y8.2.2)), (12, .c (.ptr 3 0 0 0)), (13, .c (.slv (y9.2.1.map eI))), (14, .c (I y9.2.2)), (15, .c (I y11.1)), (16, .c (I y11.2)), (17, .c (I y12)), (18, .c (B y13)), (19, .c (I 174))]) (H' := [.live 0 2 [[I a0.Last, .slv (a0.Sess.map eSess)]], .live 0 2 [[I a1.Last, .slv (a1.Sess.map eSess)]], .live 0 2 [[I y8.1.Last, .slv (y8.1.Sess.map eSess)]], .live 0 2 [[I y9.1.Last, .slv (y9.1.Sess.map eSess)]]]) [0, 1, 3, 4] [0, 1, 0, 2, 3] 0 hok.len.symm rfl rfl (by decide) (by first | rfl | simp [-List.map_set]) (by first | rfl | simp [-List.map_set]) (by first | rfl | simp [-List.map_set]) (by first | rfl | simp [-List.map_set]))), rfl⟩
        · refine Wp.skip ?_
          obtain rfl := Option.some.inj h
          exact ⟨_, (St.Weak.trans (keepW (live := [4, 5, 9, 10, 11, 12, 13, 14, 15, 16, 17, 18, 19]) (.cons rfl (.cons rfl (.cons rfl (.cons rfl (.cons rfl (.cons rfl (.cons rfl (.cons rfl (.cons rfl (.cons rfl (.cons rfl (.cons rfl (.cons rfl .nil)))))))))))))) (pickT (e' := [(4, .c (.ptr 0 0 0 0)), (5, .c (.ptr 1 0 0 0)), (9, .c (.ptr 2 0 0 0)), (10, .c (.slv (y8.2.1.map eI))), (11, .c (I y8.2.2)), (12, .c (.ptr 3 0 0 0)), (13, .c (.slv (y9.2.1.map eI))), (14, .c (I y9.2.2)), (15, .c (I y11.1)), (16, .c (I y11.2)), (17, .c (I y12)), (18, .c (B y13)), (19, .c (I 0))]) (H' := [.live 0 2 [[I a0.Last, .slv (a0.Sess.map eSess)]], .live 0 2 [[I a1.Last, .slv (a1.Sess.map eSess)]], .live 0 2 [[I y8.1.Last, .slv (y8.1.Sess.map eSess)]], .live 0 2 [[I y9.1.Last, .slv (y9.1.Sess.map eSess)]]]) [0, 1, 3, 4] [0, 1, 0, 2, 3] 0 hok.len.symm rfl rfl (by decide) (by first | rfl | simp [-List.map_set]) (by first | rfl | simp [-List.map_set]) (by first | rfl | simp [-List.map_set]) (by first | rfl | simp [-List.map_set]))), rfl⟩
    rintro _ ⟨S', hw, rfl⟩
    clear hz14
    refine Wp.weak hw ?_
    refine Wp.seq ?_
    refine Wp.seq ?_
    obtain ⟨x15, hx15, h⟩ := bind_some h
    refine Wp.go false none [[], [], [], [], [(78, false)], [(78, false)], [(78, false)], [(81, true), (78, false)], [(81, true), (78, false)], [(81, true), (78, false)], [(81, true), (78, false)], [(81, true), (78, false)], [(81, true), (78, false)], [(81, true), (78, false)], [(81, true), (78, false)], [(78, false)], [], [], [(92, false)], [(92, false)], [(92, false)], [(95, true), (92, false)], [(95, true), (92, false)], [(92, false)], []] [] [4, 5, 9, 10, 11, 12, 13, 14, 18, 99] mixed rfl rfl (by kernel_rfl) ?_ -- region 14
    refine RunR.move rfl rfl rfl ?_
    refine RunR.move rfl rfl rfl ?_
    refine RunR.int rfl rfl rfl rfl rfl ?_
    refine RunR.move rfl rfl rfl ?_
    refine RunR.move rfl rfl rfl ?_
    refine RunR.int rfl rfl rfl rfl rfl ?_
    refine RunR.move rfl rfl rfl ?_
    refine RunR.move rfl rfl rfl ?_
    refine RunR.fieldAddr fo24_1 rfl rfl rfl rfl rfl ?_
    refine RunR.load1 tk22 rfl rfl rfl rfl ?_
    refine RunR.move rfl rfl rfl ?_
    refine RunR.indexAG se22 rfl rfl rfl rfl rfl (ifPos hx15 (fun hb => (gAnd (gF (gN hb)) (gT hb)))) (ifAt hx15 (fun hb => (gAnd (gF (gN hb)) (gT hb)))) rfl ?_
    refine RunR.fieldAddr fo41_2 rfl rfl rfl rfl rfl ?_
    refine RunR.load1G tk36 rfl rfl rfl (ifAt hx15 (fun hb => (gAnd (gF (gN hb)) (gT hb)))) rfl ?_
    refine RunR.int rfl rfl rfl rfl rfl ?_
    refine RunR.pickAnd rfl rfl rfl rfl ?_
    refine RunR.pickOr rfl rfl rfl rfl ?_
    refine RunR.move rfl rfl rfl ?_
    refine RunR.move rfl rfl rfl ?_
    refine RunR.int rfl rfl rfl rfl rfl ?_
    refine RunR.move rfl rfl rfl ?_
    refine RunR.move rfl rfl rfl ?_
    refine RunR.int rfl rfl rfl rfl rfl ?_
    refine RunR.pickAnd rfl rfl rfl rfl ?_
    refine RunR.pickOr rfl rfl rfl rfl ?_
    refine RunR.doneQ (.cons rfl (.cons rfl (.cons rfl (.cons rfl (.cons rfl (.cons rfl (.cons rfl (.cons rfl (.cons rfl (.cons rfl .nil)))))))))) ?_
    refine Wp.condM h rfl (fun hc2 h => ?_) (fun hc2 h => ?_)
    · refine Wp.seq ?_
      refine Wp.text [8] rfl rfl ?_ -- region 15
      refine TextR.assign rfl ?_
      refine TextR.done (.cons rfl .nil) ?_
      refine Wp.ret ?_
      obtain rfl := Option.some.inj h
      exact Ret.one rfl (resV_tmp rfl) rfl
    · refine Wp.skip ?_
      refine Wp.seq ?_
      obtain ⟨y16, hy16, h⟩ := bind_some h
      obtain ⟨y17, hy17, h⟩ := bind_some h
      obtain ⟨y18, hy18, h⟩ := bind_some h
      obtain ⟨y19, hy19, h⟩ := bind_some h
      obtain ⟨y20, hy20, h⟩ := bind_some h
      obtain ⟨y21, hy21, h⟩ := bind_some h
      obtain ⟨y22, hy22, h⟩ := bind_some h
      obtain ⟨y23, hy23, h⟩ := bind_some h
      refine Wp.go true (some ⟨[], []⟩) [[], [], [], [], [(103, true)], [(103, true)], [(103, true)], [], [], [(108, true)], [(108, true)], [(108, true)], [], [], [(113, true)], [(113, true)], [(113, true)], [(113, true)], [(113, true)], [(113, true)], [], [], [(121, true)], [(121, true)], [(121, true)], [(121, true)], [(121, true)], [(121, true)], [(121, true)], [(121, true)], [(121, true)], [], []] [] [8] mixed rfl rfl (by kernel_rfl) ?_ -- region 16
      refine RunR.loadN (cs := [I y8.1.Last, .slv (y8.1.Sess.map eSess)]) tk24 rfl rfl rfl rfl ?_
      refine RunR.loadN (cs := [I y9.1.Last, .slv (y9.1.Sess.map eSess)]) tk24 rfl rfl rfl rfl ?_
      refine RunR.call rfl rfl rfl (fun H => c_narthexref17_Same N y8.1 y9.1 y16 hy16 H) ?_
      refine RunR.move rfl rfl rfl ?_
      refine RunR.move rfl rfl rfl ?_
      refine RunR.move rfl rfl rfl ?_
      refine RunR.callG rfl rfl rfl (fun hb H => c_narthexref01_Same N y8.2.1 y9.2.1 y17 (ifT hy17 gT hb) H) ?_
      refine RunR.pickAnd rfl rfl rfl rfl ?_
      refine RunR.move rfl rfl rfl ?_
      refine RunR.move rfl rfl rfl ?_
      refine RunR.move rfl rfl rfl ?_
      refine RunR.int rfl rfl rfl rfl rfl ?_
      refine RunR.pickAnd rfl rfl rfl rfl ?_
      refine RunR.move rfl rfl rfl ?_
      refine RunR.loadN (cs := [I a0.Last, .slv (a0.Sess.map eSess)]) tk24 rfl rfl rfl rfl ?_
      refine RunR.callG rfl rfl rfl (fun hb H => c_narthexlaw17_Own N a0 y18 (ifT hy18 gT hb) H) ?_
      refine RunR.callG rfl rfl rfl (fun hb H => c_sess_Check N y18 y19 (ifT hy19 gT hb) H) ?_
      refine RunR.int rfl rfl rfl rfl rfl ?_
      refine RunR.move rfl rfl rfl ?_
      refine RunR.eqBool (by kernel_rfl) rfl rfl rfl rfl ?_
      refine RunR.pickAnd rfl rfl rfl rfl ?_
      refine RunR.move rfl rfl rfl ?_
      refine RunR.loadN (cs := [I a0.Last, .slv (a0.Sess.map eSess)]) tk24 rfl rfl rfl rfl ?_
      refine RunR.callG rfl rfl rfl (fun hb H => c_narthexlaw17_Own N a0 y20 (ifT hy20 gT hb) H) ?_
      refine RunR.loadN (cs := [I a1.Last, .slv (a1.Sess.map eSess)]) tk24 rfl rfl rfl rfl ?_
      refine RunR.callG rfl rfl rfl (fun hb H => c_narthexlaw17_Own N a1 y21 (ifT hy21 gT hb) H) ?_
      refine RunR.callG rfl rfl rfl (fun hb H => c_sess_Same N y20 y21 y22 (ifT hy22 gT hb) H) ?_
      refine RunR.loadN (cs := [I a0.Last, .slv (a0.Sess.map eSess)]) tk24 rfl rfl rfl rfl ?_
      refine RunR.loadN (cs := [I a1.Last, .slv (a1.Sess.map eSess)]) tk24 rfl rfl rfl rfl ?_
      refine RunR.callG rfl rfl rfl (fun hb H => c_narthexref17_Same N a0 a1 y23 (ifT hy23 gT hb) H) ?_
      refine RunR.eqBool (by kernel_rfl) rfl rfl rfl rfl ?_
      refine RunR.pickAnd rfl rfl rfl rfl ?_
      refine RunR.assign rfl rfl rfl ?_
      refine RunR.doneQ (.cons rfl .nil) ?_
      refine Wp.ret ?_
      obtain rfl := Option.some.inj h
      exact Ret.one rfl (resV_tmp rfl) rfl
-- narthex/narthexlaw17.SessOrder
theorem w_narthexlaw17_SessOrder (N : Nat) (a0 : List Tnarthexlaw17_Act) (r : Bool) (h : narthexlaw17_SessOrder N a0 = some r) : Nx.Call Try.prog 4 [.c (.slv (a0.map enarthexlaw17_Act))] [] fun r' _ => r' = .c (B r) := by
  refine Nx.Call.of_body Try.func4 rfl en4 Try.ntmps4 rfl (fun Γ hok => ?_)
  unfold narthexlaw17_SessOrder at h
  refine Wp.seq ?_
  refine Wp.text [0] rfl rfl ?_ -- region 0
  refine TextR.assign rfl ?_
  refine TextR.done (.cons rfl .nil) ?_
  refine Wp.seq ?_
  refine Wp.seq ?_
  obtain ⟨y1, hy1, h⟩ := bind_some h
  obtain ⟨y2, hy2, h⟩ := bind_some h
  refine Wp.go false none [[], [], [], [(12, false)], [(12, false)], [(12, false)], []] [] [0, 16] mixed rfl rfl (by kernel_rfl) ?_ -- region 1
  refine RunR.call rfl rfl rfl (fun H => c_narthexlaw17_awake N y1 hy1 H) ?_
  refine RunR.not rfl rfl rfl ?_
  refine RunR.move rfl rfl rfl ?_
  refine RunR.move rfl rfl rfl ?_
  refine RunR.callG rfl rfl rfl (fun hb H => c_narthexlaw17_few N a0 y2 (ifT hy2 gF hb) H) ?_
  refine RunR.not rfl rfl rfl ?_
  refine RunR.pickOr rfl rfl rfl rfl ?_
  refine RunR.doneQ (.cons rfl (.cons rfl .nil)) ?_
  refine Wp.condM h rfl (fun hc1 h => ?_) (fun hc1 h => ?_)
  · refine Wp.seq ?_
    obtain ⟨y3, hy3, h⟩ := bind_some h
    refine Wp.text [2] rfl rfl ?_ -- region 2
    refine TextR.dcall rfl rfl (c_narthexlaw17_awake N y3 hy3 _) ?_
    refine TextR.assign rfl ?_
    refine TextR.done (.cons rfl .nil) ?_
    refine Wp.ret ?_
    obtain rfl := Option.some.inj h
    exact Ret.one rfl (resV_tmp rfl) rfl
  · refine Wp.skip ?_
    refine Wp.seq ?_
    refine Wp.text [0, 3, 4] rfl rfl ?_ -- region 3
    refine TextR.build cm24 rfl ?_
    refine TextR.alloc 0 zc24 rfl rfl .nil ?_
    refine TextR.store1 tk24 rfl rfl rfl rfl rfl rfl .zero ?_
    refine TextR.assign rfl ?_
    refine TextR.done (.cons rfl (.cons rfl (.cons rfl .nil))) ?_
    refine Wp.seq ?_
    refine Wp.seq ?_
    refine Wp.text [0, 3, 4, 5] rfl rfl ?_ -- region 4
    refine TextR.assign rfl ?_
    refine TextR.done (.cons rfl (.cons rfl (.cons rfl (.cons rfl .nil)))) ?_
    obtain ⟨z4, hz4, h⟩ := bind_some h
    refine Wp.fragR (fun S => ∃ z6, z4 = .inr z6 ∧ ∃ S', St.Weak ⟨Try.prog, 64, Γ⟩ S S' ∧ S' = ⟨[], []⟩) (fun S => ∃ v, z4 = .inl v ∧ Ret Try.prog Try.f4 (fun r' _ => r' = .c (B v)) .ret S) ?_ ?_ ?_
    · replace h := hz4
      refine Wp.block ?_
      refine Wp.weak (St.Weak.trans (keepW (live := [0, 3, 4, 5]) (.cons rfl (.cons rfl (.cons rfl (.cons rfl .nil))))) (nzT (e' := [(0, .c (.slv (a0.map enarthexlaw17_Act))), (3, .c (.ptr 0 0 0 0)), (4, .c (I 0)), (5, .c (I 0))]) (H' := [.live 0 2 [[I 0, .slv ([].map eSess)]]]) (by first | rfl | simp [-List.map_set]) (by first | rfl | simp [-List.map_set]))) ?_
      refine Wp.loop (fun m S => ∃ c0_0_1, ∃ c0_1_1, ∃ s4_1, ∃ s5_1, narthexlaw17_SessOrder_L1 N a0 m c0_0_1 c0_1_1 s4_1 s5_1 = some z4 ∧ S = ⟨[(0, .c (.slv (a0.map enarthexlaw17_Act))), (3, .c (.ptr 0 0 0 0)), (4, .c (I s4_1)), (5, .c (I s5_1))], [.live 0 2 [[I c0_0_1, .slv (c0_1_1.map eSess)]]]⟩) N ⟨_, _, _, _, h, rfl⟩ ?_
      rintro m1 _ ⟨c0_0_1, c0_1_1, s4_1, s5_1, h, rfl⟩
      cases m1 with
      | zero => rw [narthexlaw17_SessOrder_L1.eq_1] at h; cases h
      | succ m1 =>
      rw [narthexlaw17_SessOrder_L1.eq_2] at h
      refine Wp.seq ?_
      refine Wp.seq ?_
      refine Wp.text [0, 3, 4, 5, 22] rfl rfl ?_ -- region 5
      refine TextR.move rfl ?_
      refine TextR.move rfl ?_
      refine TextR.lenM us31 rfl rfl ?_
      refine TextR.int rfl rfl rfl ?_
      refine TextR.done (.cons rfl (.cons rfl (.cons rfl (.cons rfl (.cons rfl .nil))))) ?_
      refine Wp.condM h rfl (fun hc3 h => ?_) (fun hc3 h => ?_)
      · refine Wp.skip ?_
        refine Wp.seq ?_
        refine Wp.block ?_
        refine Wp.seq ?_
        obtain ⟨x7, hx7, h⟩ := bind_some h
        refine Wp.text [0, 3, 4, 5, 6] rfl rfl ?_ -- region 7
        refine TextR.move rfl ?_
        refine TextR.move rfl ?_
        refine TextR.indexA se31 rfl rfl rfl hx7 rfl ?_
        refine TextR.loadNM tk27 rfl (at_get hx7) rfl ?_
        refine TextR.alloc 1 zc27 rfl rfl (.cons .nil) ?_
        refine TextR.store1 tk27 rfl rfl rfl rfl rfl rfl (.succ .zero) ?_
        refine TextR.done (.cons rfl (.cons rfl (.cons rfl (.cons rfl (.cons rfl .nil))))) ?_
        refine Wp.seq ?_
        refine Wp.text [0, 3, 4, 5, 6] rfl rfl ?_ -- region 8
        refine TextR.fieldAddr fo27_0 rfl rfl rfl ?_
        refine TextR.load1 tk3 rfl rfl ?_
        refine TextR.minmax (.inr rfl) rfl ?_
        refine TextR.minmax (.inl rfl) rfl ?_
        refine TextR.fieldAddr fo27_0 rfl rfl rfl ?_
        refine TextR.storeF (r' := [I (min (max x7.K 0) 5), I x7.ID, I x7.N, .slv (x7.Need.map eI)]) tk3 rfl rfl rfl rfl rfl rfl rfl (.succ .zero) ?_
        refine TextR.done (.cons rfl (.cons rfl (.cons rfl (.cons rfl (.cons rfl .nil))))) ?_
        refine Wp.seq ?_
        obtain ⟨y8, hy8, h⟩ := bind_some h
        obtain ⟨y9, hy9, h⟩ := bind_some h
        refine Wp.go true (some ⟨[2], []⟩) [] [true, true, true, true, true, true, true, true, false, false, false, false] [0, 3, 4, 5, 6, 7, 8, 9] mixed rfl rfl (by kernel_rfl) ?_ -- region 9
        refine RunR.loadN (cs := [I c0_0_1, .slv (c0_1_1.map eSess)]) tk24 rfl rfl rfl rfl ?_
        refine RunR.call rfl rfl rfl (fun H => c_narthexlaw17_Own N (⟨c0_0_1, c0_1_1⟩ : TBook) y8 hy8 H) ?_
        refine RunR.loadN (cs := [I (min (max x7.K 0) 5), I x7.ID, I x7.N, .slv (x7.Need.map eI)]) tk27 rfl rfl rfl rfl ?_
        refine RunR.call rfl rfl rfl (fun H => c_narthexlaw17_act N y8 { x7 with K := min (max x7.K 0) 5 } y9 hy9 H) ?_
        refine RunR.move rfl rfl rfl ?_
        refine RunR.extract rfl rfl rfl rfl ?_
        refine RunR.extract rfl rfl rfl rfl ?_
        refine RunR.extract rfl rfl rfl rfl ?_
        refine RunR.alloc 2 zc24 rfl rfl rfl rfl (.cons (.cons .nil)) ?_
        refine RunR.store1 tk24 rfl rfl rfl rfl rfl rfl rfl rfl (.succ (.succ .zero)) ?_
        refine RunR.assign rfl rfl rfl ?_
        refine RunR.assign rfl rfl rfl ?_
        refine RunR.doneQ (.cons rfl (.cons rfl (.cons rfl (.cons rfl (.cons rfl (.cons rfl (.cons rfl (.cons rfl .nil)))))))) ?_
        refine Wp.seq ?_
        refine Wp.seq ?_
        refine Wp.text [0, 3, 4, 5, 6, 7, 8, 43] rfl rfl ?_ -- region 10
        refine TextR.move rfl ?_
        refine TextR.int rfl rfl rfl ?_
        refine TextR.done (.cons rfl (.cons rfl (.cons rfl (.cons rfl (.cons rfl (.cons rfl (.cons rfl (.cons rfl .nil)))))))) ?_
        refine Wp.condM h rfl (fun hc4 h => ?_) (fun hc4 h => ?_)
        · refine Wp.exit ?_
          refine Wp.text [0, 3, 4, 5] rfl rfl ?_ -- region 6
          refine TextR.move rfl ?_
          refine TextR.int rfl rfl rfl ?_
          refine TextR.assign rfl ?_
          refine TextR.done (.cons rfl (.cons rfl (.cons rfl (.cons rfl .nil)))) ?_
          exact ⟨m1, Nat.lt_succ_self _, _, (St.Weak.trans (keepW (live := [0, 3, 4, 5]) (.cons rfl (.cons rfl (.cons rfl (.cons rfl .nil))))) (pickT (e' := [(0, .c (.slv (a0.map enarthexlaw17_Act))), (3, .c (.ptr 0 0 0 0)), (4, .c (I s4_1)), (5, .c (I (w64 (s5_1 + 1))))]) (H' := [.live 0 2 [[I c0_0_1, .slv (c0_1_1.map eSess)]]]) [0] [0, 0, 0] 0 hok.len.symm rfl rfl (by decide) (by first | rfl | simp [-List.map_set]) (by first | rfl | simp [-List.map_set]) (by first | rfl | simp [-List.map_set]) (by first | rfl | simp [-List.map_set]))), _, _, _, _, h, rfl⟩
        · refine Wp.skip ?_
          refine Wp.seq ?_
          refine Wp.text [0, 3, 4, 5, 6, 8] rfl rfl ?_ -- region 11
          refine TextR.loadN (cs := [I y9.1.Last, .slv (y9.1.Sess.map eSess)]) tk24 rfl rfl ?_
          refine TextR.store1 tk24 rfl rfl rfl rfl rfl rfl .zero ?_
          refine TextR.done (.cons rfl (.cons rfl (.cons rfl (.cons rfl (.cons rfl (.cons rfl .nil)))))) ?_
          refine Wp.seq ?_
          refine Wp.seq ?_
          obtain ⟨y10, hy10, h⟩ := bind_some h
          refine Wp.text [0, 3, 4, 5, 6, 8, 47] rfl rfl ?_ -- region 12
          refine TextR.loadN (cs := [I y9.1.Last, .slv (y9.1.Sess.map eSess)]) tk24 rfl rfl ?_
          refine TextR.dcall rfl rfl (c_sess_Check N y9.1 y10 hy10 _) ?_
          refine TextR.int rfl rfl rfl ?_
          refine TextR.done (.cons rfl (.cons rfl (.cons rfl (.cons rfl (.cons rfl (.cons rfl (.cons rfl .nil))))))) ?_
          refine Wp.condM h rfl (fun hc5 h => ?_) (fun hc5 h => ?_)
          · refine Wp.seq ?_
            refine Wp.text [2] rfl rfl ?_ -- region 13
            refine TextR.assign rfl ?_
            refine TextR.done (.cons rfl .nil) ?_
            refine Wp.ret ?_
            exact ⟨_, (Option.some.inj h).symm, Ret.one rfl (resV_tmp rfl) rfl⟩
          · refine Wp.skip ?_
            refine Wp.seq ?_
            refine Wp.text [0, 3, 4, 5, 8, 50] rfl rfl ?_ -- region 14
            refine TextR.fieldAddr fo27_0 rfl rfl rfl ?_
            refine TextR.load1 tk3 rfl rfl ?_
            refine TextR.int rfl rfl rfl ?_
            refine TextR.done (.cons rfl (.cons rfl (.cons rfl (.cons rfl (.cons rfl (.cons rfl .nil)))))) ?_
            refine Wp.condM h rfl (fun hc6 h => ?_) (fun hc6 h => ?_)
            · refine Wp.seq ?_
              refine Wp.seq ?_
              obtain ⟨x11, hx11, h⟩ := bind_some h
              refine Wp.go false none [[], [], [], [], [(54, false)], [(54, false)], [(54, false)], [(54, false)], [(54, false)], []] [] [0, 3, 5, 8, 60] mixed rfl rfl (by kernel_rfl) ?_ -- region 15
              refine RunR.move rfl rfl rfl ?_
              refine RunR.lenM us25 rfl rfl rfl rfl ?_
              refine RunR.int rfl rfl rfl rfl rfl ?_
              refine RunR.move rfl rfl rfl ?_
              refine RunR.move rfl rfl rfl ?_
              refine RunR.indexAG se25 rfl rfl rfl rfl rfl (ifPos hx11 gF) (ifAt hx11 gF) rfl ?_
              refine RunR.load1G tk3 rfl rfl rfl (ifAt hx11 gF) rfl ?_
              refine RunR.move rfl rfl rfl ?_
              refine RunR.int rfl rfl rfl rfl rfl ?_
              refine RunR.pickOr rfl rfl rfl rfl ?_
              refine RunR.doneQ (.cons rfl (.cons rfl (.cons rfl (.cons rfl (.cons rfl .nil))))) ?_
              refine Wp.condM h rfl (fun hc7 h => ?_) (fun hc7 h => ?_)
              · refine Wp.seq ?_
                refine Wp.text [2] rfl rfl ?_ -- region 16
                refine TextR.assign rfl ?_
                refine TextR.done (.cons rfl .nil) ?_
                refine Wp.ret ?_
                exact ⟨_, (Option.some.inj h).symm, Ret.one rfl (resV_tmp rfl) rfl⟩
              · refine Wp.skip ?_
                obtain ⟨x12, hx12, h⟩ := bind_some h
                refine Wp.text [0, 3, 4, 5] rfl rfl ?_ -- region 17
                refine TextR.move rfl ?_
                refine TextR.indexA se25 rfl rfl rfl hx12 rfl ?_
                refine TextR.load1M tk3 rfl (at_get hx12) rfl ?_
                refine TextR.assign rfl ?_
                refine TextR.done (.cons rfl (.cons rfl (.cons rfl (.cons rfl .nil)))) ?_
                refine Wp.text [0, 3, 4, 5] rfl rfl ?_ -- region 6
                refine TextR.move rfl ?_
                refine TextR.int rfl rfl rfl ?_
                refine TextR.assign rfl ?_
                refine TextR.done (.cons rfl (.cons rfl (.cons rfl (.cons rfl .nil)))) ?_
                exact ⟨m1, Nat.lt_succ_self _, _, (St.Weak.trans (keepW (live := [0, 3, 4, 5]) (.cons rfl (.cons rfl (.cons rfl (.cons rfl .nil))))) (pickT (e' := [(0, .c (.slv (a0.map enarthexlaw17_Act))), (3, .c (.ptr 0 0 0 0)), (4, .c (I x12)), (5, .c (I (w64 (s5_1 + 1))))]) (H' := [.live 0 2 [[I y9.1.Last, .slv (y9.1.Sess.map eSess)]]]) [0] [0, 0, 0] 0 hok.len.symm rfl rfl (by decide) (by first | rfl | simp [-List.map_set]) (by first | rfl | simp [-List.map_set]) (by first | rfl | simp [-List.map_set]) (by first | rfl | simp [-List.map_set]))), _, _, _, _, h, rfl⟩
            · refine Wp.skip ?_
              refine Wp.text [0, 3, 4, 5] rfl rfl ?_ -- region 6
              refine TextR.move rfl ?_
              refine TextR.int rfl rfl rfl ?_
              refine TextR.assign rfl ?_
              refine TextR.done (.cons rfl (.cons rfl (.cons rfl (.cons rfl .nil)))) ?_
              exact ⟨m1, Nat.lt_succ_self _, _, (St.Weak.trans (keepW (live := [0, 3, 4, 5]) (.cons rfl (.cons rfl (.cons rfl (.cons rfl .nil))))) (pickT (e' := [(0, .c (.slv (a0.map enarthexlaw17_Act))), (3, .c (.ptr 0 0 0 0)), (4, .c (I s4_1)), (5, .c (I (w64 (s5_1 + 1))))]) (H' := [.live 0 2 [[I y9.1.Last, .slv (y9.1.Sess.map eSess)]]]) [0] [0, 0, 0] 0 hok.len.symm rfl rfl (by decide) (by first | rfl | simp [-List.map_set]) (by first | rfl | simp [-List.map_set]) (by first | rfl | simp [-List.map_set]) (by first | rfl | simp [-List.map_set]))), _, _, _, _, h, rfl⟩
      · refine Wp.exit ?_
        exact ⟨_, (Option.some.inj h).symm, _, (St.Weak.trans (keepW (live := []) .nil) (pickT (e' := []) (H' := []) [] [0] 0 hok.len.symm rfl rfl (by decide) (by first | rfl | simp [-List.map_set]) (by first | rfl | simp [-List.map_set]) (by first | rfl | simp [-List.map_set]) (by first | rfl | simp [-List.map_set]))), rfl⟩
    · rintro _ ⟨z6, rfl, _, hw, rfl⟩
      dsimp only at h
      clear hz4
      refine Wp.weak hw ?_
      refine Wp.seq ?_
      refine Wp.text [2] rfl rfl ?_ -- region 18
      refine TextR.assign rfl ?_
      refine TextR.done (.cons rfl .nil) ?_
      refine Wp.ret ?_
      obtain rfl := Option.some.inj h
      exact Ret.one rfl (resV_tmp rfl) rfl
    · rintro S' ⟨r5, rfl, hR⟩
      dsimp only at h
      obtain rfl := Option.some.inj h
      exact hR
-- narthex/narthexlaw17.SessEnds
theorem w_narthexlaw17_SessEnds (N : Nat) (a0 : List Tnarthexlaw17_Act) (r : Bool) (h : narthexlaw17_SessEnds N a0 = some r) : Nx.Call Try.prog 5 [.c (.slv (a0.map enarthexlaw17_Act))] [] fun r' _ => r' = .c (B r) := by
  refine Nx.Call.of_body Try.func5 rfl en5 Try.ntmps5 rfl (fun Γ hok => ?_)
  unfold narthexlaw17_SessEnds at h
  refine Wp.seq ?_
  refine Wp.text [0] rfl rfl ?_ -- region 0
  refine TextR.assign rfl ?_
  refine TextR.done (.cons rfl .nil) ?_
  refine Wp.seq ?_
  refine Wp.seq ?_
  obtain ⟨y1, hy1, h⟩ := bind_some h
  obtain ⟨y2, hy2, h⟩ := bind_some h
  refine Wp.go false none [[], [], [], [(14, false)], [(14, false)], [(14, false)], []] [] [0, 18] mixed rfl rfl (by kernel_rfl) ?_ -- region 1
  refine RunR.call rfl rfl rfl (fun H => c_narthexlaw17_awake N y1 hy1 H) ?_
  refine RunR.not rfl rfl rfl ?_
  refine RunR.move rfl rfl rfl ?_
  refine RunR.move rfl rfl rfl ?_
  refine RunR.callG rfl rfl rfl (fun hb H => c_narthexlaw17_few N a0 y2 (ifT hy2 gF hb) H) ?_
  refine RunR.not rfl rfl rfl ?_
  refine RunR.pickOr rfl rfl rfl rfl ?_
  refine RunR.doneQ (.cons rfl (.cons rfl .nil)) ?_
  refine Wp.condM h rfl (fun hc1 h => ?_) (fun hc1 h => ?_)
  · refine Wp.seq ?_
    obtain ⟨y3, hy3, h⟩ := bind_some h
    refine Wp.text [2] rfl rfl ?_ -- region 2
    refine TextR.dcall rfl rfl (c_narthexlaw17_awake N y3 hy3 _) ?_
    refine TextR.assign rfl ?_
    refine TextR.done (.cons rfl .nil) ?_
    refine Wp.ret ?_
    obtain rfl := Option.some.inj h
    exact Ret.one rfl (resV_tmp rfl) rfl
  · refine Wp.skip ?_
    refine Wp.seq ?_
    refine Wp.text [0, 3, 4, 5] rfl rfl ?_ -- region 3
    refine TextR.build cm24 rfl ?_
    refine TextR.buildSlice  0 se25 rfl rfl rfl .nil ?_
    refine TextR.buildSlice  1 se25 rfl rfl rfl (.cons .nil) ?_
    refine TextR.alloc 2 zc24 rfl rfl (.cons (.cons .nil)) ?_
    refine TextR.store1 tk24 rfl rfl rfl rfl rfl rfl (.succ (.succ .zero)) ?_
    refine TextR.assign rfl ?_
    refine TextR.assign rfl ?_
    refine TextR.done (.cons rfl (.cons rfl (.cons rfl (.cons rfl .nil)))) ?_
    refine Wp.seq ?_
    refine Wp.seq ?_
    refine Wp.text [0, 3, 4, 5, 6] rfl rfl ?_ -- region 4
    refine TextR.assign rfl ?_
    refine TextR.done (.cons rfl (.cons rfl (.cons rfl (.cons rfl (.cons rfl .nil))))) ?_
    obtain ⟨z4, hz4, h⟩ := bind_some h
    refine Wp.fragR (fun S => ∃ z6, z4 = .inr z6 ∧ ∃ wz6_1, ∃ wz6_2, ∃ S', St.Weak ⟨Try.prog, 134, Γ⟩ S S' ∧ S' = ⟨[(3, .c (.ptr 0 0 0 0)), (4, .c (.sl 1 wz6_1 0 z6.1.length)), (5, .c (.sl 2 wz6_2 0 z6.2.1.length))], [.live 0 2 [[I z6.2.2.1, .slv (z6.2.2.2.map eSess)]], .live wz6_1 1 (z6.1.map eI), .live wz6_2 1 (z6.2.1.map eI)]⟩) (fun S => ∃ v, z4 = .inl v ∧ Ret Try.prog Try.f5 (fun r' _ => r' = .c (B v)) .ret S) ?_ ?_ ?_
    · replace h := hz4
      refine Wp.block ?_
      refine Wp.weak (St.Weak.trans (keepW (live := [0, 3, 4, 5, 6]) (.cons rfl (.cons rfl (.cons rfl (.cons rfl (.cons rfl .nil)))))) (St.Weak.trans (pickT (e' := [(0, .c (.slv (a0.map enarthexlaw17_Act))), (3, .c (.ptr 0 0 0 0)), (4, .c (.sl 1 0 0 ([] : List Int).length)), (5, .c (.sl 2 0 0 ([] : List Int).length)), (6, .c (I 0))]) (H' := [.live 0 2 [[I 0, nilS]], .live 0 1 (([] : List Int).map eI), .live 0 1 (([] : List Int).map eI)]) [2, 0, 1] [1, 2, 0] 0 hok.len.symm rfl rfl (by decide) (by first | rfl | simp [-List.map_set]) (by first | rfl | simp [-List.map_set]) (by first | rfl | simp [-List.map_set]) (by first | rfl | simp [-List.map_set])) (nzT (e' := [(0, .c (.slv (a0.map enarthexlaw17_Act))), (3, .c (.ptr 0 0 0 0)), (4, .c (.sl 1 0 0 ([] : List Int).length)), (5, .c (.sl 2 0 0 ([] : List Int).length)), (6, .c (I 0))]) (H' := [.live 0 2 [[I 0, .slv ([].map eSess)]], .live 0 1 (([] : List Int).map eI), .live 0 1 (([] : List Int).map eI)]) (by first | rfl | simp [-List.map_set]) (by first | rfl | simp [-List.map_set])))) ?_
      refine Wp.loop (fun m S => ∃ l1_1, ∃ l2_1, ∃ c0_0_1, ∃ c0_1_1, ∃ s6_1, ∃ wh1_1, ∃ wh2_1, narthexlaw17_SessEnds_L1 N a0 m l1_1 l2_1 c0_0_1 c0_1_1 s6_1 = some z4 ∧ S = ⟨[(0, .c (.slv (a0.map enarthexlaw17_Act))), (3, .c (.ptr 0 0 0 0)), (4, .c (.sl 1 wh1_1 0 l1_1.length)), (5, .c (.sl 2 wh2_1 0 l2_1.length)), (6, .c (I s6_1))], [.live 0 2 [[I c0_0_1, .slv (c0_1_1.map eSess)]], .live wh1_1 1 (l1_1.map eI), .live wh2_1 1 (l2_1.map eI)]⟩) N ⟨_, _, _, _, _, _, _, h, rfl⟩ ?_
      rintro m1 _ ⟨l1_1, l2_1, c0_0_1, c0_1_1, s6_1, wh1_1, wh2_1, h, rfl⟩
      cases m1 with
      | zero => rw [narthexlaw17_SessEnds_L1.eq_1] at h; cases h
      | succ m1 =>
      rw [narthexlaw17_SessEnds_L1.eq_2] at h
      refine Wp.seq ?_
      refine Wp.seq ?_
      refine Wp.text [0, 3, 4, 5, 6, 26] rfl rfl ?_ -- region 5
      refine TextR.move rfl ?_
      refine TextR.move rfl ?_
      refine TextR.lenM us31 rfl rfl ?_
      refine TextR.int rfl rfl rfl ?_
      refine TextR.done (.cons rfl (.cons rfl (.cons rfl (.cons rfl (.cons rfl (.cons rfl .nil)))))) ?_
      refine Wp.condM h rfl (fun hc3 h => ?_) (fun hc3 h => ?_)
      · refine Wp.skip ?_
        refine Wp.seq ?_
        refine Wp.block ?_
        refine Wp.seq ?_
        obtain ⟨x7, hx7, h⟩ := bind_some h
        refine Wp.text [0, 3, 4, 5, 6, 7] rfl rfl ?_ -- region 7
        refine TextR.move rfl ?_
        refine TextR.move rfl ?_
        refine TextR.indexA se31 rfl rfl rfl hx7 rfl ?_
        refine TextR.loadNM tk27 rfl (at_get hx7) rfl ?_
        refine TextR.alloc 3 zc27 rfl rfl (.cons (.cons (.cons .nil))) ?_
        refine TextR.store1 tk27 rfl rfl rfl rfl rfl rfl (.succ (.succ (.succ .zero))) ?_
        refine TextR.done (.cons rfl (.cons rfl (.cons rfl (.cons rfl (.cons rfl (.cons rfl .nil)))))) ?_
        refine Wp.seq ?_
        refine Wp.text [0, 3, 4, 5, 6, 7] rfl rfl ?_ -- region 8
        refine TextR.fieldAddr fo27_0 rfl rfl rfl ?_
        refine TextR.load1 tk3 rfl rfl ?_
        refine TextR.minmax (.inr rfl) rfl ?_
        refine TextR.minmax (.inl rfl) rfl ?_
        refine TextR.fieldAddr fo27_0 rfl rfl rfl ?_
        refine TextR.storeF (r' := [I (min (max x7.K 0) 5), I x7.ID, I x7.N, .slv (x7.Need.map eI)]) tk3 rfl rfl rfl rfl rfl rfl rfl (.succ (.succ (.succ .zero))) ?_
        refine TextR.done (.cons rfl (.cons rfl (.cons rfl (.cons rfl (.cons rfl (.cons rfl .nil)))))) ?_
        refine Wp.seq ?_
        obtain ⟨y8, hy8, h⟩ := bind_some h
        obtain ⟨y9, hy9, h⟩ := bind_some h
        refine Wp.go true (some ⟨[4], []⟩) [] [true, true, true, true, true, true, true, true, false, false, false, false] [0, 3, 4, 5, 6, 7, 8, 9, 10] mixed rfl rfl (by kernel_rfl) ?_ -- region 9
        refine RunR.loadN (cs := [I c0_0_1, .slv (c0_1_1.map eSess)]) tk24 rfl rfl rfl rfl ?_
        refine RunR.call rfl rfl rfl (fun H => c_narthexlaw17_Own N (⟨c0_0_1, c0_1_1⟩ : TBook) y8 hy8 H) ?_
        refine RunR.loadN (cs := [I (min (max x7.K 0) 5), I x7.ID, I x7.N, .slv (x7.Need.map eI)]) tk27 rfl rfl rfl rfl ?_
        refine RunR.call rfl rfl rfl (fun H => c_narthexlaw17_act N y8 { x7 with K := min (max x7.K 0) 5 } y9 hy9 H) ?_
        refine RunR.move rfl rfl rfl ?_
        refine RunR.extract rfl rfl rfl rfl ?_
        refine RunR.extract rfl rfl rfl rfl ?_
        refine RunR.extract rfl rfl rfl rfl ?_
        refine RunR.alloc 4 zc24 rfl rfl rfl rfl (.cons (.cons (.cons (.cons .nil)))) ?_
        refine RunR.store1 tk24 rfl rfl rfl rfl rfl rfl rfl rfl (.succ (.succ (.succ (.succ .zero)))) ?_
        refine RunR.assign rfl rfl rfl ?_
        refine RunR.assign rfl rfl rfl ?_
        refine RunR.doneQ (.cons rfl (.cons rfl (.cons rfl (.cons rfl (.cons rfl (.cons rfl (.cons rfl (.cons rfl (.cons rfl .nil))))))))) ?_
        refine Wp.seq ?_
        refine Wp.seq ?_
        refine Wp.text [0, 3, 4, 5, 6, 7, 8, 9, 47] rfl rfl ?_ -- region 10
        refine TextR.move rfl ?_
        refine TextR.int rfl rfl rfl ?_
        refine TextR.done (.cons rfl (.cons rfl (.cons rfl (.cons rfl (.cons rfl (.cons rfl (.cons rfl (.cons rfl (.cons rfl .nil))))))))) ?_
        refine Wp.condM h rfl (fun hc4 h => ?_) (fun hc4 h => ?_)
        · refine Wp.seq ?_
          refine Wp.seq ?_
          obtain ⟨y10, hy10, h⟩ := bind_some h
          refine Wp.text [0, 3, 4, 5, 6, 51] rfl rfl ?_ -- region 11
          refine TextR.loadN (cs := [I y9.1.Last, .slv (y9.1.Sess.map eSess)]) tk24 rfl rfl ?_
          refine TextR.build cm24 rfl ?_
          refine TextR.dcall rfl rfl (DCall.nz rfl (c_narthexref17_Same N y9.1 (⟨0, []⟩ : TBook) y10 hy10 _)) ?_
          refine TextR.not rfl ?_
          refine TextR.done (.cons rfl (.cons rfl (.cons rfl (.cons rfl (.cons rfl (.cons rfl .nil)))))) ?_
          refine Wp.condM h rfl (fun hc5 h => ?_) (fun hc5 h => ?_)
          · refine Wp.seq ?_
            refine Wp.text [2] rfl rfl ?_ -- region 12
            refine TextR.assign rfl ?_
            refine TextR.done (.cons rfl .nil) ?_
            refine Wp.ret ?_
            exact ⟨_, (Option.some.inj h).symm, Ret.one rfl (resV_tmp rfl) rfl⟩
          · refine Wp.skip ?_
            refine Wp.exit ?_
            refine Wp.text [0, 3, 4, 5, 6] rfl rfl ?_ -- region 6
            refine TextR.move rfl ?_
            refine TextR.int rfl rfl rfl ?_
            refine TextR.assign rfl ?_
            refine TextR.done (.cons rfl (.cons rfl (.cons rfl (.cons rfl (.cons rfl .nil))))) ?_
            exact ⟨m1, Nat.lt_succ_self _, _, (St.Weak.trans (keepW (live := [0, 3, 4, 5, 6]) (.cons rfl (.cons rfl (.cons rfl (.cons rfl (.cons rfl .nil)))))) (pickT (e' := [(0, .c (.slv (a0.map enarthexlaw17_Act))), (3, .c (.ptr 0 0 0 0)), (4, .c (.sl 1 wh1_1 0 l1_1.length)), (5, .c (.sl 2 wh2_1 0 l2_1.length)), (6, .c (I (w64 (s6_1 + 1))))]) (H' := [.live 0 2 [[I c0_0_1, .slv (c0_1_1.map eSess)]], .live wh1_1 1 (l1_1.map eI), .live wh2_1 1 (l2_1.map eI)]) [0, 1, 2] [0, 1, 2, 0, 0] 0 hok.len.symm rfl rfl (by decide) (by first | rfl | simp [-List.map_set]) (by first | rfl | simp [-List.map_set]) (by first | rfl | simp [-List.map_set]) (by first | rfl | simp [-List.map_set]))), _, _, _, _, _, _, _, h, rfl⟩
        · refine Wp.skip ?_
          refine Wp.seq ?_
          refine Wp.text [0, 3, 4, 5, 6, 7, 9] rfl rfl ?_ -- region 13
          refine TextR.loadN (cs := [I y9.1.Last, .slv (y9.1.Sess.map eSess)]) tk24 rfl rfl ?_
          refine TextR.store1 tk24 rfl rfl rfl rfl rfl rfl .zero ?_
          refine TextR.done (.cons rfl (.cons rfl (.cons rfl (.cons rfl (.cons rfl (.cons rfl (.cons rfl .nil))))))) ?_
          refine Wp.seq ?_
          refine Wp.text [0, 3, 4, 5, 6, 7, 9, 54] rfl rfl ?_ -- region 14
          refine TextR.fieldAddr fo27_0 rfl rfl rfl ?_
          refine TextR.load1 tk3 rfl rfl ?_
          refine TextR.done (.cons rfl (.cons rfl (.cons rfl (.cons rfl (.cons rfl (.cons rfl (.cons rfl (.cons rfl .nil)))))))) ?_
          refine Wp.block ?_
          refine Wp.seq ?_
          refine Wp.text [0, 3, 4, 5, 6, 7, 9, 54, 55] rfl rfl ?_ -- region 15
          refine TextR.int rfl rfl rfl ?_
          refine TextR.assign rfl ?_
          refine TextR.done (.cons rfl (.cons rfl (.cons rfl (.cons rfl (.cons rfl (.cons rfl (.cons rfl (.cons rfl (.cons rfl .nil))))))))) ?_
          refine Wp.condM h rfl (fun hc5 h => ?_) (fun hc5 h => ?_)
          · obtain ⟨x11, hx11, h⟩ := bind_some h
            refine Wp.text [0, 3, 4, 5, 6] rfl rfl ?_ -- region 16
            refine TextR.move rfl ?_
            refine TextR.fieldAddr fo27_1 rfl rfl rfl ?_
            refine TextR.load1 tk3 rfl rfl ?_
            refine TextR.buildSlice (rows := [x7.ID].map eI) 5 se25 rfl rfl rfl (.cons (.cons (.cons (.cons (.cons .nil))))) ?_
            refine TextR.appendM eI l1_1 [x7.ID] x11 (app_eq hx11) se25 rfl (obj_of rfl) rfl (view_whole (f := eI) (xs := [x7.ID]) rfl) (fun _ => rfl) rfl (app_len hx11) (.succ .zero) ?_
            refine TextR.assign rfl ?_
            refine TextR.done (.cons rfl (.cons rfl (.cons rfl (.cons rfl (.cons rfl .nil))))) ?_
            refine Wp.text [0, 3, 4, 5, 6] rfl rfl ?_ -- region 6
            refine TextR.move rfl ?_
            refine TextR.int rfl rfl rfl ?_
            refine TextR.assign rfl ?_
            refine TextR.done (.cons rfl (.cons rfl (.cons rfl (.cons rfl (.cons rfl .nil))))) ?_
            exact ⟨m1, Nat.lt_succ_self _, _, (St.Weak.trans (keepW (live := [0, 3, 4, 5, 6]) (.cons rfl (.cons rfl (.cons rfl (.cons rfl (.cons rfl .nil)))))) (pickT (e' := [(0, .c (.slv (a0.map enarthexlaw17_Act))), (3, .c (.ptr 0 0 0 0)), (4, .c (.sl 1 (wh1_1 + 1) 0 x11.length)), (5, .c (.sl 2 wh2_1 0 l2_1.length)), (6, .c (I (w64 (s6_1 + 1))))]) (H' := [.live 0 2 [[I y9.1.Last, .slv (y9.1.Sess.map eSess)]], .live (wh1_1 + 1) 1 (x11.map eI), .live wh2_1 1 (l2_1.map eI)]) [0, 1, 2] [0, 1, 2, 0, 0, 0] 0 hok.len.symm rfl rfl (by decide) (by first | rfl | simp [-List.map_set]) (by first | rfl | simp [-List.map_set]) (by first | rfl | simp [-List.map_set]) (by first | rfl | simp [-List.map_set]))), _, _, _, _, _, _, _, h, rfl⟩
          · refine Wp.seq ?_
            refine Wp.seq ?_
            refine Wp.text [0, 3, 4, 5, 6, 7, 9, 54, 62] rfl rfl ?_ -- region 17
            refine TextR.int rfl rfl rfl ?_
            refine TextR.assign rfl ?_
            refine TextR.done (.cons rfl (.cons rfl (.cons rfl (.cons rfl (.cons rfl (.cons rfl (.cons rfl (.cons rfl (.cons rfl .nil))))))))) ?_
            obtain ⟨z12, hz12, h⟩ := bind_some h
            refine Wp.fragN (fun S => ∃ S', St.Weak ⟨Try.prog, 134, Γ⟩ S S' ∧ S' = ⟨[(0, .c (.slv (a0.map enarthexlaw17_Act))), (3, .c (.ptr 0 0 0 0)), (4, .c (.sl 1 wh1_1 0 l1_1.length)), (5, .c (.sl 2 wh2_1 0 l2_1.length)), (6, .c (I s6_1)), (7, .c (.ptr 3 0 0 0)), (9, .c (.slv (y9.2.1.map eI))), (54, .c (I (min (max x7.K 0) 5))), (62, .c (B z12))], [.live 0 2 [[I y9.1.Last, .slv (y9.1.Sess.map eSess)]], .live wh1_1 1 (l1_1.map eI), .live wh2_1 1 (l2_1.map eI), .live 0 4 [[I (min (max x7.K 0) 5), I x7.ID, I x7.N, .slv (x7.Need.map eI)]]]⟩) ?_ ?_
            · replace h := hz12
              refine Wp.condM h rfl (fun hc7 h => ?_) (fun hc7 h => ?_)
              · refine Wp.skip ?_
                obtain rfl := Option.some.inj h
                exact ⟨_, (St.Weak.trans (keepW (live := [0, 3, 4, 5, 6, 7, 9, 54, 62]) (.cons rfl (.cons rfl (.cons rfl (.cons rfl (.cons rfl (.cons rfl (.cons rfl (.cons rfl (.cons rfl .nil)))))))))) (pickT (e' := [(0, .c (.slv (a0.map enarthexlaw17_Act))), (3, .c (.ptr 0 0 0 0)), (4, .c (.sl 1 wh1_1 0 l1_1.length)), (5, .c (.sl 2 wh2_1 0 l2_1.length)), (6, .c (I s6_1)), (7, .c (.ptr 3 0 0 0)), (9, .c (.slv (y9.2.1.map eI))), (54, .c (I (min (max x7.K 0) 5))), (62, .c (B ((min (max x7.K 0) 5) == 2)))]) (H' := [.live 0 2 [[I y9.1.Last, .slv (y9.1.Sess.map eSess)]], .live wh1_1 1 (l1_1.map eI), .live wh2_1 1 (l2_1.map eI), .live 0 4 [[I (min (max x7.K 0) 5), I x7.ID, I x7.N, .slv (x7.Need.map eI)]]]) [0, 1, 2, 3] [0, 1, 2, 3, 0] 0 hok.len.symm rfl rfl (by decide) (by first | rfl | simp [-List.map_set]) (by first | rfl | simp [-List.map_set]) (by first | rfl | simp [-List.map_set]) (by first | rfl | simp [-List.map_set]))), rfl⟩
              · refine Wp.text [0, 3, 4, 5, 6, 7, 9, 54, 62] rfl rfl ?_ -- region 18
                refine TextR.int rfl rfl rfl ?_
                refine TextR.assign rfl ?_
                refine TextR.done (.cons rfl (.cons rfl (.cons rfl (.cons rfl (.cons rfl (.cons rfl (.cons rfl (.cons rfl (.cons rfl .nil))))))))) ?_
                obtain rfl := Option.some.inj h
                exact ⟨_, (St.Weak.trans (keepW (live := [0, 3, 4, 5, 6, 7, 9, 54, 62]) (.cons rfl (.cons rfl (.cons rfl (.cons rfl (.cons rfl (.cons rfl (.cons rfl (.cons rfl (.cons rfl .nil)))))))))) (pickT (e' := [(0, .c (.slv (a0.map enarthexlaw17_Act))), (3, .c (.ptr 0 0 0 0)), (4, .c (.sl 1 wh1_1 0 l1_1.length)), (5, .c (.sl 2 wh2_1 0 l2_1.length)), (6, .c (I s6_1)), (7, .c (.ptr 3 0 0 0)), (9, .c (.slv (y9.2.1.map eI))), (54, .c (I (min (max x7.K 0) 5))), (62, .c (B ((min (max x7.K 0) 5) == 3)))]) (H' := [.live 0 2 [[I y9.1.Last, .slv (y9.1.Sess.map eSess)]], .live wh1_1 1 (l1_1.map eI), .live wh2_1 1 (l2_1.map eI), .live 0 4 [[I (min (max x7.K 0) 5), I x7.ID, I x7.N, .slv (x7.Need.map eI)]]]) [0, 1, 2, 3] [0, 1, 2, 3, 0] 0 hok.len.symm rfl rfl (by decide) (by first | rfl | simp [-List.map_set]) (by first | rfl | simp [-List.map_set]) (by first | rfl | simp [-List.map_set]) (by first | rfl | simp [-List.map_set]))), rfl⟩
            rintro _ ⟨S', hw, rfl⟩
            clear hz12
            refine Wp.weak hw ?_
            refine Wp.condM h rfl (fun hc6 h => ?_) (fun hc6 h => ?_)
            · obtain ⟨x13, hx13, h⟩ := bind_some h
              refine Wp.text [0, 3, 4, 5, 6] rfl rfl ?_ -- region 19
              refine TextR.move rfl ?_
              refine TextR.fieldAddr fo27_1 rfl rfl rfl ?_
              refine TextR.load1 tk3 rfl rfl ?_
              refine TextR.buildSlice (rows := [x7.ID].map eI) 4 se25 rfl rfl rfl (.cons (.cons (.cons (.cons .nil)))) ?_
              refine TextR.appendM eI l2_1 [x7.ID] x13 (app_eq hx13) se25 rfl (obj_of rfl) rfl (view_whole (f := eI) (xs := [x7.ID]) rfl) (fun _ => rfl) rfl (app_len hx13) (.succ (.succ .zero)) ?_
              refine TextR.assign rfl ?_
              refine TextR.done (.cons rfl (.cons rfl (.cons rfl (.cons rfl (.cons rfl .nil))))) ?_
              refine Wp.text [0, 3, 4, 5, 6] rfl rfl ?_ -- region 6
              refine TextR.move rfl ?_
              refine TextR.int rfl rfl rfl ?_
              refine TextR.assign rfl ?_
              refine TextR.done (.cons rfl (.cons rfl (.cons rfl (.cons rfl (.cons rfl .nil))))) ?_
              exact ⟨m1, Nat.lt_succ_self _, _, (St.Weak.trans (keepW (live := [0, 3, 4, 5, 6]) (.cons rfl (.cons rfl (.cons rfl (.cons rfl (.cons rfl .nil)))))) (pickT (e' := [(0, .c (.slv (a0.map enarthexlaw17_Act))), (3, .c (.ptr 0 0 0 0)), (4, .c (.sl 1 wh1_1 0 l1_1.length)), (5, .c (.sl 2 (wh2_1 + 1) 0 x13.length)), (6, .c (I (w64 (s6_1 + 1))))]) (H' := [.live 0 2 [[I y9.1.Last, .slv (y9.1.Sess.map eSess)]], .live wh1_1 1 (l1_1.map eI), .live (wh2_1 + 1) 1 (x13.map eI)]) [0, 1, 2] [0, 1, 2, 0, 0] 0 hok.len.symm rfl rfl (by decide) (by first | rfl | simp [-List.map_set]) (by first | rfl | simp [-List.map_set]) (by first | rfl | simp [-List.map_set]) (by first | rfl | simp [-List.map_set]))), _, _, _, _, _, _, _, h, rfl⟩
            · refine Wp.seq ?_
              refine Wp.text [0, 3, 4, 5, 6, 9, 54, 70] rfl rfl ?_ -- region 20
              refine TextR.int rfl rfl rfl ?_
              refine TextR.assign rfl ?_
              refine TextR.done (.cons rfl (.cons rfl (.cons rfl (.cons rfl (.cons rfl (.cons rfl (.cons rfl (.cons rfl .nil)))))))) ?_
              refine Wp.condM h rfl (fun hc7 h => ?_) (fun hc7 h => ?_)
              · refine Wp.seq ?_
                obtain ⟨x14, hx14, h⟩ := bind_some h
                refine Wp.text [0, 3, 4, 5, 6, 9, 75] rfl rfl ?_ -- region 21
                refine TextR.move rfl ?_
                refine TextR.indexA se25 rfl rfl rfl hx14 rfl ?_
                refine TextR.load1M tk3 rfl (at_get hx14) rfl ?_
                refine TextR.int rfl rfl rfl ?_
                refine TextR.done (.cons rfl (.cons rfl (.cons rfl (.cons rfl (.cons rfl (.cons rfl (.cons rfl .nil))))))) ?_
                refine Wp.condM h rfl (fun hc8 h => ?_) (fun hc8 h => ?_)
                · obtain ⟨x15, hx15, h⟩ := bind_some h
                  obtain ⟨x16, hx16, h⟩ := bind_some h
                  refine Wp.text [0, 3, 4, 5, 6] rfl rfl ?_ -- region 22
                  refine TextR.move rfl ?_
                  refine TextR.move rfl ?_
                  refine TextR.indexA se25 rfl rfl rfl hx15 rfl ?_
                  refine TextR.load1M tk3 rfl (at_get hx15) rfl ?_
                  refine TextR.buildSlice (rows := [x15].map eI) 4 se25 rfl rfl rfl (.cons (.cons (.cons (.cons .nil)))) ?_
                  refine TextR.appendM eI l2_1 [x15] x16 (app_eq hx16) se25 rfl (obj_of rfl) rfl (view_whole (f := eI) (xs := [x15]) rfl) (fun _ => rfl) rfl (app_len hx16) (.succ (.succ .zero)) ?_
                  refine TextR.assign rfl ?_
                  refine TextR.done (.cons rfl (.cons rfl (.cons rfl (.cons rfl (.cons rfl .nil))))) ?_
                  refine Wp.text [0, 3, 4, 5, 6] rfl rfl ?_ -- region 6
                  refine TextR.move rfl ?_
                  refine TextR.int rfl rfl rfl ?_
                  refine TextR.assign rfl ?_
                  refine TextR.done (.cons rfl (.cons rfl (.cons rfl (.cons rfl (.cons rfl .nil))))) ?_
                  exact ⟨m1, Nat.lt_succ_self _, _, (St.Weak.trans (keepW (live := [0, 3, 4, 5, 6]) (.cons rfl (.cons rfl (.cons rfl (.cons rfl (.cons rfl .nil)))))) (pickT (e' := [(0, .c (.slv (a0.map enarthexlaw17_Act))), (3, .c (.ptr 0 0 0 0)), (4, .c (.sl 1 wh1_1 0 l1_1.length)), (5, .c (.sl 2 (wh2_1 + 1) 0 x16.length)), (6, .c (I (w64 (s6_1 + 1))))]) (H' := [.live 0 2 [[I y9.1.Last, .slv (y9.1.Sess.map eSess)]], .live wh1_1 1 (l1_1.map eI), .live (wh2_1 + 1) 1 (x16.map eI)]) [0, 1, 2] [0, 1, 2, 0, 0] 0 hok.len.symm rfl rfl (by decide) (by first | rfl | simp [-List.map_set]) (by first | rfl | simp [-List.map_set]) (by first | rfl | simp [-List.map_set]) (by first | rfl | simp [-List.map_set]))), _, _, _, _, _, _, _, h, rfl⟩
                · refine Wp.skip ?_
                  refine Wp.text [0, 3, 4, 5, 6] rfl rfl ?_ -- region 6
                  refine TextR.move rfl ?_
                  refine TextR.int rfl rfl rfl ?_
                  refine TextR.assign rfl ?_
                  refine TextR.done (.cons rfl (.cons rfl (.cons rfl (.cons rfl (.cons rfl .nil))))) ?_
                  exact ⟨m1, Nat.lt_succ_self _, _, (St.Weak.trans (keepW (live := [0, 3, 4, 5, 6]) (.cons rfl (.cons rfl (.cons rfl (.cons rfl (.cons rfl .nil)))))) (pickT (e' := [(0, .c (.slv (a0.map enarthexlaw17_Act))), (3, .c (.ptr 0 0 0 0)), (4, .c (.sl 1 wh1_1 0 l1_1.length)), (5, .c (.sl 2 wh2_1 0 l2_1.length)), (6, .c (I (w64 (s6_1 + 1))))]) (H' := [.live 0 2 [[I y9.1.Last, .slv (y9.1.Sess.map eSess)]], .live wh1_1 1 (l1_1.map eI), .live wh2_1 1 (l2_1.map eI)]) [0, 1, 2] [0, 1, 2, 0] 0 hok.len.symm rfl rfl (by decide) (by first | rfl | simp [-List.map_set]) (by first | rfl | simp [-List.map_set]) (by first | rfl | simp [-List.map_set]) (by first | rfl | simp [-List.map_set]))), _, _, _, _, _, _, _, h, rfl⟩
              · refine Wp.seq ?_
                refine Wp.text [0, 3, 4, 5, 6, 9, 82] rfl rfl ?_ -- region 23
                refine TextR.int rfl rfl rfl ?_
                refine TextR.assign rfl ?_
                refine TextR.done (.cons rfl (.cons rfl (.cons rfl (.cons rfl (.cons rfl (.cons rfl (.cons rfl .nil))))))) ?_
                refine Wp.condM h rfl (fun hc8 h => ?_) (fun hc8 h => ?_)
                · obtain ⟨x17, hx17, h⟩ := bind_some h
                  refine Wp.text [0, 3, 4, 5, 6] rfl rfl ?_ -- region 24
                  refine TextR.move rfl ?_
                  refine TextR.move rfl ?_
                  refine TextR.appendM eI l2_1 y9.2.1 x17 (app_eq hx17) se25 rfl (obj_of rfl) rfl rfl (fun _ => rfl) rfl (app_len hx17) (.succ (.succ .zero)) ?_
                  refine TextR.assign rfl ?_
                  refine TextR.done (.cons rfl (.cons rfl (.cons rfl (.cons rfl (.cons rfl .nil))))) ?_
                  refine Wp.text [0, 3, 4, 5, 6] rfl rfl ?_ -- region 6
                  refine TextR.move rfl ?_
                  refine TextR.int rfl rfl rfl ?_
                  refine TextR.assign rfl ?_
                  refine TextR.done (.cons rfl (.cons rfl (.cons rfl (.cons rfl (.cons rfl .nil))))) ?_
                  exact ⟨m1, Nat.lt_succ_self _, _, (St.Weak.trans (keepW (live := [0, 3, 4, 5, 6]) (.cons rfl (.cons rfl (.cons rfl (.cons rfl (.cons rfl .nil)))))) (pickT (e' := [(0, .c (.slv (a0.map enarthexlaw17_Act))), (3, .c (.ptr 0 0 0 0)), (4, .c (.sl 1 wh1_1 0 l1_1.length)), (5, .c (.sl 2 (wh2_1 + 1) 0 x17.length)), (6, .c (I (w64 (s6_1 + 1))))]) (H' := [.live 0 2 [[I y9.1.Last, .slv (y9.1.Sess.map eSess)]], .live wh1_1 1 (l1_1.map eI), .live (wh2_1 + 1) 1 (x17.map eI)]) [0, 1, 2] [0, 1, 2, 0] 0 hok.len.symm rfl rfl (by decide) (by first | rfl | simp [-List.map_set]) (by first | rfl | simp [-List.map_set]) (by first | rfl | simp [-List.map_set]) (by first | rfl | simp [-List.map_set]))), _, _, _, _, _, _, _, h, rfl⟩
                · refine Wp.skip ?_
                  refine Wp.text [0, 3, 4, 5, 6] rfl rfl ?_ -- region 6
                  refine TextR.move rfl ?_
                  refine TextR.int rfl rfl rfl ?_
                  refine TextR.assign rfl ?_
                  refine TextR.done (.cons rfl (.cons rfl (.cons rfl (.cons rfl (.cons rfl .nil))))) ?_
                  exact ⟨m1, Nat.lt_succ_self _, _, (St.Weak.trans (keepW (live := [0, 3, 4, 5, 6]) (.cons rfl (.cons rfl (.cons rfl (.cons rfl (.cons rfl .nil)))))) (pickT (e' := [(0, .c (.slv (a0.map enarthexlaw17_Act))), (3, .c (.ptr 0 0 0 0)), (4, .c (.sl 1 wh1_1 0 l1_1.length)), (5, .c (.sl 2 wh2_1 0 l2_1.length)), (6, .c (I (w64 (s6_1 + 1))))]) (H' := [.live 0 2 [[I y9.1.Last, .slv (y9.1.Sess.map eSess)]], .live wh1_1 1 (l1_1.map eI), .live wh2_1 1 (l2_1.map eI)]) [0, 1, 2] [0, 1, 2, 0] 0 hok.len.symm rfl rfl (by decide) (by first | rfl | simp [-List.map_set]) (by first | rfl | simp [-List.map_set]) (by first | rfl | simp [-List.map_set]) (by first | rfl | simp [-List.map_set]))), _, _, _, _, _, _, _, h, rfl⟩
      · refine Wp.exit ?_
        exact ⟨_, (Option.some.inj h).symm, _, _, _, (keepW (live := [3, 4, 5]) (.cons rfl (.cons rfl (.cons rfl .nil)))), rfl⟩
    · rintro _ ⟨z6, rfl, wz6_1, wz6_2, _, hw, rfl⟩
      dsimp only at h
      clear hz4
      refine Wp.weak hw ?_
      refine Wp.seq ?_
      refine Wp.seq ?_
      refine Wp.text [3, 4, 5, 11] rfl rfl ?_ -- region 25
      refine TextR.assign rfl ?_
      refine TextR.done (.cons rfl (.cons rfl (.cons rfl (.cons rfl .nil)))) ?_
      obtain ⟨z18, hz18, h⟩ := bind_some h
      refine Wp.fragR (fun S => ∃ z20, z18 = .inr z20 ∧ ∃ S', St.Weak ⟨Try.prog, 134, Γ⟩ S S' ∧ S' = ⟨[(3, .c (.ptr 0 0 0 0)), (4, .c (.sl 1 wz6_1 0 z6.1.length)), (5, .c (.slv (z6.2.1.map eI)))], [.live 0 2 [[I z6.2.2.1, .slv (z6.2.2.2.map eSess)]], .live wz6_1 1 (z6.1.map eI)]⟩) (fun S => ∃ v, z18 = .inl v ∧ Ret Try.prog Try.f5 (fun r' _ => r' = .c (B v)) .ret S) ?_ ?_ ?_
      · replace h := hz18
        refine Wp.block ?_
        refine Wp.weak (St.Weak.trans (keepW (live := [3, 4, 5, 11]) (.cons rfl (.cons rfl (.cons rfl (.cons rfl .nil))))) (St.Weak.trans (freezeW (h := 2) (ver := wz6_2) (rows := z6.2.1.map eI) (e' := [(3, .c (.ptr 0 0 0 0)), (4, .c (.sl 1 wz6_1 0 z6.1.length)), (5, .c (.slv (z6.2.1.map eI))), (11, .c (I 0))]) (H' := [.live 0 2 [[I z6.2.2.1, .slv (z6.2.2.2.map eSess)]], .live wz6_1 1 (z6.1.map eI), .dead]) (obj_of rfl) (by first | rfl | simp [-List.map_set]) (by first | rfl | simp [-List.map_set])) (St.Weak.trans (keepW (live := [3, 4, 5, 11]) (.cons rfl (.cons rfl (.cons rfl (.cons rfl .nil))))) (pickT (e' := [(3, .c (.ptr 0 0 0 0)), (4, .c (.sl 1 wz6_1 0 z6.1.length)), (5, .c (.slv (z6.2.1.map eI))), (11, .c (I 0))]) (H' := [.live 0 2 [[I z6.2.2.1, .slv (z6.2.2.2.map eSess)]], .live wz6_1 1 (z6.1.map eI)]) [0, 1] [0, 1, 0] 0 hok.len.symm rfl rfl (by decide) (by first | rfl | simp [-List.map_set]) (by first | rfl | simp [-List.map_set]) (by first | rfl | simp [-List.map_set]) (by first | rfl | simp [-List.map_set]))))) ?_
        refine Wp.loop (fun m S => ∃ s11_2, narthexlaw17_SessEnds_L2 N z6 m s11_2 = some z18 ∧ S = ⟨[(3, .c (.ptr 0 0 0 0)), (4, .c (.sl 1 wz6_1 0 z6.1.length)), (5, .c (.slv (z6.2.1.map eI))), (11, .c (I s11_2))], [.live 0 2 [[I z6.2.2.1, .slv (z6.2.2.2.map eSess)]], .live wz6_1 1 (z6.1.map eI)]⟩) N ⟨_, h, rfl⟩ ?_
        rintro m2 _ ⟨s11_2, h, rfl⟩
        cases m2 with
        | zero => rw [narthexlaw17_SessEnds_L2.eq_1] at h; cases h
        | succ m2 =>
        rw [narthexlaw17_SessEnds_L2.eq_2] at h
        refine Wp.seq ?_
        refine Wp.seq ?_
        refine Wp.text [3, 4, 5, 11, 90] rfl rfl ?_ -- region 26
        refine TextR.move rfl ?_
        refine TextR.move rfl ?_
        refine TextR.lenM us25 rfl rfl ?_
        refine TextR.int rfl rfl rfl ?_
        refine TextR.done (.cons rfl (.cons rfl (.cons rfl (.cons rfl (.cons rfl .nil))))) ?_
        refine Wp.condM h rfl (fun hc4 h => ?_) (fun hc4 h => ?_)
        · refine Wp.skip ?_
          refine Wp.seq ?_
          refine Wp.block ?_
          refine Wp.seq ?_
          obtain ⟨x21, hx21, h⟩ := bind_some h
          obtain ⟨x22, hx22, h⟩ := bind_some h
          obtain ⟨y23, hy23, h⟩ := bind_some h
          obtain ⟨x24, hx24, h⟩ := bind_some h
          obtain ⟨y25, hy25, h⟩ := bind_some h
          obtain ⟨x26, hx26, h⟩ := bind_some h
          obtain ⟨y27, hy27, h⟩ := bind_some h
          refine Wp.go true (some ⟨[], []⟩) [[], [], [], [], [], [], [], [], [], [(101, false)], [(101, false)], [(101, false)], [(101, false)], [(101, false)], [(101, false)], [(101, false)], [], [], [(110, false)], [(110, false)], [(110, false)], [(110, false)], [(110, false)], [(110, false)], [(110, false)], []] [] [3, 4, 5, 11, 118] mixed rfl rfl (by kernel_rfl) ?_ -- region 28
          refine RunR.move rfl rfl rfl ?_
          refine RunR.move rfl rfl rfl ?_
          refine RunR.sliceM se25 rfl rfl rfl rfl rfl rfl rfl hx21 (fun _ => rfl) ?_
          refine RunR.move rfl rfl rfl ?_
          refine RunR.move rfl rfl rfl ?_
          refine RunR.indexA se25 rfl rfl rfl rfl rfl hx22 rfl ?_
          refine RunR.load1M tk3 rfl rfl rfl (at_get hx22) rfl ?_
          refine RunR.call rfl rfl rfl (fun H => c_narthexref01_Has N x21 x22 y23 hy23 H) ?_
          refine RunR.move rfl rfl rfl ?_
          refine RunR.move rfl rfl rfl ?_
          refine RunR.move rfl rfl rfl ?_
          refine RunR.move rfl rfl rfl ?_
          refine RunR.indexAG se25 rfl rfl rfl rfl rfl (ifPos hx24 gF) (ifAt hx24 gF) rfl ?_
          refine RunR.load1G tk3 rfl rfl rfl (ifAt hx24 gF) rfl ?_
          refine RunR.callH rfl rfl rfl rfl (fun hb => (DCall.borrow (fs := [.c (.slv (z6.1.map eI)), .c (I x24)]) (by simp [-List.map_set, obj, List.take_of_length_le]) (by first | rfl | simp [-List.map_set]) rfl (w_narthexref01_Has N z6.1 x24 y25 (ifT hy25 gF hb)))) ?_
          refine RunR.not rfl rfl rfl ?_
          refine RunR.pickOr rfl rfl rfl rfl ?_
          refine RunR.move rfl rfl rfl ?_
          refine RunR.loadN (cs := [I z6.2.2.1, .slv (z6.2.2.2.map eSess)]) tk24 rfl rfl rfl rfl ?_
          refine RunR.move rfl rfl rfl ?_
          refine RunR.move rfl rfl rfl ?_
          refine RunR.indexAG se25 rfl rfl rfl rfl rfl (ifPos hx26 gF) (ifAt hx26 gF) rfl ?_
          refine RunR.load1G tk3 rfl rfl rfl (ifAt hx26 gF) rfl ?_
          refine RunR.callG rfl rfl rfl (fun hb H => c_narthexref17_Find N (⟨z6.2.2.1, z6.2.2.2⟩ : TBook) x26 y27 (ifT hy27 gF hb) H) ?_
          refine RunR.int rfl rfl rfl rfl rfl ?_
          refine RunR.pickOr rfl rfl rfl rfl ?_
          refine RunR.doneQ (.cons rfl (.cons rfl (.cons rfl (.cons rfl (.cons rfl .nil))))) ?_
          refine Wp.condM h rfl (fun hc5 h => ?_) (fun hc5 h => ?_)
          · refine Wp.seq ?_
            refine Wp.text [2] rfl rfl ?_ -- region 29
            refine TextR.assign rfl ?_
            refine TextR.done (.cons rfl .nil) ?_
            refine Wp.ret ?_
            exact ⟨_, (Option.some.inj h).symm, Ret.one rfl (resV_tmp rfl) rfl⟩
          · refine Wp.skip ?_
            refine Wp.text [3, 4, 5, 11] rfl rfl ?_ -- region 27
            refine TextR.move rfl ?_
            refine TextR.int rfl rfl rfl ?_
            refine TextR.assign rfl ?_
            refine TextR.done (.cons rfl (.cons rfl (.cons rfl (.cons rfl .nil)))) ?_
            exact ⟨m2, Nat.lt_succ_self _, _, (keepW (live := [3, 4, 5, 11]) (.cons rfl (.cons rfl (.cons rfl (.cons rfl .nil))))), _, h, rfl⟩
        · refine Wp.exit ?_
          exact ⟨_, (Option.some.inj h).symm, _, (keepW (live := [3, 4, 5]) (.cons rfl (.cons rfl (.cons rfl .nil)))), rfl⟩
      · rintro _ ⟨z20, rfl, _, hw, rfl⟩
        dsimp only at h
        clear hz18
        refine Wp.weak hw ?_
        refine Wp.seq ?_
        refine Wp.go false none [[], [], [], [], [], [], [], [], [], [], [(128, true)], [(128, true)], [(128, true)], [(128, true)], [], []] [] [2] mixed rfl rfl (by kernel_rfl) ?_ -- region 30
        refine RunR.move rfl rfl rfl ?_
        refine RunR.len us25 rfl rfl rfl rfl ?_
        refine RunR.move rfl rfl rfl ?_
        refine RunR.lenM us25 rfl rfl rfl rfl ?_
        refine RunR.fieldAddr fo24_1 rfl rfl rfl rfl rfl ?_
        refine RunR.load1 tk22 rfl rfl rfl rfl ?_
        refine RunR.lenM us22 rfl rfl rfl rfl ?_
        refine RunR.int rfl rfl rfl rfl rfl ?_
        refine RunR.int rfl rfl rfl rfl rfl ?_
        refine RunR.move rfl rfl rfl ?_
        refine RunR.fieldAddr fo24_1 rfl rfl rfl rfl rfl ?_
        refine RunR.load1 tk22 rfl rfl rfl rfl ?_
        refine RunR.lenM us22 rfl rfl rfl rfl ?_
        refine RunR.int rfl rfl rfl rfl rfl ?_
        refine RunR.pickAnd rfl rfl rfl rfl ?_
        refine RunR.assign rfl rfl rfl ?_
        refine RunR.doneQ (.cons rfl .nil) ?_
        refine Wp.ret ?_
        obtain rfl := Option.some.inj h
        exact Ret.one rfl (resV_tmp rfl) rfl
      · rintro S' ⟨r19, rfl, hR⟩
        dsimp only at h
        obtain rfl := Option.some.inj h
        exact hR
    · rintro S' ⟨r5, rfl, hR⟩
      dsimp only at h
      obtain rfl := Option.some.inj h
      exact hR
end Go.Proofs.Ythlocamkdmaflaa
