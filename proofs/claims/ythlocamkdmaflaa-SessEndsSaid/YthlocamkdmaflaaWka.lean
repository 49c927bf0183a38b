/- The functions do what their models say. -/
import Derived.Test.YthlocamkdmaflaaEnc
import Derived.Test.YthlocamkdmaflaaLaid
namespace Go.Proofs.Ythlocamkdmaflaa
open Go Go.Nx
set_option linter.unusedVariables false
set_option linter.unusedSimpArgs false
set_option linter.unnecessarySimpa false
set_option maxRecDepth 8000
attribute [local simp] putSeg List.map_take List.map_drop rvL rvK bwL hfVs hfV hfL hfAll hfRows mvV mvL mv0 sh0 mvO mpE mpV mpVs mpO fzL rnL rn0 ok0 nzI nzB nzN nzF nzP nzO nzQ nzC shL shV shO okV okL okO List.take_of_length_le h_I hm_I ok_eI okR_eI fx_eI fxR_eI h_Sess hm_Sess ok_eSess okR_eSess fx_eSess fxR_eSess h_Book hm_Book ok_eBook okR_eBook fx_eBook fxR_eBook h_narthexlaw17_Act hm_narthexlaw17_Act ok_enarthexlaw17_Act okR_enarthexlaw17_Act fx_enarthexlaw17_Act fxR_enarthexlaw17_Act
-- slices.Clone
theorem bn_slices_Clone_int : Nx.Call Try.prog 56 [.c nilS] [] fun r' H' => r' = .c (.sl 0 1 0 0) ∧ ∃ junk, H' = [.live 1 1 []] ++ junk := by
  refine Nx.Call.of_body Try.func56 rfl en56 Try.ntmps56 rfl (fun Γ hok => ?_)
  refine Wp.seq ?_
  refine Wp.text [0] rfl rfl ?_ -- region 0
  refine TextR.assign rfl ?_
  refine TextR.done (.cons rfl .nil) ?_
  refine Wp.seq ?_
  refine Wp.seq ?_
  refine Wp.text [0, 4] rfl rfl ?_ -- region 1
  refine TextR.move rfl ?_
  refine TextR.eqNil us25 rfl rfl ?_
  refine TextR.done (.cons rfl (.cons rfl .nil)) ?_
  refine Wp.cond rfl (fun hc => ?_) (fun hc => ?_)
  · refine Wp.seq ?_
    refine Wp.text [2] rfl rfl ?_ -- region 2
    refine TextR.assign rfl ?_
    refine TextR.done (.cons rfl .nil) ?_
    refine Wp.weak (fun a w hs => nilV_sat (t := 2) 1 1 0 rfl rfl .nil hs) ?_
    refine Wp.ret ?_
    refine Ret.one rfl (resV_tmp rfl) ?_
    exact ⟨rfl, [], rfl⟩
  · cases hc
theorem bq_slices_Clone_int (xs : List Int) (hl : xs.length ≤ 10000000000) : Nx.Call Try.prog 56 [.c (.slq (xs.map eI))] [] fun r' H' => r' = .c (.sl 0 1 0 xs.length) ∧ ∃ junk, H' = [.live 1 1 (xs.map eI)] ++ junk := by
  refine Nx.Call.of_body Try.func56 rfl en56 Try.ntmps56 rfl (fun Γ hok => ?_)
  refine Wp.seq ?_
  refine Wp.text [0] rfl rfl ?_ -- region 0
  refine TextR.assign rfl ?_
  refine TextR.done (.cons rfl .nil) ?_
  refine Wp.seq ?_
  refine Wp.seq ?_
  refine Wp.text [0, 4] rfl rfl ?_ -- region 1
  refine TextR.move rfl ?_
  refine TextR.eqNil us25 rfl rfl ?_
  refine TextR.done (.cons rfl (.cons rfl .nil)) ?_
  refine Wp.cond rfl (fun hc => ?_) (fun hc => ?_)
  · cases hc
  · refine Wp.skip ?_
    refine Wp.seq ?_
    refine Wp.text [2] rfl rfl ?_ -- region 3
    refine TextR.buildSlice 0 se25 rfl rfl rfl .nil ?_
    refine TextR.move rfl ?_
    refine TextR.appendM eI [] xs xs rfl se25 rfl rfl rfl rfl (fun _ => rfl) rfl (by simp; omega) .zero ?_
    refine TextR.assign rfl ?_
    refine TextR.done (.cons rfl .nil) ?_
    refine Wp.ret ?_
    refine Ret.one rfl (resV_tmp rfl) ?_
    exact ⟨rfl, [], rfl⟩
theorem b_slices_Clone_int (xs : List Int) (hl : xs.length ≤ 10000000000) : Nx.Call Try.prog 56 [.c (.slv (xs.map eI))] [] fun r' H' => r' = .c (.sl 0 1 0 xs.length) ∧ ∃ junk, H' = [.live 1 1 (xs.map eI)] ++ junk :=
  .cases en56 fun Γ args' hok hc => by
    simp only [concVs] at hc
    obtain ⟨y, ys', h1, h2, h3⟩ := hc
    rcases conc_slv_nil h2 with ⟨h4, h5⟩ | h5
    · have h6 : xs = [] := by simpa using h4
      subst h6
      exact ⟨[.c nilS], bn_slices_Clone_int, by simp only [concVs]; exact ⟨y, ys', h1, h5, h3⟩⟩
    · exact ⟨[.c (.slq (xs.map eI))], bq_slices_Clone_int xs hl, by simp only [concVs]; exact ⟨y, ys', h1, h5, h3⟩⟩
theorem o_slices_Clone_int (N : Nat) (a0 r : List Int) (h : slices_Clone_int N a0 = some r) {H H1 : List Ob} (k : Nat) (hh : H.length = k) (hs : Snoc (.live 1 1 (r.map eI)) H H1) : Nx.Call Try.prog 56 [.c (.slv (a0.map eI))] H fun r' H' => r' = .c (.sl k 1 0 r.length) ∧ H' = H1 := by
  have he := app_eq h
  have hl := app_len h
  simp only [List.nil_append] at he
  subst he
  have hc := Call.lift (objs := [.live 1 1 (a0.map eI)]) (by simp [hfVs, hfV, hfL, hfRows_map h_I]) rfl (by have := okR_eI (p := mvL 1) a0; simpa [mvO] using this) (b_slices_Clone_int a0 (by simpa using hl)) H
  refine Call.mono hc fun r' H' ⟨h1, h2⟩ => ⟨by subst hh; simpa [shV, shL] using h1, ?_⟩
  rw [h2, ← hs.eq]
  simp [shO, fx_eI]
theorem w_slices_Clone_int (N : Nat) (a0 r : List Int) (h : slices_Clone_int N a0 = some r) : Nx.Call Try.prog 56 [.c (.slv (a0.map eI))] [] fun r' _ => r' = .c (.slv (r.map eI)) := by
  have he := app_eq h
  have hl := app_len h
  simp only [List.nil_append] at he
  subst he
  exact Call.frz (b_slices_Clone_int a0 (by simpa using hl))
theorem c_slices_Clone_int (N : Nat) (a0 r : List Int) (h : slices_Clone_int N a0 = some r) (H : List Ob) : DCall Try.prog 56 [.c (.slv (a0.map eI))] H (.c (.slv (r.map eI))) := DCall.lift (by simp [hfVs, hfV, hfL, hfRows_map h_I]) (by simp [mvV, mvL, hfL, hfRows_map h_I]) (fun _ => rfl) (w_slices_Clone_int N a0 r h) H

-- narthex/set.Of
theorem w_set_Of (N : Nat) (a0 : List Int) (r : (List Int)) (h : set_Of N a0 = some r) : Nx.Call Try.prog 46 [.c (.slv (a0.map eI))] [] fun r' _ => r' = .c (.slv (r.map eI)) := by
  refine Nx.Call.of_body Try.func46 rfl en46 Try.ntmps46 rfl (fun Γ hok => ?_)
  unfold set_Of at h
  refine Wp.seq ?_
  refine Wp.text [0] rfl rfl ?_ -- region 0
  refine TextR.assign rfl ?_
  refine TextR.done (.cons rfl .nil) ?_
  refine Wp.seq ?_
  obtain ⟨y1, hy1, h⟩ := bind_some h
  refine Wp.text [3] rfl rfl ?_ -- region 1
  refine TextR.move rfl ?_
  refine TextR.call rfl rfl (by exact o_slices_Clone_int N a0 y1 hy1 0 rfl .nil) (fun x H' hk => ?_)
  obtain ⟨rfl, rfl⟩ := hk
  refine TextR.assign rfl ?_
  refine TextR.done (.cons rfl .nil) ?_
  refine Wp.seq ?_
  obtain ⟨x2, hx2, h⟩ := bind_some h
  refine Wp.text [3] rfl rfl ?_ -- region 2
  refine TextR.move rfl ?_
  refine TextR.call rfl rfl (by exact call_sort lays189 rfl en58 hx2 rfl .zero) (fun x H' hk => ?_)
  obtain ⟨rfl, rfl⟩ := hk
  refine TextR.done (.cons rfl .nil) ?_
  refine Wp.weak (eqW (S' := ⟨[(3, .c (.sl 0 1 0 x2.length))], [.live 1 1 (x2.map eI)]⟩) (by have e0 := (length_sort hx2).symm; first | rfl | (simp only [List.length_set]; done) | (simp only [List.length_set]; rfl) | (simp only [List.length_set, e0]; done) | (simp only [List.length_set, e0]; rfl))) ?_
  refine Wp.seq ?_
  obtain ⟨x3, hx3, h⟩ := bind_some h
  refine Wp.text [2] rfl rfl ?_ -- region 3
  refine TextR.move rfl ?_
  refine TextR.call rfl rfl (by exact call_ded lays220 rfl en59 hx3 rfl .zero) (fun x H' hk => ?_)
  obtain ⟨rfl, rfl⟩ := hk
  refine TextR.assign rfl ?_
  refine TextR.done (.cons rfl .nil) ?_
  refine Wp.weak (keepW (live := [2] ) (.cons rfl .nil)) ?_
  refine Wp.weak (freezeW (h := 0) (ver := 2) (rows := x3.map eI) (e' := [(2, .c (.slv (x3.map eI)))]) (H' := [.dead]) rfl (by first | rfl | simp [-List.map_set]) (by first | rfl | simp [-List.map_set])) ?_
  refine Wp.ret ?_
  obtain rfl := Option.some.inj h
  exact Ret.one rfl (resV_tmp rfl) rfl
theorem c_set_Of (N : Nat) (a0 : List Int) (r : (List Int)) (h : set_Of N a0 = some r) (H : List Ob) : DCall Try.prog 46 [.c (.slv (a0.map eI))] H (.c (.slv (r.map eI))) := DCall.lift (by first | rfl | simp [-List.map_set]) (by first | rfl | simp [-List.map_set]) (fun _ => by simp [-List.map_set]) (w_set_Of N a0 r h) H
-- narthex/sess.odd$1
theorem w_sess_odd_1 (N : Nat) (a0 : Int) (r : Bool) (h : sess_odd_1 N a0 = some r) : Nx.Call Try.prog 54 [.c (I a0)] [] fun r' _ => r' = .c (B r) := by
  refine Nx.Call.of_body Try.func54 rfl en54 Try.ntmps54 rfl (fun Γ hok => ?_)
  unfold sess_odd_1 at h
  refine Wp.seq ?_
  refine Wp.text [0] rfl rfl ?_ -- region 0
  refine TextR.assign rfl ?_
  refine TextR.done (.cons rfl .nil) ?_
  refine Wp.seq ?_
  refine Wp.text [2] rfl rfl ?_ -- region 1
  refine TextR.move rfl ?_
  refine TextR.int rfl rfl rfl ?_
  refine TextR.assign rfl ?_
  refine TextR.done (.cons rfl .nil) ?_
  refine Wp.ret ?_
  obtain rfl := Option.some.inj h
  exact Ret.one rfl (resV_tmp rfl) rfl
theorem c_sess_odd_1 (N : Nat) (a0 : Int) (r : Bool) (h : sess_odd_1 N a0 = some r) (H : List Ob) : DCall Try.prog 54 [.c (I a0)] H (.c (B r)) := DCall.lift (by first | rfl | simp [-List.map_set]) (by first | rfl | simp [-List.map_set]) (fun _ => by simp [-List.map_set]) (w_sess_odd_1 N a0 r h) H
-- slices.IndexFunc[[]int,int]
theorem w_slices_IndexFunc_int (N : Nat) (a0 : List Int) (r : Int) (h : slices_IndexFunc_int N a0 = some r) : Nx.Call Try.prog 61 [.c (.slv (a0.map eI)), .c (.clo 54 [])] [] fun r' _ => r' = .c (I r) := by
  refine Nx.Call.of_body Try.func61 rfl en61 Try.ntmps61 rfl (fun Γ hok => ?_)
  unfold slices_IndexFunc_int at h
  refine Wp.seq ?_
  refine Wp.text [0, 1] rfl rfl ?_ -- region 0
  refine TextR.assign rfl ?_
  refine TextR.done (.cons rfl (.cons rfl .nil)) ?_
  refine Wp.seq ?_
  refine Wp.seq ?_
  refine Wp.text [0, 1, 7, 8] rfl rfl ?_ -- region 1
  refine TextR.move rfl ?_
  refine TextR.lenM us25 rfl rfl ?_
  refine TextR.move rfl ?_
  refine TextR.done (.cons rfl (.cons rfl (.cons rfl (.cons rfl .nil)))) ?_
  obtain ⟨z1, hz1, h⟩ := bind_some h
  refine Wp.fragR (fun S => ∃ z3, z1 = .inr z3 ∧ ∃ S', St.Weak ⟨Try.prog, 19, Γ⟩ S S' ∧ S' = ⟨[], []⟩) (fun S => ∃ v, z1 = .inl v ∧ Ret Try.prog Try.f61 (fun r' _ => r' = .c (I v)) .ret S) ?_ ?_ ?_
  · replace h := hz1
    refine Wp.block ?_
    refine Wp.weak (keepW (live := [0, 1, 7, 8]) (.cons rfl (.cons rfl (.cons rfl (.cons rfl .nil))))) ?_
    refine Wp.loop (fun m S => ∃ s8_1, slices_IndexFunc_int_L1 N a0 m s8_1 = some z1 ∧ S = ⟨[(0, .c (.slv (a0.map eI))), (1, .c (.clo 54 [])), (7, .c (I (a0.length : Int))), (8, .c (I s8_1))], []⟩) N ⟨_, h, rfl⟩ ?_
    rintro m1 _ ⟨s8_1, h, rfl⟩
    cases m1 with
    | zero => rw [slices_IndexFunc_int_L1.eq_1] at h; cases h
    | succ m1 =>
    rw [slices_IndexFunc_int_L1.eq_2] at h
    refine Wp.seq ?_
    refine Wp.text [0, 1, 7, 8, 9] rfl rfl ?_ -- region 2
    refine TextR.int rfl rfl rfl ?_
    refine TextR.done (.cons rfl (.cons rfl (.cons rfl (.cons rfl (.cons rfl .nil))))) ?_
    refine Wp.seq ?_
    refine Wp.condM h rfl (fun hc2 h => ?_) (fun hc2 h => ?_)
    · refine Wp.skip ?_
      refine Wp.seq ?_
      refine Wp.block ?_
      refine Wp.seq ?_
      refine Wp.text [0, 1, 5, 7, 8] rfl rfl ?_ -- region 3
      refine TextR.move rfl ?_
      refine TextR.assign rfl ?_
      refine TextR.done (.cons rfl (.cons rfl (.cons rfl (.cons rfl (.cons rfl .nil))))) ?_
      refine Wp.seq ?_
      obtain ⟨x4, hx4, h⟩ := bind_some h
      obtain ⟨y5, hy5, h⟩ := bind_some h
      refine Wp.text [0, 1, 5, 7, 8, 16] rfl rfl ?_ -- region 4
      refine TextR.move rfl ?_
      refine TextR.move rfl ?_
      refine TextR.move rfl ?_
      refine TextR.indexA se25 rfl rfl rfl hx4 rfl ?_
      refine TextR.load1M tk3 rfl (at_get hx4) rfl ?_
      refine TextR.dcall rfl rfl (c_sess_odd_1 N x4 y5 hy5 _) ?_
      refine TextR.done (.cons rfl (.cons rfl (.cons rfl (.cons rfl (.cons rfl (.cons rfl .nil)))))) ?_
      refine Wp.condM h rfl (fun hc3 h => ?_) (fun hc3 h => ?_)
      · refine Wp.seq ?_
        refine Wp.text [4] rfl rfl ?_ -- region 5
        refine TextR.move rfl ?_
        refine TextR.assign rfl ?_
        refine TextR.done (.cons rfl .nil) ?_
        refine Wp.ret ?_
        exact ⟨_, (Option.some.inj h).symm, Ret.one rfl (resV_tmp rfl) rfl⟩
      · refine Wp.skip ?_
        refine Wp.text [0, 1, 7, 8] rfl rfl ?_ -- region 6
        refine TextR.int rfl rfl rfl ?_
        refine TextR.move rfl ?_
        refine TextR.done (.cons rfl (.cons rfl (.cons rfl (.cons rfl .nil)))) ?_
        exact ⟨m1, Nat.lt_succ_self _, _, (keepW (live := [0, 1, 7, 8]) (.cons rfl (.cons rfl (.cons rfl (.cons rfl .nil))))), _, h, rfl⟩
    · refine Wp.exit ?_
      exact ⟨_, (Option.some.inj h).symm, _, (keepW (live := []) .nil), rfl⟩
  · rintro _ ⟨z3, rfl, _, hw, rfl⟩
    dsimp only at h
    clear hz1
    refine Wp.weak hw ?_
    refine Wp.seq ?_
    refine Wp.text [4] rfl rfl ?_ -- region 7
    refine TextR.assign rfl ?_
    refine TextR.done (.cons rfl .nil) ?_
    refine Wp.ret ?_
    obtain rfl := Option.some.inj h
    exact Ret.one rfl (resV_tmp rfl) rfl
  · rintro S' ⟨r2, rfl, hR⟩
    dsimp only at h
    obtain rfl := Option.some.inj h
    exact hR
theorem c_slices_IndexFunc_int (N : Nat) (a0 : List Int) (r : Int) (h : slices_IndexFunc_int N a0 = some r) (H : List Ob) : DCall Try.prog 61 [.c (.slv (a0.map eI)), .c (.clo 54 [])] H (.c (I r)) := DCall.lift (by first | rfl | simp [-List.map_set]) (by first | rfl | simp [-List.map_set]) (fun _ => by simp [-List.map_set]) (w_slices_IndexFunc_int N a0 r h) H
-- slices.ContainsFunc[[]int,int]
theorem w_slices_ContainsFunc_int (N : Nat) (a0 : List Int) (r : Bool) (h : slices_ContainsFunc_int N a0 = some r) : Nx.Call Try.prog 53 [.c (.slv (a0.map eI)), .c (.clo 54 [])] [] fun r' _ => r' = .c (B r) := by
  refine Nx.Call.of_body Try.func53 rfl en53 Try.ntmps53 rfl (fun Γ hok => ?_)
  unfold slices_ContainsFunc_int at h
  refine Wp.seq ?_
  refine Wp.text [0, 1] rfl rfl ?_ -- region 0
  refine TextR.assign rfl ?_
  refine TextR.done (.cons rfl (.cons rfl .nil)) ?_
  refine Wp.seq ?_
  obtain ⟨y1, hy1, h⟩ := bind_some h
  refine Wp.text [4] rfl rfl ?_ -- region 1
  refine TextR.move rfl ?_
  refine TextR.move rfl ?_
  refine TextR.dcall rfl rfl (c_slices_IndexFunc_int N a0 y1 hy1 _) ?_
  refine TextR.int rfl rfl rfl ?_
  refine TextR.assign rfl ?_
  refine TextR.done (.cons rfl .nil) ?_
  refine Wp.ret ?_
  obtain rfl := Option.some.inj h
  exact Ret.one rfl (resV_tmp rfl) rfl
theorem c_slices_ContainsFunc_int (N : Nat) (a0 : List Int) (r : Bool) (h : slices_ContainsFunc_int N a0 = some r) (H : List Ob) : DCall Try.prog 53 [.c (.slv (a0.map eI)), .c (.clo 54 [])] H (.c (B r)) := DCall.lift (by first | rfl | simp [-List.map_set]) (by first | rfl | simp [-List.map_set]) (fun _ => by simp [-List.map_set]) (w_slices_ContainsFunc_int N a0 r h) H
-- narthex/sess.odd
theorem w_sess_odd (N : Nat) (a0 : List Int) (r : Bool) (h : sess_odd N a0 = some r) : Nx.Call Try.prog 36 [.c (.slv (a0.map eI))] [] fun r' _ => r' = .c (B r) := by
  refine Nx.Call.of_body Try.func36 rfl en36 Try.ntmps36 rfl (fun Γ hok => ?_)
  unfold sess_odd at h
  refine Wp.seq ?_
  refine Wp.text [0] rfl rfl ?_ -- region 0
  refine TextR.assign rfl ?_
  refine TextR.done (.cons rfl .nil) ?_
  refine Wp.seq ?_
  obtain ⟨y1, hy1, h⟩ := bind_some h
  refine Wp.go false none [[], [], [], [], [(6, false)], [(6, false)], [], []] [] [2] mixed rfl rfl (by kernel_rfl) ?_ -- region 1
  refine RunR.move rfl rfl rfl ?_
  refine RunR.lenM us25 rfl rfl rfl rfl ?_
  refine RunR.int rfl rfl rfl rfl rfl ?_
  refine RunR.move rfl rfl rfl ?_
  refine RunR.move rfl rfl rfl ?_
  refine RunR.callG rfl rfl rfl (fun hb H => c_slices_ContainsFunc_int N a0 y1 (ifT hy1 gF hb) H) ?_
  refine RunR.pickOr rfl rfl rfl rfl ?_
  refine RunR.assign rfl rfl rfl ?_
  refine RunR.doneQ (.cons rfl .nil) ?_
  refine Wp.ret ?_
  obtain rfl := Option.some.inj h
  exact Ret.one rfl (resV_tmp rfl) rfl
theorem c_sess_odd (N : Nat) (a0 : List Int) (r : Bool) (h : sess_odd N a0 = some r) (H : List Ob) : DCall Try.prog 36 [.c (.slv (a0.map eI))] H (.c (B r)) := DCall.lift (by first | rfl | simp [-List.map_set]) (by first | rfl | simp [-List.map_set]) (fun _ => by simp [-List.map_set]) (w_sess_odd N a0 r h) H
-- narthex/set.Valid
theorem w_set_Valid (N : Nat) (a0 : List Int) (r : Bool) (h : set_Valid N a0 = some r) : Nx.Call Try.prog 37 [.c (.slv (a0.map eI))] [] fun r' _ => r' = .c (B r) := by
  refine Nx.Call.of_body Try.func37 rfl en37 Try.ntmps37 rfl (fun Γ hok => ?_)
  unfold set_Valid at h
  refine Wp.seq ?_
  refine Wp.text [0] rfl rfl ?_ -- region 0
  refine TextR.assign rfl ?_
  refine TextR.done (.cons rfl .nil) ?_
  refine Wp.seq ?_
  refine Wp.seq ?_
  refine Wp.text [0, 5, 6] rfl rfl ?_ -- region 1
  refine TextR.move rfl ?_
  refine TextR.lenM us25 rfl rfl ?_
  refine TextR.move rfl ?_
  refine TextR.done (.cons rfl (.cons rfl (.cons rfl .nil))) ?_
  obtain ⟨z1, hz1, h⟩ := bind_some h
  refine Wp.fragR (fun S => ∃ z3, z1 = .inr z3 ∧ ∃ S', St.Weak ⟨Try.prog, 24, Γ⟩ S S' ∧ S' = ⟨[], []⟩) (fun S => ∃ v, z1 = .inl v ∧ Ret Try.prog Try.f37 (fun r' _ => r' = .c (B v)) .ret S) ?_ ?_ ?_
  · replace h := hz1
    refine Wp.block ?_
    refine Wp.weak (keepW (live := [0, 5, 6]) (.cons rfl (.cons rfl (.cons rfl .nil)))) ?_
    refine Wp.loop (fun m S => ∃ s6_1, set_Valid_L1 N a0 m s6_1 = some z1 ∧ S = ⟨[(0, .c (.slv (a0.map eI))), (5, .c (I (a0.length : Int))), (6, .c (I s6_1))], []⟩) N ⟨_, h, rfl⟩ ?_
    rintro m1 _ ⟨s6_1, h, rfl⟩
    cases m1 with
    | zero => rw [set_Valid_L1.eq_1] at h; cases h
    | succ m1 =>
    rw [set_Valid_L1.eq_2] at h
    refine Wp.seq ?_
    refine Wp.text [0, 5, 6, 7] rfl rfl ?_ -- region 2
    refine TextR.int rfl rfl rfl ?_
    refine TextR.done (.cons rfl (.cons rfl (.cons rfl (.cons rfl .nil)))) ?_
    refine Wp.seq ?_
    refine Wp.condM h rfl (fun hc2 h => ?_) (fun hc2 h => ?_)
    · refine Wp.skip ?_
      refine Wp.seq ?_
      refine Wp.block ?_
      refine Wp.seq ?_
      refine Wp.text [0, 3, 5, 6] rfl rfl ?_ -- region 3
      refine TextR.move rfl ?_
      refine TextR.assign rfl ?_
      refine TextR.done (.cons rfl (.cons rfl (.cons rfl (.cons rfl .nil)))) ?_
      refine Wp.seq ?_
      obtain ⟨x4, hx4, h⟩ := bind_some h
      obtain ⟨x5, hx5, h⟩ := bind_some h
      refine Wp.go true (some ⟨[], []⟩) [[], [], [], [(11, true)], [(11, true)], [(11, true)], [(11, true)], [(11, true)], [(11, true)], [(11, true)], [(11, true)], [(11, true)], [(11, true)], []] [] [0, 5, 6, 22] mixed rfl rfl (by kernel_rfl) ?_ -- region 4
      refine RunR.move rfl rfl rfl ?_
      refine RunR.int rfl rfl rfl rfl rfl ?_
      refine RunR.move rfl rfl rfl ?_
      refine RunR.move rfl rfl rfl ?_
      refine RunR.move rfl rfl rfl ?_
      refine RunR.int rfl rfl rfl rfl rfl ?_
      refine RunR.indexAG se25 rfl rfl rfl rfl rfl (ifPos hx4 gT) (ifAt hx4 gT) rfl ?_
      refine RunR.load1G tk3 rfl rfl rfl (ifAt hx4 gT) rfl ?_
      refine RunR.move rfl rfl rfl ?_
      refine RunR.move rfl rfl rfl ?_
      refine RunR.indexAG se25 rfl rfl rfl rfl rfl (ifPos hx5 gT) (ifAt hx5 gT) rfl ?_
      refine RunR.load1G tk3 rfl rfl rfl (ifAt hx5 gT) rfl ?_
      refine RunR.int rfl rfl rfl rfl rfl ?_
      refine RunR.pickAnd rfl rfl rfl rfl ?_
      refine RunR.doneQ (.cons rfl (.cons rfl (.cons rfl (.cons rfl .nil)))) ?_
      refine Wp.condM h rfl (fun hc3 h => ?_) (fun hc3 h => ?_)
      · refine Wp.seq ?_
        refine Wp.text [2] rfl rfl ?_ -- region 5
        refine TextR.assign rfl ?_
        refine TextR.done (.cons rfl .nil) ?_
        refine Wp.ret ?_
        exact ⟨_, (Option.some.inj h).symm, Ret.one rfl (resV_tmp rfl) rfl⟩
      · refine Wp.skip ?_
        refine Wp.text [0, 5, 6] rfl rfl ?_ -- region 6
        refine TextR.int rfl rfl rfl ?_
        refine TextR.move rfl ?_
        refine TextR.done (.cons rfl (.cons rfl (.cons rfl .nil))) ?_
        exact ⟨m1, Nat.lt_succ_self _, _, (keepW (live := [0, 5, 6]) (.cons rfl (.cons rfl (.cons rfl .nil)))), _, h, rfl⟩
    · refine Wp.exit ?_
      exact ⟨_, (Option.some.inj h).symm, _, (keepW (live := []) .nil), rfl⟩
  · rintro _ ⟨z3, rfl, _, hw, rfl⟩
    dsimp only at h
    clear hz1
    refine Wp.weak hw ?_
    refine Wp.seq ?_
    refine Wp.text [2] rfl rfl ?_ -- region 7
    refine TextR.assign rfl ?_
    refine TextR.done (.cons rfl .nil) ?_
    refine Wp.ret ?_
    obtain rfl := Option.some.inj h
    exact Ret.one rfl (resV_tmp rfl) rfl
  · rintro S' ⟨r2, rfl, hR⟩
    dsimp only at h
    obtain rfl := Option.some.inj h
    exact hR
theorem c_set_Valid (N : Nat) (a0 : List Int) (r : Bool) (h : set_Valid N a0 = some r) (H : List Ob) : DCall Try.prog 37 [.c (.slv (a0.map eI))] H (.c (B r)) := DCall.lift (by first | rfl | simp [-List.map_set]) (by first | rfl | simp [-List.map_set]) (fun _ => by simp [-List.map_set]) (w_set_Valid N a0 r h) H
-- narthex/sess.Check
theorem w_sess_Check (N : Nat) (a0 : TBook) (r : Int) (h : sess_Check N a0 = some r) : Nx.Call Try.prog 20 [.agg (eBook a0)] [] fun r' _ => r' = .c (I r) := by
  refine Nx.Call.of_body Try.func20 rfl en20 Try.ntmps20 rfl (fun Γ hok => ?_)
  unfold sess_Check at h
  refine Wp.seq ?_
  refine Wp.text [1] rfl rfl ?_ -- region 0
  refine TextR.box (cs := [I a0.Last, .slv (a0.Sess.map eSess)]) 0 rfl rfl rfl rfl .nil ?_
  refine TextR.assign rfl ?_
  refine TextR.done (.cons rfl .nil) ?_
  refine Wp.seq ?_
  refine Wp.seq ?_
  refine Wp.go false none [[], [], [], [], [(10, false)], [(10, false)], [(10, false)], [(10, false)], []] [] [1, 15] mixed rfl rfl (by kernel_rfl) ?_ -- region 1
  refine RunR.fieldAddr fo24_0 rfl rfl rfl rfl rfl ?_
  refine RunR.load1 tk3 rfl rfl rfl rfl ?_
  refine RunR.int rfl rfl rfl rfl rfl ?_
  refine RunR.move rfl rfl rfl ?_
  refine RunR.fieldAddr fo24_1 rfl rfl rfl rfl rfl ?_
  refine RunR.load1 tk22 rfl rfl rfl rfl ?_
  refine RunR.lenM us22 rfl rfl rfl rfl ?_
  refine RunR.int rfl rfl rfl rfl rfl ?_
  refine RunR.pickOr rfl rfl rfl rfl ?_
  refine RunR.doneQ (.cons rfl (.cons rfl .nil)) ?_
  refine Wp.condM h rfl (fun hc1 h => ?_) (fun hc1 h => ?_)
  · refine Wp.seq ?_
    refine Wp.text [2] rfl rfl ?_ -- region 2
    refine TextR.assign rfl ?_
    refine TextR.done (.cons rfl .nil) ?_
    refine Wp.ret ?_
    obtain rfl := Option.some.inj h
    exact Ret.one rfl (resV_tmp rfl) rfl
  · refine Wp.skip ?_
    refine Wp.seq ?_
    refine Wp.text [1, 3] rfl rfl ?_ -- region 3
    refine TextR.assign rfl ?_
    refine TextR.done (.cons rfl (.cons rfl .nil)) ?_
    refine Wp.seq ?_
    refine Wp.seq ?_
    refine Wp.text [1, 3, 17, 18, 19] rfl rfl ?_ -- region 4
    refine TextR.fieldAddr fo24_1 rfl rfl rfl ?_
    refine TextR.load1 tk22 rfl rfl ?_
    refine TextR.lenM us22 rfl rfl ?_
    refine TextR.move rfl ?_
    refine TextR.done (.cons rfl (.cons rfl (.cons rfl (.cons rfl (.cons rfl .nil))))) ?_
    obtain ⟨z1, hz1, h⟩ := bind_some h
    refine Wp.fragR (fun S => ∃ z3, z1 = .inr z3 ∧ ∃ S', St.Weak ⟨Try.prog, 67, Γ⟩ S S' ∧ S' = ⟨[], []⟩) (fun S => ∃ v, z1 = .inl v ∧ Ret Try.prog Try.f20 (fun r' _ => r' = .c (I v)) .ret S) ?_ ?_ ?_
    · replace h := hz1
      refine Wp.block ?_
      refine Wp.weak (keepW (live := [1, 3, 17, 18, 19]) (.cons rfl (.cons rfl (.cons rfl (.cons rfl (.cons rfl .nil)))))) ?_
      refine Wp.loop (fun m S => ∃ s3_1, ∃ s19_1, sess_Check_L1 N a0 m s3_1 s19_1 = some z1 ∧ S = ⟨[(1, .c (.ptr 0 0 0 0)), (3, .c (I s3_1)), (17, .c (.slv (a0.Sess.map eSess))), (18, .c (I (a0.Sess.length : Int))), (19, .c (I s19_1))], [.live 0 2 [[I a0.Last, .slv (a0.Sess.map eSess)]]]⟩) N ⟨_, _, h, rfl⟩ ?_
      rintro m1 _ ⟨s3_1, s19_1, h, rfl⟩
      cases m1 with
      | zero => rw [sess_Check_L1.eq_1] at h; cases h
      | succ m1 =>
      rw [sess_Check_L1.eq_2] at h
      refine Wp.seq ?_
      refine Wp.text [1, 3, 17, 18, 19, 20] rfl rfl ?_ -- region 5
      refine TextR.int rfl rfl rfl ?_
      refine TextR.done (.cons rfl (.cons rfl (.cons rfl (.cons rfl (.cons rfl (.cons rfl .nil)))))) ?_
      refine Wp.seq ?_
      refine Wp.condM h rfl (fun hc3 h => ?_) (fun hc3 h => ?_)
      · refine Wp.skip ?_
        refine Wp.seq ?_
        refine Wp.block ?_
        refine Wp.seq ?_
        obtain ⟨x4, hx4, h⟩ := bind_some h
        refine Wp.text [1, 3, 4, 5, 17, 18, 19] rfl rfl ?_ -- region 6
        refine TextR.move rfl ?_
        refine TextR.indexA se22 rfl rfl rfl hx4 rfl ?_
        refine TextR.loadNM tk41 rfl (at_get hx4) rfl ?_
        refine TextR.alloc 1 zc41 rfl rfl (.cons .nil) ?_
        refine TextR.assign rfl ?_
        refine TextR.store1 tk41 rfl rfl rfl rfl rfl rfl (.succ .zero) ?_
        refine TextR.done (.cons rfl (.cons rfl (.cons rfl (.cons rfl (.cons rfl (.cons rfl (.cons rfl .nil))))))) ?_
        refine Wp.seq ?_
        refine Wp.go false none [[], [], [], [], [(27, true)], [(27, true)], [], []] [] [1, 3, 5, 6, 17, 18, 19] mixed rfl rfl (by kernel_rfl) ?_ -- region 7
        refine RunR.fieldAddr fo41_2 rfl rfl rfl rfl rfl ?_
        refine RunR.load1 tk36 rfl rfl rfl rfl ?_
        refine RunR.int rfl rfl rfl rfl rfl ?_
        refine RunR.move rfl rfl rfl ?_
        refine RunR.move rfl rfl rfl ?_
        refine RunR.int rfl rfl rfl rfl rfl ?_
        refine RunR.pickAnd rfl rfl rfl rfl ?_
        refine RunR.assign rfl rfl rfl ?_
        refine RunR.doneQ (.cons rfl (.cons rfl (.cons rfl (.cons rfl (.cons rfl (.cons rfl (.cons rfl .nil))))))) ?_
        refine Wp.seq ?_
        refine Wp.block ?_
        refine Wp.seq ?_
        refine Wp.seq ?_
        refine Wp.text [1, 5, 6, 17, 18, 19, 31] rfl rfl ?_ -- region 8
        refine TextR.fieldAddr fo41_0 rfl rfl rfl ?_
        refine TextR.load1 tk3 rfl rfl ?_
        refine TextR.move rfl ?_
        refine TextR.int rfl rfl rfl ?_
        refine TextR.assign rfl ?_
        refine TextR.done (.cons rfl (.cons rfl (.cons rfl (.cons rfl (.cons rfl (.cons rfl (.cons rfl .nil))))))) ?_
        obtain ⟨z5, hz5, h⟩ := bind_some h
        refine Wp.fragN (fun S => ∃ S', St.Weak ⟨Try.prog, 67, Γ⟩ S S' ∧ S' = ⟨[(1, .c (.ptr 0 0 0 0)), (5, .c (.ptr 1 0 0 0)), (6, .c (B ((x4.State == 1) && (s19_1 == 0)))), (17, .c (.slv (a0.Sess.map eSess))), (18, .c (I (a0.Sess.length : Int))), (19, .c (I s19_1)), (31, .c (B z5))], [.live 0 2 [[I a0.Last, .slv (a0.Sess.map eSess)]], .live 0 4 [[I x4.ID, .slv (x4.Need.map eI), I x4.State, I x4.Age]]]⟩) ?_ ?_
        · replace h := hz5
          refine Wp.condM h rfl (fun hc5 h => ?_) (fun hc5 h => ?_)
          · refine Wp.skip ?_
            obtain rfl := Option.some.inj h
            exact ⟨_, (keepW (live := [1, 5, 6, 17, 18, 19, 31]) (.cons rfl (.cons rfl (.cons rfl (.cons rfl (.cons rfl (.cons rfl (.cons rfl .nil)))))))), rfl⟩
          · refine Wp.seq ?_
            refine Wp.text [1, 5, 6, 17, 18, 19, 31] rfl rfl ?_ -- region 9
            refine TextR.fieldAddr fo41_0 rfl rfl rfl ?_
            refine TextR.load1 tk3 rfl rfl ?_
            refine TextR.fieldAddr fo24_0 rfl rfl rfl ?_
            refine TextR.load1 tk3 rfl rfl ?_
            refine TextR.int rfl rfl rfl ?_
            refine TextR.assign rfl ?_
            refine TextR.done (.cons rfl (.cons rfl (.cons rfl (.cons rfl (.cons rfl (.cons rfl (.cons rfl .nil))))))) ?_
            refine Wp.condM h rfl (fun hc6 h => ?_) (fun hc6 h => ?_)
            · refine Wp.skip ?_
              obtain rfl := Option.some.inj h
              exact ⟨_, (keepW (live := [1, 5, 6, 17, 18, 19, 31]) (.cons rfl (.cons rfl (.cons rfl (.cons rfl (.cons rfl (.cons rfl (.cons rfl .nil)))))))), rfl⟩
            · refine Wp.seq ?_
              obtain ⟨y6, hy6, h⟩ := bind_some h
              refine Wp.text [1, 5, 6, 17, 18, 19, 31] rfl rfl ?_ -- region 10
              refine TextR.fieldAddr fo41_1 rfl rfl rfl ?_
              refine TextR.load1 tk25 rfl rfl ?_
              refine TextR.dcall rfl rfl (c_sess_odd N x4.Need y6 hy6 _) ?_
              refine TextR.assign rfl ?_
              refine TextR.done (.cons rfl (.cons rfl (.cons rfl (.cons rfl (.cons rfl (.cons rfl (.cons rfl .nil))))))) ?_
              refine Wp.condM h rfl (fun hc7 h => ?_) (fun hc7 h => ?_)
              · refine Wp.skip ?_
                obtain rfl := Option.some.inj h
                exact ⟨_, (keepW (live := [1, 5, 6, 17, 18, 19, 31]) (.cons rfl (.cons rfl (.cons rfl (.cons rfl (.cons rfl (.cons rfl (.cons rfl .nil)))))))), rfl⟩
              · refine Wp.seq ?_
                obtain ⟨y7, hy7, h⟩ := bind_some h
                refine Wp.text [1, 5, 6, 17, 18, 19, 31] rfl rfl ?_ -- region 11
                refine TextR.fieldAddr fo41_1 rfl rfl rfl ?_
                refine TextR.load1 tk25 rfl rfl ?_
                refine TextR.dcall rfl rfl (c_set_Valid N x4.Need y7 hy7 _) ?_
                refine TextR.not rfl ?_
                refine TextR.assign rfl ?_
                refine TextR.done (.cons rfl (.cons rfl (.cons rfl (.cons rfl (.cons rfl (.cons rfl (.cons rfl .nil))))))) ?_
                refine Wp.condM h rfl (fun hc8 h => ?_) (fun hc8 h => ?_)
                · refine Wp.skip ?_
                  obtain rfl := Option.some.inj h
                  exact ⟨_, (keepW (live := [1, 5, 6, 17, 18, 19, 31]) (.cons rfl (.cons rfl (.cons rfl (.cons rfl (.cons rfl (.cons rfl (.cons rfl .nil)))))))), rfl⟩
                · refine Wp.text [1, 5, 6, 17, 18, 19, 31] rfl rfl ?_ -- region 12
                  refine TextR.fieldAddr fo41_3 rfl rfl rfl ?_
                  refine TextR.load1 tk3 rfl rfl ?_
                  refine TextR.int rfl rfl rfl ?_
                  refine TextR.assign rfl ?_
                  refine TextR.done (.cons rfl (.cons rfl (.cons rfl (.cons rfl (.cons rfl (.cons rfl (.cons rfl .nil))))))) ?_
                  obtain rfl := Option.some.inj h
                  exact ⟨_, (keepW (live := [1, 5, 6, 17, 18, 19, 31]) (.cons rfl (.cons rfl (.cons rfl (.cons rfl (.cons rfl (.cons rfl (.cons rfl .nil)))))))), rfl⟩
        rintro _ ⟨S', hw, rfl⟩
        clear hz5
        refine Wp.weak hw ?_
        refine Wp.condM h rfl (fun hc4 h => ?_) (fun hc4 h => ?_)
        · refine Wp.seq ?_
          refine Wp.text [2] rfl rfl ?_ -- region 13
          refine TextR.assign rfl ?_
          refine TextR.done (.cons rfl .nil) ?_
          refine Wp.ret ?_
          exact ⟨_, (Option.some.inj h).symm, Ret.one rfl (resV_tmp rfl) rfl⟩
        · refine Wp.seq ?_
          refine Wp.go false none [[], [], [], [(54, true)], [(54, true)], [(54, true)], [(54, true)], [(58, false), (54, true)], [(58, false), (54, true)], [(58, false), (54, true)], [(54, true)], [], []] [] [1, 5, 17, 18, 19, 51] mixed rfl rfl (by kernel_rfl) ?_ -- region 14
          refine RunR.move rfl rfl rfl ?_
          refine RunR.not rfl rfl rfl ?_
          refine RunR.move rfl rfl rfl ?_
          refine RunR.fieldAddr fo41_2 rfl rfl rfl rfl rfl ?_
          refine RunR.load1 tk36 rfl rfl rfl rfl ?_
          refine RunR.int rfl rfl rfl rfl rfl ?_
          refine RunR.move rfl rfl rfl ?_
          refine RunR.fieldAddr fo41_3 rfl rfl rfl rfl rfl ?_
          refine RunR.load1 tk3 rfl rfl rfl rfl ?_
          refine RunR.int rfl rfl rfl rfl rfl ?_
          refine RunR.pickOr rfl rfl rfl rfl ?_
          refine RunR.pickAnd rfl rfl rfl rfl ?_
          refine RunR.assign rfl rfl rfl ?_
          refine RunR.doneQ (.cons rfl (.cons rfl (.cons rfl (.cons rfl (.cons rfl (.cons rfl .nil)))))) ?_
          refine Wp.condM h rfl (fun hc5 h => ?_) (fun hc5 h => ?_)
          · refine Wp.seq ?_
            refine Wp.text [2] rfl rfl ?_ -- region 15
            refine TextR.assign rfl ?_
            refine TextR.done (.cons rfl .nil) ?_
            refine Wp.ret ?_
            exact ⟨_, (Option.some.inj h).symm, Ret.one rfl (resV_tmp rfl) rfl⟩
          · refine Wp.skip ?_
            refine Wp.text [1, 3, 17, 18, 19] rfl rfl ?_ -- region 16
            refine TextR.fieldAddr fo41_0 rfl rfl rfl ?_
            refine TextR.load1 tk3 rfl rfl ?_
            refine TextR.assign rfl ?_
            refine TextR.done (.cons rfl (.cons rfl (.cons rfl (.cons rfl (.cons rfl .nil))))) ?_
            refine Wp.text [1, 3, 17, 18, 19] rfl rfl ?_ -- region 17
            refine TextR.int rfl rfl rfl ?_
            refine TextR.move rfl ?_
            refine TextR.done (.cons rfl (.cons rfl (.cons rfl (.cons rfl (.cons rfl .nil))))) ?_
            exact ⟨m1, Nat.lt_succ_self _, _, (St.Weak.trans (keepW (live := [1, 3, 17, 18, 19]) (.cons rfl (.cons rfl (.cons rfl (.cons rfl (.cons rfl .nil)))))) (pickT (e' := [(1, .c (.ptr 0 0 0 0)), (3, .c (I x4.ID)), (17, .c (.slv (a0.Sess.map eSess))), (18, .c (I (a0.Sess.length : Int))), (19, .c (I (w64 (s19_1 + 1))))]) (H' := [.live 0 2 [[I a0.Last, .slv (a0.Sess.map eSess)]]]) [0] [0, 0] 0 hok.len.symm rfl rfl (by decide) (by first | rfl | simp [-List.map_set]) (by first | rfl | simp [-List.map_set]) (by first | rfl | simp [-List.map_set]) (by first | rfl | simp [-List.map_set]))), _, _, h, rfl⟩
      · refine Wp.exit ?_
        exact ⟨_, (Option.some.inj h).symm, _, (St.Weak.trans (keepW (live := []) .nil) (pickT (e' := []) (H' := []) [] [0] 0 hok.len.symm rfl rfl (by decide) (by first | rfl | simp [-List.map_set]) (by first | rfl | simp [-List.map_set]) (by first | rfl | simp [-List.map_set]) (by first | rfl | simp [-List.map_set]))), rfl⟩
    · rintro _ ⟨z3, rfl, _, hw, rfl⟩
      dsimp only at h
      clear hz1
      refine Wp.weak hw ?_
      refine Wp.seq ?_
      refine Wp.text [2] rfl rfl ?_ -- region 18
      refine TextR.assign rfl ?_
      refine TextR.done (.cons rfl .nil) ?_
      refine Wp.ret ?_
      obtain rfl := Option.some.inj h
      exact Ret.one rfl (resV_tmp rfl) rfl
    · rintro S' ⟨r2, rfl, hR⟩
      dsimp only at h
      obtain rfl := Option.some.inj h
      exact hR
theorem c_sess_Check (N : Nat) (a0 : TBook) (r : Int) (h : sess_Check N a0 = some r) (H : List Ob) : DCall Try.prog 20 [.agg (eBook a0)] H (.c (I r)) := DCall.lift (by first | rfl | simp [-List.map_set]) (by first | rfl | simp [-List.map_set]) (fun _ => by simp [-List.map_set]) (w_sess_Check N a0 r h) H
-- slices.Clone
theorem bn_slices_Clone_Sess : Nx.Call Try.prog 55 [.c nilS] [] fun r' H' => r' = .c (.sl 0 1 0 0) ∧ ∃ junk, H' = [.live 1 4 []] ++ junk := by
  refine Nx.Call.of_body Try.func55 rfl en55 Try.ntmps55 rfl (fun Γ hok => ?_)
  refine Wp.seq ?_
  refine Wp.text [0] rfl rfl ?_ -- region 0
  refine TextR.assign rfl ?_
  refine TextR.done (.cons rfl .nil) ?_
  refine Wp.seq ?_
  refine Wp.seq ?_
  refine Wp.text [0, 4] rfl rfl ?_ -- region 1
  refine TextR.move rfl ?_
  refine TextR.eqNil us22 rfl rfl ?_
  refine TextR.done (.cons rfl (.cons rfl .nil)) ?_
  refine Wp.cond rfl (fun hc => ?_) (fun hc => ?_)
  · refine Wp.seq ?_
    refine Wp.text [2] rfl rfl ?_ -- region 2
    refine TextR.assign rfl ?_
    refine TextR.done (.cons rfl .nil) ?_
    refine Wp.weak (fun a w hs => nilV_sat (t := 2) 1 4 0 rfl rfl .nil hs) ?_
    refine Wp.ret ?_
    refine Ret.one rfl (resV_tmp rfl) ?_
    exact ⟨rfl, [], rfl⟩
  · cases hc
theorem bq_slices_Clone_Sess (xs : List TSess) (hl : xs.length ≤ 10000000000) : Nx.Call Try.prog 55 [.c (.slq (xs.map eSess))] [] fun r' H' => r' = .c (.sl 0 1 0 xs.length) ∧ ∃ junk, H' = [.live 1 4 (xs.map eSess)] ++ junk := by
  refine Nx.Call.of_body Try.func55 rfl en55 Try.ntmps55 rfl (fun Γ hok => ?_)
  refine Wp.seq ?_
  refine Wp.text [0] rfl rfl ?_ -- region 0
  refine TextR.assign rfl ?_
  refine TextR.done (.cons rfl .nil) ?_
  refine Wp.seq ?_
  refine Wp.seq ?_
  refine Wp.text [0, 4] rfl rfl ?_ -- region 1
  refine TextR.move rfl ?_
  refine TextR.eqNil us22 rfl rfl ?_
  refine TextR.done (.cons rfl (.cons rfl .nil)) ?_
  refine Wp.cond rfl (fun hc => ?_) (fun hc => ?_)
  · cases hc
  · refine Wp.skip ?_
    refine Wp.seq ?_
    refine Wp.text [2] rfl rfl ?_ -- region 3
    refine TextR.buildSlice 0 se22 rfl rfl rfl .nil ?_
    refine TextR.move rfl ?_
    refine TextR.appendM eSess [] xs xs rfl se22 rfl rfl rfl rfl (fun _ => rfl) rfl (by simp; omega) .zero ?_
    refine TextR.assign rfl ?_
    refine TextR.done (.cons rfl .nil) ?_
    refine Wp.ret ?_
    refine Ret.one rfl (resV_tmp rfl) ?_
    exact ⟨rfl, [], rfl⟩
theorem b_slices_Clone_Sess (xs : List TSess) (hl : xs.length ≤ 10000000000) : Nx.Call Try.prog 55 [.c (.slv (xs.map eSess))] [] fun r' H' => r' = .c (.sl 0 1 0 xs.length) ∧ ∃ junk, H' = [.live 1 4 (xs.map eSess)] ++ junk :=
  .cases en55 fun Γ args' hok hc => by
    simp only [concVs] at hc
    obtain ⟨y, ys', h1, h2, h3⟩ := hc
    rcases conc_slv_nil h2 with ⟨h4, h5⟩ | h5
    · have h6 : xs = [] := by simpa using h4
      subst h6
      exact ⟨[.c nilS], bn_slices_Clone_Sess, by simp only [concVs]; exact ⟨y, ys', h1, h5, h3⟩⟩
    · exact ⟨[.c (.slq (xs.map eSess))], bq_slices_Clone_Sess xs hl, by simp only [concVs]; exact ⟨y, ys', h1, h5, h3⟩⟩
theorem o_slices_Clone_Sess (N : Nat) (a0 r : List TSess) (h : slices_Clone_Sess N a0 = some r) {H H1 : List Ob} (k : Nat) (hh : H.length = k) (hs : Snoc (.live 1 4 (r.map eSess)) H H1) : Nx.Call Try.prog 55 [.c (.slv (a0.map eSess))] H fun r' H' => r' = .c (.sl k 1 0 r.length) ∧ H' = H1 := by
  have he := app_eq h
  have hl := app_len h
  simp only [List.nil_append] at he
  subst he
  have hc := Call.lift (objs := [.live 1 4 (a0.map eSess)]) (by simp [hfVs, hfV, hfL, hfRows_map h_Sess]) rfl (by have := okR_eSess (p := mvL 1) a0; simpa [mvO] using this) (b_slices_Clone_Sess a0 (by simpa using hl)) H
  refine Call.mono hc fun r' H' ⟨h1, h2⟩ => ⟨by subst hh; simpa [shV, shL] using h1, ?_⟩
  rw [h2, ← hs.eq]
  simp [shO, fx_eSess]
-- narthex/sess.own
theorem b_sess_own (N : Nat) (a0 : TBook) (r : TBook) (h : sess_own N a0 = some r) : Nx.Call Try.prog 41 [.agg (eBook a0)] [] fun r' H' => r' = .agg [I r.Last, .sl 0 0 0 r.Sess.length] ∧ ∃ junk, H' = [.live 0 4 (r.Sess.map eSess)] ++ junk := by
  refine Nx.Call.of_body Try.func41 rfl en41 Try.ntmps41 rfl (fun Γ hok => ?_)
  unfold sess_own at h
  refine Wp.seq ?_
  refine Wp.text [1, 2] rfl rfl ?_ -- region 0
  refine TextR.box (cs := [I a0.Last, .slv (a0.Sess.map eSess)]) 0 rfl rfl rfl rfl .nil ?_
  refine TextR.alloc 1 zc24 rfl rfl (.cons .nil) ?_
  refine TextR.done (.cons rfl (.cons rfl .nil)) ?_
  refine Wp.seq ?_
  obtain ⟨y1, hy1, h⟩ := bind_some h
  refine Wp.text [1, 2] rfl rfl ?_ -- region 1
  refine TextR.fieldAddr fo24_1 rfl rfl rfl ?_
  refine TextR.load1 tk22 rfl rfl ?_
  refine TextR.call rfl rfl (by exact o_slices_Clone_Sess N a0.Sess y1 hy1 2 rfl (.cons (.cons .nil))) (fun x H' hk => ?_)
  obtain ⟨rfl, rfl⟩ := hk
  refine TextR.fieldAddr fo24_1 rfl rfl rfl ?_
  refine TextR.storeF (r' := [I a0.Last, .sl 2 1 0 y1.length]) tk22 rfl rfl rfl rfl rfl rfl rfl .zero ?_
  refine TextR.done (.cons rfl (.cons rfl .nil)) ?_
  refine Wp.seq ?_
  refine Wp.seq ?_
  refine Wp.text [1, 2, 10, 11] rfl rfl ?_ -- region 2
  refine TextR.fieldAddr fo24_1 rfl rfl rfl ?_
  refine TextR.load1 tk22 rfl rfl ?_
  refine TextR.len us22 rfl rfl ?_
  refine TextR.move rfl ?_
  refine TextR.done (.cons rfl (.cons rfl (.cons rfl (.cons rfl .nil)))) ?_
  obtain ⟨z2, hz2, h⟩ := bind_some h
  refine Wp.fragN (fun S => ∃ S', St.Weak ⟨Try.prog, 28, Γ⟩ S S' ∧ S' = ⟨[(1, .c (.ptr 0 0 0 0)), (2, .c (.ptr 2 0 0 0))], [.live 0 2 [[I a0.Last, .sl 1 1 0 z2.length]], .live 1 4 (z2.map eSess), .live 0 2 [[I 0, nilS]]]⟩) ?_ ?_
  · replace h := hz2
    refine Wp.block ?_
    refine Wp.weak (St.Weak.trans (keepW (live := [1, 2, 10, 11]) (.cons rfl (.cons rfl (.cons rfl (.cons rfl .nil))))) (pickT (e' := [(1, .c (.ptr 0 0 0 0)), (2, .c (.ptr 2 0 0 0)), (10, .c (I (y1.length : Int))), (11, .c (I 0))]) (H' := [.live 0 2 [[I a0.Last, .sl 1 1 0 y1.length]], .live 1 4 (y1.map eSess), .live 0 2 [[I 0, nilS]]]) [0, 2, 1] [0, 2, 1] 0 hok.len.symm rfl rfl (by decide) (by first | rfl | simp [-List.map_set]) (by first | rfl | simp [-List.map_set]) (by first | rfl | simp [-List.map_set]) (by first | rfl | simp [-List.map_set]))) ?_
    refine Wp.loop (fun m S => ∃ l1_1, ∃ s11_1, sess_own_L1 N y1 m l1_1 s11_1 = some z2 ∧ S = ⟨[(1, .c (.ptr 0 0 0 0)), (2, .c (.ptr 2 0 0 0)), (10, .c (I (y1.length : Int))), (11, .c (I s11_1))], [.live 0 2 [[I a0.Last, .sl 1 1 0 l1_1.length]], .live 1 4 (l1_1.map eSess), .live 0 2 [[I 0, nilS]]]⟩) N ⟨_, _, h, rfl⟩ ?_
    rintro m1 _ ⟨l1_1, s11_1, h, rfl⟩
    cases m1 with
    | zero => rw [sess_own_L1.eq_1] at h; cases h
    | succ m1 =>
    rw [sess_own_L1.eq_2] at h
    refine Wp.seq ?_
    refine Wp.text [1, 2, 10, 11, 12] rfl rfl ?_ -- region 3
    refine TextR.int rfl rfl rfl ?_
    refine TextR.done (.cons rfl (.cons rfl (.cons rfl (.cons rfl (.cons rfl .nil))))) ?_
    refine Wp.seq ?_
    refine Wp.condM h rfl (fun hc2 h => ?_) (fun hc2 h => ?_)
    · refine Wp.skip ?_
      refine Wp.seq ?_
      refine Wp.block ?_
      refine Wp.seq ?_
      refine Wp.text [1, 2, 3, 10, 11] rfl rfl ?_ -- region 4
      refine TextR.move rfl ?_
      refine TextR.assign rfl ?_
      refine TextR.done (.cons rfl (.cons rfl (.cons rfl (.cons rfl (.cons rfl .nil))))) ?_
      obtain ⟨x3, hx3, h⟩ := bind_some h
      obtain ⟨y4, hy4, h⟩ := bind_some h
      obtain ⟨x5, hx5, h⟩ := bind_some h
      refine Wp.go true (some ⟨[1], []⟩) [] [] [1, 2, 10, 11] mixed rfl rfl (by kernel_rfl) ?_ -- region 5
      refine RunR.fieldAddr fo24_1 rfl rfl rfl rfl rfl ?_
      refine RunR.load1 tk22 rfl rfl rfl rfl ?_
      refine RunR.move rfl rfl rfl ?_
      refine RunR.fieldAddr fo24_1 rfl rfl rfl rfl rfl ?_
      refine RunR.load1 tk22 rfl rfl rfl rfl ?_
      refine RunR.move rfl rfl rfl ?_
      refine RunR.indexOA se22 rfl rfl rfl rfl rfl hx3 ?_
      refine RunR.fieldAddr fo41_1 rfl rfl rfl rfl rfl ?_
      refine RunR.load1O tk25 rfl rfl rfl rfl (at_get hx3) rfl ?_
      refine RunR.call rfl rfl rfl (fun H => c_slices_Clone_int N x3.Need y4 hy4 H) ?_
      refine RunR.indexOA se22 rfl rfl rfl rfl rfl hx5 ?_
      refine RunR.fieldAddr fo41_1 rfl rfl rfl rfl rfl ?_
      refine RunR.storeO { x5 with Need := y4 } tk25 rfl rfl rfl rfl rfl rfl rfl (at_get hx5) rfl rfl (.succ .zero) ?_
      refine RunR.doneQ (.cons rfl (.cons rfl (.cons rfl (.cons rfl .nil)))) ?_
      refine Wp.weak (eqW (S' := ⟨[(1, .c (.ptr 0 0 0 0)), (2, .c (.ptr 2 0 0 0)), (10, .c (I (y1.length : Int))), (11, .c (I s11_1))], [.live 0 2 [[I a0.Last, .sl 1 1 0 (l1_1.set s11_1.toNat { x5 with Need := y4 }).length]], .live 1 4 ((l1_1.set s11_1.toNat { x5 with Need := y4 }).map eSess), .live 0 2 [[I 0, nilS]]]⟩) (by first | rfl | (simp only [List.length_set]; done) | (simp only [List.length_set]; rfl))) ?_
      refine Wp.text [1, 2, 10, 11] rfl rfl ?_ -- region 6
      refine TextR.int rfl rfl rfl ?_
      refine TextR.move rfl ?_
      refine TextR.done (.cons rfl (.cons rfl (.cons rfl (.cons rfl .nil)))) ?_
      exact ⟨m1, Nat.lt_succ_self _, _, (keepW (live := [1, 2, 10, 11]) (.cons rfl (.cons rfl (.cons rfl (.cons rfl .nil))))), _, _, h, rfl⟩
    · refine Wp.exit ?_
      obtain rfl := Option.some.inj h
      exact ⟨_, (keepW (live := [1, 2]) (.cons rfl (.cons rfl .nil))), rfl⟩
  rintro _ ⟨S', hw, rfl⟩
  clear hz2
  refine Wp.weak hw ?_
  refine Wp.seq ?_
  refine Wp.text [2] rfl rfl ?_ -- region 7
  refine TextR.loadN (cs := [I a0.Last, .sl 1 1 0 z2.length]) tk24 rfl rfl ?_
  refine TextR.store1 tk24 rfl rfl rfl rfl rfl rfl (.succ (.succ .zero)) ?_
  refine TextR.done (.cons rfl .nil) ?_
  refine Wp.weak (keepW (live := [2] ) (.cons rfl .nil)) ?_
  refine Wp.weak (pickT (e' := [(2, .c (.ptr 2 0 0 0))]) (H' := [.live 1 4 (z2.map eSess), .live 0 2 [[I a0.Last, .sl 0 1 0 z2.length]], .live 0 2 [[I a0.Last, .sl 0 1 0 z2.length]]]) [1, 0, 2] [1, 0, 2] 0 hok.len.symm rfl rfl (by decide) (by first | rfl | simp [-List.map_set]) (by first | rfl | simp [-List.map_set]) (by first | rfl | simp [-List.map_set]) (by first | rfl | simp [-List.map_set])) ?_
  refine Wp.weak (reverW (h := 0) (ver := 1) (rows := z2.map eSess) (e' := [(2, .c (.ptr 2 0 0 0))]) (H' := [.live 0 4 (z2.map eSess), .live 0 2 [[I a0.Last, .sl 0 0 0 z2.length]], .live 0 2 [[I a0.Last, .sl 0 0 0 z2.length]]]) 0 hok.len.symm rfl rfl (rv_self ok_eSess fx_eSess _) (by simp [rvK, allVp, allO, -List.map_set]) (by simp [rvK, allVp, allO, -List.map_set]) (by first | rfl | simp [-List.map_set]) (by first | rfl | simp [-List.map_set])) ?_
  refine Wp.ret ?_
  obtain rfl := Option.some.inj h
  exact Ret.one rfl (resV_cellN tk24 rfl rfl) ⟨rfl, _, rfl⟩
theorem o_sess_own (N : Nat) (a0 : TBook) (r : TBook) (h : sess_own N a0 = some r) {H H1 : List Ob} (k0 : Nat) (hh0 : H.length = k0) (hs : H ++ [.live 0 4 (r.Sess.map eSess)] = H1) : Nx.Call Try.prog 41 [.agg (eBook a0)] H fun r' H' => r' = .agg [I r.Last, .sl k0 0 0 r.Sess.length] ∧ H' = H1 := by
  have hc := Call.lift (objs := [.live 0 4 (r.Sess.map eSess)]) (by first | rfl | simp [-List.map_set]) (by first | rfl | simp [-List.map_set]) (by have q0 := okR_eSess (p := mvL 1) r.Sess; simp [mvO, q0]) (b_sess_own N a0 r h) H
  refine Call.mono hc fun r' H' ⟨h1, h2⟩ => ⟨by subst hh0; simpa [shV, shL, -List.map_set] using h1, ?_⟩
  rw [h2, ← hs]
  simp [shO, fx_eSess]
-- narthex/sess.Open
theorem w_sess_Open (N : Nat) (a0 : TBook) (a1 : Int) (a2 : List Int) (r : TBook × Int) (h : sess_Open N a0 a1 a2 = some r) : Nx.Call Try.prog 26 [.agg (eBook a0), .c (I a1), .c (.slv (a2.map eI))] [] fun r' _ => r' = .tup [.agg (eBook r.1), .c (I r.2)] := by
  refine Nx.Call.of_body Try.func26 rfl en26 Try.ntmps26 rfl (fun Γ hok => ?_)
  unfold sess_Open at h
  refine Wp.seq ?_
  refine Wp.text [1, 2, 3, 6] rfl rfl ?_ -- region 0
  refine TextR.box (cs := [I a0.Last, .slv (a0.Sess.map eSess)]) 0 rfl rfl rfl rfl .nil ?_
  refine TextR.alloc 1 zc24 rfl rfl (.cons .nil) ?_
  refine TextR.assign rfl ?_
  refine TextR.done (.cons rfl (.cons rfl (.cons rfl (.cons rfl .nil)))) ?_
  refine Wp.seq ?_
  obtain ⟨y1, hy1, h⟩ := bind_some h
  refine Wp.text [1, 3, 6, 8] rfl rfl ?_ -- region 1
  refine TextR.move rfl ?_
  refine TextR.dcall rfl rfl (c_set_Of N a2 y1 hy1 _) ?_
  refine TextR.assign rfl ?_
  refine TextR.done (.cons rfl (.cons rfl (.cons rfl (.cons rfl .nil)))) ?_
  refine Wp.seq ?_
  obtain ⟨y2, hy2, h⟩ := bind_some h
  refine Wp.text [1, 3, 6, 8, 9] rfl rfl ?_ -- region 2
  refine TextR.loadN (cs := [I a0.Last, .slv (a0.Sess.map eSess)]) tk24 rfl rfl ?_
  refine TextR.dcall rfl rfl (c_sess_Check N a0 y2 hy2 _) ?_
  refine TextR.assign rfl ?_
  refine TextR.done (.cons rfl (.cons rfl (.cons rfl (.cons rfl (.cons rfl .nil))))) ?_
  refine Wp.seq ?_
  obtain ⟨z3, hz3, h⟩ := bind_some h
  refine Wp.fragN (fun S => ∃ S', St.Weak ⟨Try.prog, 47, Γ⟩ S S' ∧ S' = ⟨[(1, .c (I a1)), (3, .c (.ptr 0 0 0 0)), (6, .c (.ptr 1 0 0 0)), (8, .c (.slv (y1.map eI))), (9, .c (I z3))], [.live 0 2 [[I a0.Last, .slv (a0.Sess.map eSess)]], .live 0 2 [[I 0, nilS]]]⟩) ?_ ?_
  · replace h := hz3
    refine Wp.block ?_
    refine Wp.seq ?_
    refine Wp.text [1, 3, 6, 8, 9, 14] rfl rfl ?_ -- region 3
    refine TextR.move rfl ?_
    refine TextR.int rfl rfl rfl ?_
    refine TextR.assign rfl ?_
    refine TextR.done (.cons rfl (.cons rfl (.cons rfl (.cons rfl (.cons rfl (.cons rfl .nil)))))) ?_
    refine Wp.condM h rfl (fun hc2 h => ?_) (fun hc2 h => ?_)
    · refine Wp.skip ?_
      obtain rfl := Option.some.inj h
      exact ⟨_, (keepW (live := [1, 3, 6, 8, 9]) (.cons rfl (.cons rfl (.cons rfl (.cons rfl (.cons rfl .nil)))))), rfl⟩
    · refine Wp.seq ?_
      refine Wp.text [1, 3, 6, 8, 9, 17] rfl rfl ?_ -- region 4
      refine TextR.move rfl ?_
      refine TextR.fieldAddr fo24_0 rfl rfl rfl ?_
      refine TextR.load1 tk3 rfl rfl ?_
      refine TextR.int rfl rfl rfl ?_
      refine TextR.assign rfl ?_
      refine TextR.done (.cons rfl (.cons rfl (.cons rfl (.cons rfl (.cons rfl (.cons rfl .nil)))))) ?_
      refine Wp.condM h rfl (fun hc3 h => ?_) (fun hc3 h => ?_)
      · refine Wp.text [1, 3, 6, 8, 9] rfl rfl ?_ -- region 5
        refine TextR.assign rfl ?_
        refine TextR.done (.cons rfl (.cons rfl (.cons rfl (.cons rfl (.cons rfl .nil))))) ?_
        obtain rfl := Option.some.inj h
        exact ⟨_, (keepW (live := [1, 3, 6, 8, 9]) (.cons rfl (.cons rfl (.cons rfl (.cons rfl (.cons rfl .nil)))))), rfl⟩
      · refine Wp.seq ?_
        obtain ⟨y4, hy4, h⟩ := bind_some h
        refine Wp.text [1, 3, 6, 8, 9, 22] rfl rfl ?_ -- region 6
        refine TextR.move rfl ?_
        refine TextR.dcall rfl rfl (c_sess_odd N y1 y4 hy4 _) ?_
        refine TextR.assign rfl ?_
        refine TextR.done (.cons rfl (.cons rfl (.cons rfl (.cons rfl (.cons rfl (.cons rfl .nil)))))) ?_
        refine Wp.condM h rfl (fun hc4 h => ?_) (fun hc4 h => ?_)
        · refine Wp.text [1, 3, 6, 8, 9] rfl rfl ?_ -- region 7
          refine TextR.assign rfl ?_
          refine TextR.done (.cons rfl (.cons rfl (.cons rfl (.cons rfl (.cons rfl .nil))))) ?_
          obtain rfl := Option.some.inj h
          exact ⟨_, (keepW (live := [1, 3, 6, 8, 9]) (.cons rfl (.cons rfl (.cons rfl (.cons rfl (.cons rfl .nil)))))), rfl⟩
        · refine Wp.seq ?_
          refine Wp.text [1, 3, 6, 8, 9, 25] rfl rfl ?_ -- region 8
          refine TextR.fieldAddr fo24_1 rfl rfl rfl ?_
          refine TextR.load1 tk22 rfl rfl ?_
          refine TextR.lenM us22 rfl rfl ?_
          refine TextR.int rfl rfl rfl ?_
          refine TextR.assign rfl ?_
          refine TextR.done (.cons rfl (.cons rfl (.cons rfl (.cons rfl (.cons rfl (.cons rfl .nil)))))) ?_
          refine Wp.condM h rfl (fun hc5 h => ?_) (fun hc5 h => ?_)
          · refine Wp.text [1, 3, 6, 8, 9] rfl rfl ?_ -- region 9
            refine TextR.assign rfl ?_
            refine TextR.done (.cons rfl (.cons rfl (.cons rfl (.cons rfl (.cons rfl .nil))))) ?_
            obtain rfl := Option.some.inj h
            exact ⟨_, (keepW (live := [1, 3, 6, 8, 9]) (.cons rfl (.cons rfl (.cons rfl (.cons rfl (.cons rfl .nil)))))), rfl⟩
          · refine Wp.skip ?_
            obtain rfl := Option.some.inj h
            exact ⟨_, (keepW (live := [1, 3, 6, 8, 9]) (.cons rfl (.cons rfl (.cons rfl (.cons rfl (.cons rfl .nil)))))), rfl⟩
  rintro _ ⟨S', hw, rfl⟩
  clear hz3
  refine Wp.weak hw ?_
  refine Wp.seq ?_
  refine Wp.seq ?_
  refine Wp.text [1, 3, 6, 8, 9, 31] rfl rfl ?_ -- region 10
  refine TextR.move rfl ?_
  refine TextR.int rfl rfl rfl ?_
  refine TextR.done (.cons rfl (.cons rfl (.cons rfl (.cons rfl (.cons rfl (.cons rfl .nil)))))) ?_
  refine Wp.condM h rfl (fun hc1 h => ?_) (fun hc1 h => ?_)
  · refine Wp.seq ?_
    refine Wp.text [6, 7] rfl rfl ?_ -- region 11
    refine TextR.build cm24 rfl ?_
    refine TextR.move rfl ?_
    refine TextR.store1 tk24 rfl rfl rfl rfl rfl rfl (.succ .zero) ?_
    refine TextR.assign rfl ?_
    refine TextR.done (.cons rfl (.cons rfl .nil)) ?_
    refine Wp.weak (keepW (live := [6, 7] ) (.cons rfl (.cons rfl .nil))) ?_
    refine Wp.weak (nzT (e' := [(6, .c (.ptr 1 0 0 0)), (7, .c (I z3))]) (H' := [.live 0 2 [[I a0.Last, .slv (a0.Sess.map eSess)]], .live 0 2 [[I 0, .slv ([].map eSess)]]]) (by first | rfl | simp [-List.map_set]) (by first | rfl | simp [-List.map_set])) ?_
    refine Wp.ret ?_
    obtain rfl := Option.some.inj h
    exact Ret.two rfl (resV_cellN tk24 rfl rfl) (resV_tmp rfl) rfl
  · refine Wp.skip ?_
    refine Wp.seq ?_
    obtain ⟨y5, hy5, h⟩ := bind_some h
    refine Wp.text [1, 3, 6, 8] rfl rfl ?_ -- region 12
    refine TextR.loadN (cs := [I a0.Last, .slv (a0.Sess.map eSess)]) tk24 rfl rfl ?_
    refine TextR.call rfl rfl (by exact o_sess_own N a0 y5 hy5 (H1 := [.live 0 2 [[I a0.Last, .slv (a0.Sess.map eSess)]], .live 0 2 [[I 0, nilS]], .live 0 4 (y5.Sess.map eSess)]) 2 rfl rfl) (fun x H' hk => ?_)
    obtain ⟨rfl, rfl⟩ := hk
    refine TextR.store1 tk24 rfl rfl rfl rfl rfl rfl .zero ?_
    refine TextR.done (.cons rfl (.cons rfl (.cons rfl (.cons rfl .nil)))) ?_
    refine Wp.seq ?_
    refine Wp.text [1, 3, 6, 8] rfl rfl ?_ -- region 13
    refine TextR.move rfl ?_
    refine TextR.fieldAddr fo24_0 rfl rfl rfl ?_
    refine TextR.storeF (r' := [I a1, .sl 2 0 0 y5.Sess.length]) tk3 rfl rfl rfl rfl rfl rfl rfl .zero ?_
    refine TextR.done (.cons rfl (.cons rfl (.cons rfl (.cons rfl .nil)))) ?_
    refine Wp.seq ?_
    obtain ⟨x6, hx6, h⟩ := bind_some h
    refine Wp.text [3, 6] rfl rfl ?_ -- region 14
    refine TextR.fieldAddr fo24_1 rfl rfl rfl ?_
    refine TextR.load1 tk22 rfl rfl ?_
    refine TextR.move rfl ?_
    refine TextR.move rfl ?_
    refine TextR.build cm41 rfl ?_
    refine TextR.buildSlice (rows := [(⟨a1, y1, 0, 0⟩ : TSess)].map eSess) 3 se22 rfl rfl rfl (.cons (.cons (.cons .nil))) ?_
    refine TextR.appendM eSess y5.Sess [(⟨a1, y1, 0, 0⟩ : TSess)] x6 (app_eq hx6) se22 rfl rfl rfl (view_whole (f := eSess) (xs := [(⟨a1, y1, 0, 0⟩ : TSess)]) rfl) (fun _ => rfl) rfl (app_len hx6) (.succ (.succ .zero)) ?_
    refine TextR.fieldAddr fo24_1 rfl rfl rfl ?_
    refine TextR.storeF (r' := [I a1, .sl 2 1 0 x6.length]) tk22 rfl rfl rfl rfl rfl rfl rfl .zero ?_
    refine TextR.done (.cons rfl (.cons rfl .nil)) ?_
    refine Wp.seq ?_
    refine Wp.text [6, 7] rfl rfl ?_ -- region 15
    refine TextR.loadN (cs := [I a1, .sl 2 1 0 x6.length]) tk24 rfl rfl ?_
    refine TextR.store1 tk24 rfl rfl rfl rfl rfl rfl (.succ .zero) ?_
    refine TextR.assign rfl ?_
    refine TextR.done (.cons rfl (.cons rfl .nil)) ?_
    refine Wp.weak (keepW (live := [6, 7] ) (.cons rfl (.cons rfl .nil))) ?_
    refine Wp.weak (freezeW (h := 2) (ver := 1) (rows := x6.map eSess) (e' := [(6, .c (.ptr 1 0 0 0)), (7, .c (I 0))]) (H' := [.live 0 2 [[I a1, .slv (x6.map eSess)]], .live 0 2 [[I a1, .slv (x6.map eSess)]], .dead, .live 0 4 ([(⟨a1, y1, 0, 0⟩ : TSess)].map eSess)]) rfl (by first | rfl | simp [-List.map_set]) (by first | rfl | simp [-List.map_set])) ?_
    refine Wp.ret ?_
    obtain rfl := Option.some.inj h
    exact Ret.two rfl (resV_cellN tk24 rfl rfl) (resV_tmp rfl) rfl
theorem c_sess_Open (N : Nat) (a0 : TBook) (a1 : Int) (a2 : List Int) (r : TBook × Int) (h : sess_Open N a0 a1 a2 = some r) (H : List Ob) : DCall Try.prog 26 [.agg (eBook a0), .c (I a1), .c (.slv (a2.map eI))] H (.tup [.agg (eBook r.1), .c (I r.2)]) := DCall.lift (by first | rfl | simp [-List.map_set]) (by first | rfl | simp [-List.map_set]) (fun _ => by simp [-List.map_set]) (w_sess_Open N a0 a1 a2 r h) H
-- narthex/sess.Grant
theorem w_sess_Grant (N : Nat) (a0 : TBook) (r : TBook × Int × Int) (h : sess_Grant N a0 = some r) : Nx.Call Try.prog 23 [.agg (eBook a0)] [] fun r' _ => r' = .tup [.agg (eBook r.1), .c (I r.2.1), .c (I r.2.2)] := by
  refine Nx.Call.of_body Try.func23 rfl en23 Try.ntmps23 rfl (fun Γ hok => ?_)
  unfold sess_Grant at h
  refine Wp.seq ?_
  refine Wp.text [1, 2] rfl rfl ?_ -- region 0
  refine TextR.box (cs := [I a0.Last, .slv (a0.Sess.map eSess)]) 0 rfl rfl rfl rfl .nil ?_
  refine TextR.alloc 1 zc24 rfl rfl (.cons .nil) ?_
  refine TextR.assign rfl ?_
  refine TextR.assign rfl ?_
  refine TextR.done (.cons rfl (.cons rfl .nil)) ?_
  refine Wp.seq ?_
  refine Wp.seq ?_
  obtain ⟨y1, hy1, h⟩ := bind_some h
  refine Wp.text [1, 2, 5] rfl rfl ?_ -- region 1
  refine TextR.loadN (cs := [I a0.Last, .slv (a0.Sess.map eSess)]) tk24 rfl rfl ?_
  refine TextR.dcall rfl rfl (c_sess_Check N a0 y1 hy1 _) ?_
  refine TextR.assign rfl ?_
  refine TextR.done (.cons rfl (.cons rfl (.cons rfl .nil))) ?_
  refine Wp.seq ?_
  refine Wp.text [1, 2, 5, 9] rfl rfl ?_ -- region 2
  refine TextR.move rfl ?_
  refine TextR.int rfl rfl rfl ?_
  refine TextR.done (.cons rfl (.cons rfl (.cons rfl (.cons rfl .nil)))) ?_
  refine Wp.condM h rfl (fun hc1 h => ?_) (fun hc1 h => ?_)
  · refine Wp.seq ?_
    refine Wp.text [2, 3, 4] rfl rfl ?_ -- region 3
    refine TextR.build cm24 rfl ?_
    refine TextR.move rfl ?_
    refine TextR.store1 tk24 rfl rfl rfl rfl rfl rfl (.succ .zero) ?_
    refine TextR.assign rfl ?_
    refine TextR.assign rfl ?_
    refine TextR.done (.cons rfl (.cons rfl (.cons rfl .nil))) ?_
    refine Wp.weak (keepW (live := [2, 3, 4] ) (.cons rfl (.cons rfl (.cons rfl .nil)))) ?_
    refine Wp.weak (nzT (e' := [(2, .c (.ptr 1 0 0 0)), (3, .c (I 0)), (4, .c (I y1))]) (H' := [.live 0 2 [[I a0.Last, .slv (a0.Sess.map eSess)]], .live 0 2 [[I 0, .slv ([].map eSess)]]]) (by first | rfl | simp [-List.map_set]) (by first | rfl | simp [-List.map_set])) ?_
    refine Wp.ret ?_
    obtain rfl := Option.some.inj h
    exact Ret.three rfl (resV_cellN tk24 rfl rfl) (resV_tmp rfl) (resV_tmp rfl) rfl
  · refine Wp.skip ?_
    refine Wp.seq ?_
    refine Wp.seq ?_
    obtain ⟨x2, hx2, h⟩ := bind_some h
    refine Wp.go false none [[], [], [], [], [], [(16, false)], [(16, false)], [(16, false)], [(16, false)], [(16, false)], [(16, false)], []] [] [1, 2, 23] mixed rfl rfl (by kernel_rfl) ?_ -- region 4
    refine RunR.fieldAddr fo24_1 rfl rfl rfl rfl rfl ?_
    refine RunR.load1 tk22 rfl rfl rfl rfl ?_
    refine RunR.lenM us22 rfl rfl rfl rfl ?_
    refine RunR.int rfl rfl rfl rfl rfl ?_
    refine RunR.move rfl rfl rfl ?_
    refine RunR.fieldAddr fo24_1 rfl rfl rfl rfl rfl ?_
    refine RunR.load1 tk22 rfl rfl rfl rfl ?_
    refine RunR.indexAG se22 rfl rfl rfl rfl rfl (ifPos hx2 gF) (ifAt hx2 gF) rfl ?_
    refine RunR.fieldAddr fo41_2 rfl rfl rfl rfl rfl ?_
    refine RunR.load1G tk36 rfl rfl rfl (ifAt hx2 gF) rfl ?_
    refine RunR.int rfl rfl rfl rfl rfl ?_
    refine RunR.pickOr rfl rfl rfl rfl ?_
    refine RunR.doneQ (.cons rfl (.cons rfl (.cons rfl .nil))) ?_
    refine Wp.condM h rfl (fun hc2 h => ?_) (fun hc2 h => ?_)
    · refine Wp.seq ?_
      refine Wp.text [2, 3, 4] rfl rfl ?_ -- region 5
      refine TextR.build cm24 rfl ?_
      refine TextR.store1 tk24 rfl rfl rfl rfl rfl rfl (.succ .zero) ?_
      refine TextR.assign rfl ?_
      refine TextR.assign rfl ?_
      refine TextR.done (.cons rfl (.cons rfl (.cons rfl .nil))) ?_
      refine Wp.weak (keepW (live := [2, 3, 4] ) (.cons rfl (.cons rfl (.cons rfl .nil)))) ?_
      refine Wp.weak (nzT (e' := [(2, .c (.ptr 1 0 0 0)), (3, .c (I 0)), (4, .c (I 175))]) (H' := [.live 0 2 [[I a0.Last, .slv (a0.Sess.map eSess)]], .live 0 2 [[I 0, .slv ([].map eSess)]]]) (by first | rfl | simp [-List.map_set]) (by first | rfl | simp [-List.map_set])) ?_
      refine Wp.ret ?_
      obtain rfl := Option.some.inj h
      exact Ret.three rfl (resV_cellN tk24 rfl rfl) (resV_tmp rfl) (resV_tmp rfl) rfl
    · refine Wp.skip ?_
      refine Wp.seq ?_
      obtain ⟨y3, hy3, h⟩ := bind_some h
      refine Wp.text [1, 2] rfl rfl ?_ -- region 6
      refine TextR.loadN (cs := [I a0.Last, .slv (a0.Sess.map eSess)]) tk24 rfl rfl ?_
      refine TextR.call rfl rfl (by exact o_sess_own N a0 y3 hy3 (H1 := [.live 0 2 [[I a0.Last, .slv (a0.Sess.map eSess)]], .live 0 2 [[I 0, nilS]], .live 0 4 (y3.Sess.map eSess)]) 2 rfl rfl) (fun x H' hk => ?_)
      obtain ⟨rfl, rfl⟩ := hk
      refine TextR.store1 tk24 rfl rfl rfl rfl rfl rfl .zero ?_
      refine TextR.done (.cons rfl (.cons rfl .nil)) ?_
      refine Wp.seq ?_
      obtain ⟨x4, hx4, h⟩ := bind_some h
      refine Wp.text [1, 2] rfl rfl ?_ -- region 7
      refine TextR.fieldAddr fo24_1 rfl rfl rfl ?_
      refine TextR.load1 tk22 rfl rfl ?_
      refine TextR.indexOA se22 rfl rfl rfl hx4 ?_
      refine TextR.fieldAddr fo41_2 rfl rfl rfl ?_
      refine TextR.storeO { x4 with State := 1 } tk36 rfl rfl rfl rfl rfl (at_get hx4) rfl rfl (.succ (.succ .zero)) ?_
      refine TextR.done (.cons rfl (.cons rfl .nil)) ?_
      refine Wp.weak (eqW (S' := ⟨[(1, .c (.ptr 0 0 0 0)), (2, .c (.ptr 1 0 0 0))], [.live 0 2 [[I y3.Last, .sl 2 0 0 (y3.Sess.set (Int.toNat 0) { x4 with State := 1 }).length]], .live 0 2 [[I 0, nilS]], .live 0 4 ((y3.Sess.set (Int.toNat 0) { x4 with State := 1 }).map eSess)]⟩) (by first | rfl | (simp only [List.length_set]; done) | (simp only [List.length_set]; rfl))) ?_
      refine Wp.seq ?_
      obtain ⟨x5, hx5, h⟩ := bind_some h
      refine Wp.go true (some ⟨[1], []⟩) [] [false, true, true, true, true, true, false, false, false] [2, 3, 4] mixed rfl rfl (by kernel_rfl) ?_ -- region 8
      refine RunR.loadN (cs := [I y3.Last, .sl 2 0 0 (y3.Sess.set (Int.toNat 0) { x4 with State := 1 }).length]) tk24 rfl rfl rfl rfl ?_
      refine RunR.fieldAddr fo24_1 rfl rfl rfl rfl rfl ?_
      refine RunR.load1 tk22 rfl rfl rfl rfl ?_
      refine RunR.indexOA se22 rfl rfl rfl rfl rfl hx5 ?_
      refine RunR.fieldAddr fo41_0 rfl rfl rfl rfl rfl ?_
      refine RunR.load1O tk3 rfl rfl rfl rfl (at_get hx5) rfl ?_
      refine RunR.store1 tk24 rfl rfl rfl rfl rfl rfl rfl rfl (.succ .zero) ?_
      refine RunR.assign rfl rfl rfl ?_
      refine RunR.assign rfl rfl rfl ?_
      refine RunR.doneQ (.cons rfl (.cons rfl (.cons rfl .nil))) ?_
      refine Wp.weak (keepW (live := [2, 3, 4] ) (.cons rfl (.cons rfl (.cons rfl .nil)))) ?_
      refine Wp.weak (freezeW (h := 2) (ver := 0) (rows := (y3.Sess.set (Int.toNat 0) { x4 with State := 1 }).map eSess) (e' := [(2, .c (.ptr 1 0 0 0)), (3, .c (I x5.ID)), (4, .c (I 0))]) (H' := [.live 0 2 [[I y3.Last, .slv ((y3.Sess.set (Int.toNat 0) { x4 with State := 1 }).map eSess)]], .live 0 2 [[I y3.Last, .slv ((y3.Sess.set (Int.toNat 0) { x4 with State := 1 }).map eSess)]], .dead]) rfl (by first | rfl | simp [-List.map_set]) (by first | rfl | simp [-List.map_set])) ?_
      refine Wp.ret ?_
      obtain rfl := Option.some.inj h
      exact Ret.three rfl (resV_cellN tk24 rfl rfl) (resV_tmp rfl) (resV_tmp rfl) rfl
theorem c_sess_Grant (N : Nat) (a0 : TBook) (r : TBook × Int × Int) (h : sess_Grant N a0 = some r) (H : List Ob) : DCall Try.prog 23 [.agg (eBook a0)] H (.tup [.agg (eBook r.1), .c (I r.2.1), .c (I r.2.2)]) := DCall.lift (by first | rfl | simp [-List.map_set]) (by first | rfl | simp [-List.map_set]) (fun _ => by simp [-List.map_set]) (w_sess_Grant N a0 r h) H
-- narthex/sess.find$1
theorem w_sess_find_1 (N : Nat) (a0 : TSess) (c0_0 : Int) (c0_1 : List TSess) (c1_0 : Int) (r : Bool) (h : sess_find_1 N a0 c0_0 c0_1 c1_0 = some r) : Nx.Call Try.prog 52 [.agg (eSess a0), .c (.ptr 1 0 0 0)] [.live 0 2 [[I c0_0, .slv (c0_1.map eSess)]], .live 0 1 [[I c1_0]]] fun r' H' => r' = .c (B r) ∧ ∃ junk, H' = [.live 0 2 [[I c0_0, .slv (c0_1.map eSess)]], .live 0 1 [[I c1_0]]] ++ junk := by
  refine Nx.Call.of_body Try.func52 rfl en52 Try.ntmps52 rfl (fun Γ hok => ?_)
  unfold sess_find_1 at h
  refine Wp.seq ?_
  refine Wp.text [1, 2] rfl rfl ?_ -- region 0
  refine TextR.box (cs := [I a0.ID, .slv (a0.Need.map eI), I a0.State, I a0.Age]) 2 rfl rfl rfl rfl (.cons (.cons .nil)) ?_
  refine TextR.assign rfl ?_
  refine TextR.done (.cons rfl (.cons rfl .nil)) ?_
  refine Wp.seq ?_
  refine Wp.text [3] rfl rfl ?_ -- region 1
  refine TextR.fieldAddr fo41_0 rfl rfl rfl ?_
  refine TextR.load1 tk3 rfl rfl ?_
  refine TextR.load1 tk3 rfl rfl ?_
  refine TextR.int rfl rfl rfl ?_
  refine TextR.assign rfl ?_
  refine TextR.done (.cons rfl .nil) ?_
  refine Wp.ret ?_
  obtain rfl := Option.some.inj h
  exact Ret.one rfl (resV_tmp rfl) ⟨rfl, _, rfl⟩
theorem c_sess_find_1 (N : Nat) (a0 : TSess) (c0_0 : Int) (c0_1 : List TSess) (c1_0 : Int) (r : Bool) (h : sess_find_1 N a0 c0_0 c0_1 c1_0 = some r) : DCall Try.prog 52 [.agg (eSess a0), .c (.ptr 1 0 0 0)] [.live 0 2 [[I c0_0, .slv (c0_1.map eSess)]], .live 0 1 [[I c1_0]]] (.c (B r)) := Call.trim (by simp) (by first | rfl | simp [-List.map_set]) (by first | rfl | simp [-List.map_set]) (w_sess_find_1 N a0 c0_0 c0_1 c1_0 r h)
-- slices.IndexFunc[[]narthex/api.Sess,narthex/api.Sess]
theorem w_slices_IndexFunc_Sess (N : Nat) (a0 : List TSess) (c0_0 : Int) (c0_1 : List TSess) (c1_0 : Int) (r : Int) (h : slices_IndexFunc_Sess N a0 c0_0 c0_1 c1_0 = some r) : Nx.Call Try.prog 51 [.c (.slv (a0.map eSess)), .c (.clo 52 [.ptr 1 0 0 0])] [.live 0 2 [[I c0_0, .slv (c0_1.map eSess)]], .live 0 1 [[I c1_0]]] fun r' H' => r' = .c (I r) ∧ ∃ junk, H' = [.live 0 2 [[I c0_0, .slv (c0_1.map eSess)]], .live 0 1 [[I c1_0]]] ++ junk := by
  refine Nx.Call.of_body Try.func51 rfl en51 Try.ntmps51 rfl (fun Γ hok => ?_)
  unfold slices_IndexFunc_Sess at h
  refine Wp.seq ?_
  refine Wp.text [0, 1] rfl rfl ?_ -- region 0
  refine TextR.assign rfl ?_
  refine TextR.done (.cons rfl (.cons rfl .nil)) ?_
  refine Wp.seq ?_
  refine Wp.seq ?_
  refine Wp.text [0, 1, 7, 8] rfl rfl ?_ -- region 1
  refine TextR.move rfl ?_
  refine TextR.lenM us22 rfl rfl ?_
  refine TextR.move rfl ?_
  refine TextR.done (.cons rfl (.cons rfl (.cons rfl (.cons rfl .nil)))) ?_
  obtain ⟨z1, hz1, h⟩ := bind_some h
  refine Wp.fragR (fun S => ∃ z3, z1 = .inr z3 ∧ ∃ S', St.Weak ⟨Try.prog, 19, Γ⟩ S S' ∧ S' = ⟨[], [.live 0 2 [[I c0_0, .slv (c0_1.map eSess)]], .live 0 1 [[I c1_0]]]⟩) (fun S => ∃ v, z1 = .inl v ∧ Ret Try.prog Try.f51 (fun r' H' => r' = .c (I v) ∧ ∃ junk, H' = [.live 0 2 [[I c0_0, .slv (c0_1.map eSess)]], .live 0 1 [[I c1_0]]] ++ junk) .ret S) ?_ ?_ ?_
  · replace h := hz1
    refine Wp.block ?_
    refine Wp.weak (keepW (live := [0, 1, 7, 8]) (.cons rfl (.cons rfl (.cons rfl (.cons rfl .nil))))) ?_
    refine Wp.loop (fun m S => ∃ s8_1, slices_IndexFunc_Sess_L1 N a0 c0_0 c0_1 c1_0 m s8_1 = some z1 ∧ S = ⟨[(0, .c (.slv (a0.map eSess))), (1, .c (.clo 52 [.ptr 1 0 0 0])), (7, .c (I (a0.length : Int))), (8, .c (I s8_1))], [.live 0 2 [[I c0_0, .slv (c0_1.map eSess)]], .live 0 1 [[I c1_0]]]⟩) N ⟨_, h, rfl⟩ ?_
    rintro m1 _ ⟨s8_1, h, rfl⟩
    cases m1 with
    | zero => rw [slices_IndexFunc_Sess_L1.eq_1] at h; cases h
    | succ m1 =>
    rw [slices_IndexFunc_Sess_L1.eq_2] at h
    refine Wp.seq ?_
    refine Wp.text [0, 1, 7, 8, 9] rfl rfl ?_ -- region 2
    refine TextR.int rfl rfl rfl ?_
    refine TextR.done (.cons rfl (.cons rfl (.cons rfl (.cons rfl (.cons rfl .nil))))) ?_
    refine Wp.seq ?_
    refine Wp.condM h rfl (fun hc2 h => ?_) (fun hc2 h => ?_)
    · refine Wp.skip ?_
      refine Wp.seq ?_
      refine Wp.block ?_
      refine Wp.seq ?_
      refine Wp.text [0, 1, 5, 7, 8] rfl rfl ?_ -- region 3
      refine TextR.move rfl ?_
      refine TextR.assign rfl ?_
      refine TextR.done (.cons rfl (.cons rfl (.cons rfl (.cons rfl (.cons rfl .nil))))) ?_
      refine Wp.seq ?_
      obtain ⟨x4, hx4, h⟩ := bind_some h
      obtain ⟨y5, hy5, h⟩ := bind_some h
      refine Wp.text [0, 1, 5, 7, 8, 16] rfl rfl ?_ -- region 4
      refine TextR.move rfl ?_
      refine TextR.move rfl ?_
      refine TextR.move rfl ?_
      refine TextR.indexA se22 rfl rfl rfl hx4 rfl ?_
      refine TextR.loadNM tk41 rfl (at_get hx4) rfl ?_
      refine TextR.dcall rfl rfl (c_sess_find_1 N x4 c0_0 c0_1 c1_0 y5 hy5) ?_
      refine TextR.done (.cons rfl (.cons rfl (.cons rfl (.cons rfl (.cons rfl (.cons rfl .nil)))))) ?_
      refine Wp.condM h rfl (fun hc3 h => ?_) (fun hc3 h => ?_)
      · refine Wp.seq ?_
        refine Wp.text [4] rfl rfl ?_ -- region 5
        refine TextR.move rfl ?_
        refine TextR.assign rfl ?_
        refine TextR.done (.cons rfl .nil) ?_
        refine Wp.ret ?_
        exact ⟨_, (Option.some.inj h).symm, Ret.one rfl (resV_tmp rfl) ⟨rfl, _, rfl⟩⟩
      · refine Wp.skip ?_
        refine Wp.text [0, 1, 7, 8] rfl rfl ?_ -- region 6
        refine TextR.int rfl rfl rfl ?_
        refine TextR.move rfl ?_
        refine TextR.done (.cons rfl (.cons rfl (.cons rfl (.cons rfl .nil)))) ?_
        exact ⟨m1, Nat.lt_succ_self _, _, (keepW (live := [0, 1, 7, 8]) (.cons rfl (.cons rfl (.cons rfl (.cons rfl .nil))))), _, h, rfl⟩
    · refine Wp.exit ?_
      exact ⟨_, (Option.some.inj h).symm, _, (keepW (live := []) .nil), rfl⟩
  · rintro _ ⟨z3, rfl, _, hw, rfl⟩
    dsimp only at h
    clear hz1
    refine Wp.weak hw ?_
    refine Wp.seq ?_
    refine Wp.text [4] rfl rfl ?_ -- region 7
    refine TextR.assign rfl ?_
    refine TextR.done (.cons rfl .nil) ?_
    refine Wp.ret ?_
    obtain rfl := Option.some.inj h
    exact Ret.one rfl (resV_tmp rfl) ⟨rfl, _, rfl⟩
  · rintro S' ⟨r2, rfl, hR⟩
    dsimp only at h
    obtain rfl := Option.some.inj h
    exact hR
theorem c_slices_IndexFunc_Sess (N : Nat) (a0 : List TSess) (c0_0 : Int) (c0_1 : List TSess) (c1_0 : Int) (r : Int) (h : slices_IndexFunc_Sess N a0 c0_0 c0_1 c1_0 = some r) : DCall Try.prog 51 [.c (.slv (a0.map eSess)), .c (.clo 52 [.ptr 1 0 0 0])] [.live 0 2 [[I c0_0, .slv (c0_1.map eSess)]], .live 0 1 [[I c1_0]]] (.c (I r)) := Call.trim (by simp) (by first | rfl | simp [-List.map_set]) (by first | rfl | simp [-List.map_set]) (w_slices_IndexFunc_Sess N a0 c0_0 c0_1 c1_0 r h)
-- narthex/sess.find
theorem w_sess_find (N : Nat) (a0 : TBook) (a1 : Int) (r : Int) (h : sess_find N a0 a1 = some r) : Nx.Call Try.prog 34 [.agg (eBook a0), .c (I a1)] [] fun r' _ => r' = .c (I r) := by
  refine Nx.Call.of_body Try.func34 rfl en34 Try.ntmps34 rfl (fun Γ hok => ?_)
  unfold sess_find at h
  refine Wp.seq ?_
  refine Wp.text [2, 3] rfl rfl ?_ -- region 0
  refine TextR.box (cs := [I a0.Last, .slv (a0.Sess.map eSess)]) 0 rfl rfl rfl rfl .nil ?_
  refine TextR.box (cs := [I a1]) 1 rfl rfl rfl rfl (.cons .nil) ?_
  refine TextR.assign rfl ?_
  refine TextR.done (.cons rfl (.cons rfl .nil)) ?_
  refine Wp.seq ?_
  obtain ⟨y1, hy1, h⟩ := bind_some h
  refine Wp.text [4] rfl rfl ?_ -- region 1
  refine TextR.fieldAddr fo24_1 rfl rfl rfl ?_
  refine TextR.load1 tk22 rfl rfl ?_
  refine TextR.makeFunc rfl ?_
  refine TextR.dcall rfl rfl (c_slices_IndexFunc_Sess N a0.Sess a0.Last a0.Sess a1 y1 hy1) ?_
  refine TextR.assign rfl ?_
  refine TextR.done (.cons rfl .nil) ?_
  refine Wp.ret ?_
  obtain rfl := Option.some.inj h
  exact Ret.one rfl (resV_tmp rfl) rfl
theorem c_sess_find (N : Nat) (a0 : TBook) (a1 : Int) (r : Int) (h : sess_find N a0 a1 = some r) (H : List Ob) : DCall Try.prog 34 [.agg (eBook a0), .c (I a1)] H (.c (I r)) := DCall.lift (by first | rfl | simp [-List.map_set]) (by first | rfl | simp [-List.map_set]) (fun _ => by simp [-List.map_set]) (w_sess_find N a0 a1 r h) H
-- narthex/sess.Poll
theorem w_sess_Poll (N : Nat) (a0 : TBook) (a1 : Int) (r : Int × Int) (h : sess_Poll N a0 a1 = some r) : Nx.Call Try.prog 15 [.agg (eBook a0), .c (I a1)] [] fun r' _ => r' = .tup [.c (I r.1), .c (I r.2)] := by
  refine Nx.Call.of_body Try.func15 rfl en15 Try.ntmps15 rfl (fun Γ hok => ?_)
  unfold sess_Poll at h
  refine Wp.seq ?_
  refine Wp.text [1, 2] rfl rfl ?_ -- region 0
  refine TextR.box (cs := [I a0.Last, .slv (a0.Sess.map eSess)]) 0 rfl rfl rfl rfl .nil ?_
  refine TextR.assign rfl ?_
  refine TextR.assign rfl ?_
  refine TextR.done (.cons rfl (.cons rfl .nil)) ?_
  refine Wp.seq ?_
  refine Wp.seq ?_
  obtain ⟨y1, hy1, h⟩ := bind_some h
  refine Wp.text [1, 2, 6] rfl rfl ?_ -- region 1
  refine TextR.loadN (cs := [I a0.Last, .slv (a0.Sess.map eSess)]) tk24 rfl rfl ?_
  refine TextR.dcall rfl rfl (c_sess_Check N a0 y1 hy1 _) ?_
  refine TextR.assign rfl ?_
  refine TextR.done (.cons rfl (.cons rfl (.cons rfl .nil))) ?_
  refine Wp.seq ?_
  refine Wp.text [1, 2, 6, 11] rfl rfl ?_ -- region 2
  refine TextR.move rfl ?_
  refine TextR.int rfl rfl rfl ?_
  refine TextR.done (.cons rfl (.cons rfl (.cons rfl (.cons rfl .nil)))) ?_
  refine Wp.condM h rfl (fun hc1 h => ?_) (fun hc1 h => ?_)
  · refine Wp.seq ?_
    refine Wp.text [4, 5] rfl rfl ?_ -- region 3
    refine TextR.move rfl ?_
    refine TextR.assign rfl ?_
    refine TextR.assign rfl ?_
    refine TextR.done (.cons rfl (.cons rfl .nil)) ?_
    refine Wp.ret ?_
    obtain rfl := Option.some.inj h
    exact Ret.two rfl (resV_tmp rfl) (resV_tmp rfl) rfl
  · refine Wp.skip ?_
    refine Wp.seq ?_
    obtain ⟨y2, hy2, h⟩ := bind_some h
    refine Wp.text [2, 7] rfl rfl ?_ -- region 4
    refine TextR.loadN (cs := [I a0.Last, .slv (a0.Sess.map eSess)]) tk24 rfl rfl ?_
    refine TextR.move rfl ?_
    refine TextR.dcall rfl rfl (c_sess_find N a0 a1 y2 hy2 _) ?_
    refine TextR.assign rfl ?_
    refine TextR.done (.cons rfl (.cons rfl .nil)) ?_
    refine Wp.seq ?_
    refine Wp.seq ?_
    refine Wp.text [2, 7, 17] rfl rfl ?_ -- region 5
    refine TextR.move rfl ?_
    refine TextR.int rfl rfl rfl ?_
    refine TextR.done (.cons rfl (.cons rfl (.cons rfl .nil))) ?_
    refine Wp.condM h rfl (fun hc2 h => ?_) (fun hc2 h => ?_)
    · refine Wp.seq ?_
      refine Wp.text [4, 5] rfl rfl ?_ -- region 6
      refine TextR.assign rfl ?_
      refine TextR.assign rfl ?_
      refine TextR.done (.cons rfl (.cons rfl .nil)) ?_
      refine Wp.ret ?_
      obtain rfl := Option.some.inj h
      exact Ret.two rfl (resV_tmp rfl) (resV_tmp rfl) rfl
    · refine Wp.skip ?_
      refine Wp.seq ?_
      obtain ⟨x3, hx3, h⟩ := bind_some h
      refine Wp.text [4, 5] rfl rfl ?_ -- region 7
      refine TextR.fieldAddr fo24_1 rfl rfl rfl ?_
      refine TextR.load1 tk22 rfl rfl ?_
      refine TextR.move rfl ?_
      refine TextR.indexA se22 rfl rfl rfl hx3 rfl ?_
      refine TextR.fieldAddr fo41_2 rfl rfl rfl ?_
      refine TextR.load1M tk36 rfl (at_get hx3) rfl ?_
      refine TextR.assign rfl ?_
      refine TextR.assign rfl ?_
      refine TextR.done (.cons rfl (.cons rfl .nil)) ?_
      refine Wp.ret ?_
      obtain rfl := Option.some.inj h
      exact Ret.two rfl (resV_tmp rfl) (resV_tmp rfl) rfl
theorem c_sess_Poll (N : Nat) (a0 : TBook) (a1 : Int) (r : Int × Int) (h : sess_Poll N a0 a1 = some r) (H : List Ob) : DCall Try.prog 15 [.agg (eBook a0), .c (I a1)] H (.tup [.c (I r.1), .c (I r.2)]) := DCall.lift (by first | rfl | simp [-List.map_set]) (by first | rfl | simp [-List.map_set]) (fun _ => by simp [-List.map_set]) (w_sess_Poll N a0 a1 r h) H
-- slices.Delete[[]narthex/api.Sess,narthex/api.Sess]
theorem w_slices_Delete_Sess (N : Nat) (a1 : Int) (a2 : Int) (c0_0 : Int) (c1_0 : Int) (l2 : List TSess) {w2 : Nat} (r : (List TSess)) (h : slices_Delete_Sess N a1 a2 c0_0 c1_0 l2 = some r) : Nx.Call Try.prog 42 [.c (.sl 2 w2 0 l2.length), .c (I a1), .c (I a2)] [.live 0 2 [[I c0_0, .sl 2 w2 0 l2.length]], .live 0 2 [[I c1_0, nilS]], .live w2 4 (l2.map eSess)] fun r' H' => r' = .c (.sl 2 (w2 + 1) 0 r.length) ∧ ∃ junk, H' = [.live 0 2 [[I c0_0, .sl 2 w2 0 l2.length]], .live 0 2 [[I c1_0, nilS]], .live (w2 + 1) 4 (r.map eSess)] ++ junk := by
  refine Nx.Call.of_body Try.func42 rfl en42 Try.ntmps42 rfl (fun Γ hok => ?_)
  unfold slices_Delete_Sess at h
  refine Wp.seq ?_
  refine Wp.text [0, 1, 2] rfl rfl ?_ -- region 0
  refine TextR.assign rfl ?_
  refine TextR.done (.cons rfl (.cons rfl (.cons rfl .nil))) ?_
  refine Wp.seq ?_
  obtain ⟨x1, hx1, h⟩ := bind_some h
  refine Wp.text [0, 1, 2] rfl rfl ?_ -- region 1
  refine TextR.move rfl ?_
  refine TextR.move rfl ?_
  refine TextR.move rfl ?_
  refine TextR.move rfl ?_
  refine TextR.len us22 rfl rfl ?_
  refine TextR.slice3 (f := eSess) (xs := l2) rfl se22 rfl (obj_of rfl) rfl rfl rfl (sub3_ok hx1) ?_
  refine TextR.done (.cons rfl (.cons rfl (.cons rfl .nil))) ?_
  refine Wp.seq ?_
  refine Wp.seq ?_
  refine Wp.text [0, 1, 2, 16] rfl rfl ?_ -- region 2
  refine TextR.move rfl ?_
  refine TextR.move rfl ?_
  refine TextR.int rfl rfl rfl ?_
  refine TextR.done (.cons rfl (.cons rfl (.cons rfl (.cons rfl .nil)))) ?_
  refine Wp.condM h rfl (fun hc1 h => ?_) (fun hc1 h => ?_)
  · refine Wp.seq ?_
    refine Wp.text [6] rfl rfl ?_ -- region 3
    refine TextR.move rfl ?_
    refine TextR.assign rfl ?_
    refine TextR.done (.cons rfl .nil) ?_
    refine Wp.weak (keepW (live := [6] ) (.cons rfl .nil)) ?_
    refine Wp.weak (narrowE (t := 6) (rows' := l2.map eSess) rfl (obj_of rfl) (by simp) (by simp [List.take_of_length_le]) (.succ (.succ .zero))) ?_
    refine Wp.weak (keepW (live := [6]) (.cons rfl .nil)) ?_
    refine Wp.ret ?_
    obtain rfl := Option.some.inj h
    exact Ret.one rfl (resV_tmp rfl) ⟨rfl, _, rfl⟩
  · refine Wp.skip ?_
    refine Wp.seq ?_
    refine Wp.text [0, 1, 2, 7] rfl rfl ?_ -- region 4
    refine TextR.move rfl ?_
    refine TextR.len us22 rfl rfl ?_
    refine TextR.assign rfl ?_
    refine TextR.done (.cons rfl (.cons rfl (.cons rfl (.cons rfl .nil)))) ?_
    refine Wp.seq ?_
    obtain ⟨x2, hx2, h⟩ := bind_some h
    obtain ⟨x3, hx3, h⟩ := bind_some h
    refine Wp.go true (some ⟨[2], []⟩) [] [] [0, 7] mixed rfl rfl (by kernel_rfl) ?_ -- region 5
    refine RunR.move rfl rfl rfl ?_
    refine RunR.move rfl rfl rfl ?_
    refine RunR.sliceOM se22 rfl rfl rfl rfl rfl (obj_of rfl) rfl rfl hx2 ?_
    refine RunR.move rfl rfl rfl ?_
    refine RunR.move rfl rfl rfl ?_
    refine RunR.sliceOM se22 rfl rfl rfl rfl rfl (obj_of rfl) rfl rfl hx3 ?_
    refine RunR.sem rfl rfl rfl rfl (.same (.same (.turn rfl .nil))) (SemO.appendIn eSess l2 ((l2.drop (Int.toNat a2)).take x3.length) se22 rfl (obj_of rfl) rfl (view_piece (f := eSess) (xs := l2) (obj_of rfl) (by have q0 := sub_le hx3; first | exact q0 | (simp only [List.length_set, List.length_take, List.length_drop, length_cpy, length_clr] at *; omega))) (fun _ => rfl) (del_room2 hx1 hx2 hx3) (.succ (.succ .zero))) ?_
    refine RunR.assign rfl rfl rfl ?_
    refine RunR.doneQ (.cons rfl (.cons rfl .nil)) ?_
    refine Wp.weak (eqW (S' := ⟨[(0, .c (.sl 2 w2 0 (x2.length + ((l2.drop (Int.toNat a2)).take x3.length).length))), (7, .c (I (l2.length : Int)))], [.live 0 2 [[I c0_0, .sl 2 w2 0 (cpy l2 (0 + x2.length) ((l2.drop (Int.toNat a2)).take x3.length).length ((l2.drop (Int.toNat a2)).take x3.length)).length]], .live 0 2 [[I c1_0, nilS]], .live w2 4 ((cpy l2 (0 + x2.length) ((l2.drop (Int.toNat a2)).take x3.length).length ((l2.drop (Int.toNat a2)).take x3.length)).map eSess)]⟩) (by have e0 := length_cpy l2 (0 + x2.length) ((l2.drop (Int.toNat a2)).take x3.length).length ((l2.drop (Int.toNat a2)).take x3.length) (del_room2 hx1 hx2 hx3); first | rfl | (simp only [List.length_set]; done) | (simp only [List.length_set]; rfl) | (simp only [List.length_set, e0]; done) | (simp only [List.length_set, e0]; rfl))) ?_
    refine Wp.seq ?_
    obtain ⟨x4, hx4, h⟩ := bind_some h
    refine Wp.text [0] rfl rfl ?_ -- region 6
    refine TextR.move rfl ?_
    refine TextR.move rfl ?_
    refine TextR.len us22 rfl rfl ?_
    refine TextR.move rfl ?_
    refine TextR.sem (SemO.sliceB (f := eSess) (xs := (cpy l2 (0 + x2.length) ((l2.drop (Int.toNat a2)).take x3.length).length ((l2.drop (Int.toNat a2)).take x3.length))) se22 rfl (obj_of rfl) rfl rfl (subB_ok hx4)) ?_
    refine TextR.clearZ eSess (cpy l2 (0 + x2.length) ((l2.drop (Int.toNat a2)).take x3.length).length ((l2.drop (Int.toNat a2)).take x3.length)) (⟨0, [], 0, 0⟩ : TSess) se22 rfl (obj_of rfl) (by have q0 := subB_le hx4; first | exact q0 | (simp only [List.length_set, List.length_take, List.length_drop, length_cpy, length_clr] at *; omega)) rfl (fun _ => rfl) (fun _ => rfl) (.succ (.succ .zero)) ?_
    refine TextR.done (.cons rfl .nil) ?_
    refine Wp.weak (eqW (S' := ⟨[(0, .c (.sl 2 w2 0 (x2.length + ((l2.drop (Int.toNat a2)).take x3.length).length)))], [.live 0 2 [[I c0_0, .sl 2 w2 0 (clr (cpy l2 (0 + x2.length) ((l2.drop (Int.toNat a2)).take x3.length).length ((l2.drop (Int.toNat a2)).take x3.length)) (0 + Int.toNat ((x2.length + ((l2.drop (Int.toNat a2)).take x3.length).length) : Int)) (Int.toNat (l2.length : Int) - Int.toNat ((x2.length + ((l2.drop (Int.toNat a2)).take x3.length).length) : Int)) (⟨0, [], 0, 0⟩ : TSess)).length]], .live 0 2 [[I c1_0, nilS]], .live w2 4 ((clr (cpy l2 (0 + x2.length) ((l2.drop (Int.toNat a2)).take x3.length).length ((l2.drop (Int.toNat a2)).take x3.length)) (0 + Int.toNat ((x2.length + ((l2.drop (Int.toNat a2)).take x3.length).length) : Int)) (Int.toNat (l2.length : Int) - Int.toNat ((x2.length + ((l2.drop (Int.toNat a2)).take x3.length).length) : Int)) (⟨0, [], 0, 0⟩ : TSess)).map eSess)]⟩) (by have e0 := length_clr (cpy l2 (0 + x2.length) ((l2.drop (Int.toNat a2)).take x3.length).length ((l2.drop (Int.toNat a2)).take x3.length)) (0 + Int.toNat ((x2.length + ((l2.drop (Int.toNat a2)).take x3.length).length) : Int)) (Int.toNat (l2.length : Int) - Int.toNat ((x2.length + ((l2.drop (Int.toNat a2)).take x3.length).length) : Int)) (⟨0, [], 0, 0⟩ : TSess) (by have q0 := subB_le hx4; first | exact q0 | (simp only [List.length_set, List.length_take, List.length_drop, length_cpy, length_clr] at *; omega)); first | rfl | (simp only [List.length_set]; done) | (simp only [List.length_set]; rfl) | (simp only [List.length_set, e0]; done) | (simp only [List.length_set, e0]; rfl))) ?_
    refine Wp.seq ?_
    refine Wp.text [6] rfl rfl ?_ -- region 7
    refine TextR.move rfl ?_
    refine TextR.assign rfl ?_
    refine TextR.done (.cons rfl .nil) ?_
    refine Wp.weak (keepW (live := [6] ) (.cons rfl .nil)) ?_
    refine Wp.weak (narrowE (t := 6) (rows' := (((clr (cpy l2 (0 + x2.length) ((l2.drop (Int.toNat a2)).take x3.length).length ((l2.drop (Int.toNat a2)).take x3.length)) (0 + Int.toNat ((x2.length + ((l2.drop (Int.toNat a2)).take x3.length).length) : Int)) (Int.toNat (l2.length : Int) - Int.toNat ((x2.length + ((l2.drop (Int.toNat a2)).take x3.length).length) : Int)) (⟨0, [], 0, 0⟩ : TSess)).drop 0).take (x2.length + ((l2.drop (Int.toNat a2)).take x3.length).length)).map eSess) rfl (obj_of rfl) (by have q := (by have q0 := (del_room2 hx1 hx2 hx3); first | exact q0 | (simp only [List.length_set, List.length_take, List.length_drop, length_cpy, length_clr] at *; omega)); have c0 := le_cpy l2 (0 + x2.length) ((l2.drop (Int.toNat a2)).take x3.length).length ((l2.drop (Int.toNat a2)).take x3.length); have c1 := le_clr (cpy l2 (0 + x2.length) ((l2.drop (Int.toNat a2)).take x3.length).length ((l2.drop (Int.toNat a2)).take x3.length)) (0 + Int.toNat ((x2.length + ((l2.drop (Int.toNat a2)).take x3.length).length) : Int)) (Int.toNat (l2.length : Int) - Int.toNat ((x2.length + ((l2.drop (Int.toNat a2)).take x3.length).length) : Int)) (⟨0, [], 0, 0⟩ : TSess); simp at q c0 c1 ⊢; omega) (by simp [List.map_take, List.map_drop]) (.succ (.succ .zero))) ?_
    refine Wp.weak (keepW (live := [6]) (.cons rfl .nil)) ?_
    refine Wp.weak (eqW (S' := ⟨[(6, .c (.sl 2 (w2 + 1) 0 (((clr (cpy l2 (0 + x2.length) ((l2.drop (Int.toNat a2)).take x3.length).length ((l2.drop (Int.toNat a2)).take x3.length)) (0 + Int.toNat ((x2.length + ((l2.drop (Int.toNat a2)).take x3.length).length) : Int)) (Int.toNat (l2.length : Int) - Int.toNat ((x2.length + ((l2.drop (Int.toNat a2)).take x3.length).length) : Int)) (⟨0, [], 0, 0⟩ : TSess)).drop 0).take (x2.length + ((l2.drop (Int.toNat a2)).take x3.length).length)).length))], [.live 0 2 [[I c0_0, .sl 2 w2 0 l2.length]], .live 0 2 [[I c1_0, nilS]], .live (w2 + 1) 4 ((((clr (cpy l2 (0 + x2.length) ((l2.drop (Int.toNat a2)).take x3.length).length ((l2.drop (Int.toNat a2)).take x3.length)) (0 + Int.toNat ((x2.length + ((l2.drop (Int.toNat a2)).take x3.length).length) : Int)) (Int.toNat (l2.length : Int) - Int.toNat ((x2.length + ((l2.drop (Int.toNat a2)).take x3.length).length) : Int)) (⟨0, [], 0, 0⟩ : TSess)).drop 0).take (x2.length + ((l2.drop (Int.toNat a2)).take x3.length).length)).map eSess)]⟩) (by have q := (by have q0 := (del_room2 hx1 hx2 hx3); first | exact q0 | (simp only [List.length_set, List.length_take, List.length_drop, length_cpy, length_clr] at *; omega)); have c0 := le_cpy l2 (0 + x2.length) ((l2.drop (Int.toNat a2)).take x3.length).length ((l2.drop (Int.toNat a2)).take x3.length); have c1 := le_clr (cpy l2 (0 + x2.length) ((l2.drop (Int.toNat a2)).take x3.length).length ((l2.drop (Int.toNat a2)).take x3.length)) (0 + Int.toNat ((x2.length + ((l2.drop (Int.toNat a2)).take x3.length).length) : Int)) (Int.toNat (l2.length : Int) - Int.toNat ((x2.length + ((l2.drop (Int.toNat a2)).take x3.length).length) : Int)) (⟨0, [], 0, 0⟩ : TSess); have e : (((clr (cpy l2 (0 + x2.length) ((l2.drop (Int.toNat a2)).take x3.length).length ((l2.drop (Int.toNat a2)).take x3.length)) (0 + Int.toNat ((x2.length + ((l2.drop (Int.toNat a2)).take x3.length).length) : Int)) (Int.toNat (l2.length : Int) - Int.toNat ((x2.length + ((l2.drop (Int.toNat a2)).take x3.length).length) : Int)) (⟨0, [], 0, 0⟩ : TSess)).drop 0).take (x2.length + ((l2.drop (Int.toNat a2)).take x3.length).length)).length = (x2.length + ((l2.drop (Int.toNat a2)).take x3.length).length) := (by simp at q c0 c1 ⊢; omega); have f0 := length_cpy l2 (0 + x2.length) ((l2.drop (Int.toNat a2)).take x3.length).length ((l2.drop (Int.toNat a2)).take x3.length) (del_room2 hx1 hx2 hx3); have f1 := length_clr (cpy l2 (0 + x2.length) ((l2.drop (Int.toNat a2)).take x3.length).length ((l2.drop (Int.toNat a2)).take x3.length)) (0 + Int.toNat ((x2.length + ((l2.drop (Int.toNat a2)).take x3.length).length) : Int)) (Int.toNat (l2.length : Int) - Int.toNat ((x2.length + ((l2.drop (Int.toNat a2)).take x3.length).length) : Int)) (⟨0, [], 0, 0⟩ : TSess) (by have q0 := subB_le hx4; first | exact q0 | (simp only [List.length_set, List.length_take, List.length_drop, length_cpy, length_clr] at *; omega)); simp only [e, f1, f0])) ?_
    refine Wp.weak (keepW (live := [6]) (.cons rfl .nil)) ?_
    refine Wp.ret ?_
    obtain rfl := Option.some.inj h
    exact Ret.one rfl (resV_tmp rfl) ⟨rfl, _, rfl⟩
theorem c_slices_Delete_Sess (N : Nat) (a1 : Int) (a2 : Int) (c0_0 : Int) (c1_0 : Int) (l2 : List TSess) {w2 : Nat} (r : (List TSess)) (h : slices_Delete_Sess N a1 a2 c0_0 c1_0 l2 = some r) : Nx.Call Try.prog 42 [.c (.sl 2 w2 0 l2.length), .c (I a1), .c (I a2)] [.live 0 2 [[I c0_0, .sl 2 w2 0 l2.length]], .live 0 2 [[I c1_0, nilS]], .live w2 4 (l2.map eSess)] fun r' H' => r' = .c (.sl 2 (w2 + 1) 0 r.length) ∧ H' = [.live 0 2 [[I c0_0, .sl 2 w2 0 l2.length]], .live 0 2 [[I c1_0, nilS]], .live (w2 + 1) 4 (r.map eSess)] := Call.trim (by simp) (by first | rfl | simp [-List.map_set]) (by first | rfl | simp [-List.map_set]) (w_slices_Delete_Sess N a1 a2 c0_0 c1_0 l2 r h)
-- narthex/sess.end
theorem w_sess_end (N : Nat) (a0 : TBook) (a1 : Int) (a2 : Int) (r : TBook × Int) (h : sess_end N a0 a1 a2 = some r) : Nx.Call Try.prog 47 [.agg (eBook a0), .c (I a1), .c (I a2)] [] fun r' _ => r' = .tup [.agg (eBook r.1), .c (I r.2)] := by
  refine Nx.Call.of_body Try.func47 rfl en47 Try.ntmps47 rfl (fun Γ hok => ?_)
  unfold sess_end at h
  refine Wp.seq ?_
  refine Wp.text [1, 2, 3, 6] rfl rfl ?_ -- region 0
  refine TextR.box (cs := [I a0.Last, .slv (a0.Sess.map eSess)]) 0 rfl rfl rfl rfl .nil ?_
  refine TextR.alloc 1 zc24 rfl rfl (.cons .nil) ?_
  refine TextR.assign rfl ?_
  refine TextR.done (.cons rfl (.cons rfl (.cons rfl (.cons rfl .nil)))) ?_
  refine Wp.seq ?_
  obtain ⟨y1, hy1, h⟩ := bind_some h
  refine Wp.text [1, 2, 3, 6, 8, 9] rfl rfl ?_ -- region 1
  refine TextR.loadN (cs := [I a0.Last, .slv (a0.Sess.map eSess)]) tk24 rfl rfl ?_
  refine TextR.move rfl ?_
  refine TextR.dcall rfl rfl (c_sess_Poll N a0 a1 y1 hy1 _) ?_
  refine TextR.move rfl ?_
  refine TextR.extract rfl rfl ?_
  refine TextR.extract rfl rfl ?_
  refine TextR.assign rfl ?_
  refine TextR.assign rfl ?_
  refine TextR.done (.cons rfl (.cons rfl (.cons rfl (.cons rfl (.cons rfl (.cons rfl .nil)))))) ?_
  refine Wp.seq ?_
  refine Wp.seq ?_
  refine Wp.go false none [[], [], [], [(18, true)], [(18, true)], [(18, true)], []] [] [1, 3, 6, 9, 22] mixed rfl rfl (by kernel_rfl) ?_ -- region 2
  refine RunR.move rfl rfl rfl ?_
  refine RunR.int rfl rfl rfl rfl rfl ?_
  refine RunR.move rfl rfl rfl ?_
  refine RunR.move rfl rfl rfl ?_
  refine RunR.move rfl rfl rfl ?_
  refine RunR.int rfl rfl rfl rfl rfl ?_
  refine RunR.pickAnd rfl rfl rfl rfl ?_
  refine RunR.doneQ (.cons rfl (.cons rfl (.cons rfl (.cons rfl (.cons rfl .nil))))) ?_
  obtain ⟨z2, hz2, h⟩ := bind_some h
  refine Wp.fragN (fun S => ∃ S', St.Weak ⟨Try.prog, 41, Γ⟩ S S' ∧ S' = ⟨[(1, .c (I a1)), (3, .c (.ptr 0 0 0 0)), (6, .c (.ptr 1 0 0 0)), (9, .c (I z2))], [.live 0 2 [[I a0.Last, .slv (a0.Sess.map eSess)]], .live 0 2 [[I 0, nilS]]]⟩) ?_ ?_
  · replace h := hz2
    refine Wp.condM h rfl (fun hc2 h => ?_) (fun hc2 h => ?_)
    · refine Wp.text [1, 3, 6, 9] rfl rfl ?_ -- region 3
      refine TextR.assign rfl ?_
      refine TextR.done (.cons rfl (.cons rfl (.cons rfl (.cons rfl .nil)))) ?_
      obtain rfl := Option.some.inj h
      exact ⟨_, (keepW (live := [1, 3, 6, 9]) (.cons rfl (.cons rfl (.cons rfl (.cons rfl .nil))))), rfl⟩
    · refine Wp.skip ?_
      obtain rfl := Option.some.inj h
      exact ⟨_, (keepW (live := [1, 3, 6, 9]) (.cons rfl (.cons rfl (.cons rfl (.cons rfl .nil))))), rfl⟩
  rintro _ ⟨S', hw, rfl⟩
  clear hz2
  refine Wp.weak hw ?_
  refine Wp.seq ?_
  refine Wp.seq ?_
  refine Wp.text [1, 3, 6, 9, 24] rfl rfl ?_ -- region 4
  refine TextR.move rfl ?_
  refine TextR.int rfl rfl rfl ?_
  refine TextR.done (.cons rfl (.cons rfl (.cons rfl (.cons rfl (.cons rfl .nil))))) ?_
  refine Wp.condM h rfl (fun hc1 h => ?_) (fun hc1 h => ?_)
  · refine Wp.seq ?_
    refine Wp.text [6, 7] rfl rfl ?_ -- region 5
    refine TextR.build cm24 rfl ?_
    refine TextR.move rfl ?_
    refine TextR.store1 tk24 rfl rfl rfl rfl rfl rfl (.succ .zero) ?_
    refine TextR.assign rfl ?_
    refine TextR.done (.cons rfl (.cons rfl .nil)) ?_
    refine Wp.weak (keepW (live := [6, 7] ) (.cons rfl (.cons rfl .nil))) ?_
    refine Wp.weak (nzT (e' := [(6, .c (.ptr 1 0 0 0)), (7, .c (I z2))]) (H' := [.live 0 2 [[I a0.Last, .slv (a0.Sess.map eSess)]], .live 0 2 [[I 0, .slv ([].map eSess)]]]) (by first | rfl | simp [-List.map_set]) (by first | rfl | simp [-List.map_set])) ?_
    refine Wp.ret ?_
    obtain rfl := Option.some.inj h
    exact Ret.two rfl (resV_cellN tk24 rfl rfl) (resV_tmp rfl) rfl
  · refine Wp.skip ?_
    refine Wp.seq ?_
    obtain ⟨y3, hy3, h⟩ := bind_some h
    refine Wp.text [1, 3, 6] rfl rfl ?_ -- region 6
    refine TextR.loadN (cs := [I a0.Last, .slv (a0.Sess.map eSess)]) tk24 rfl rfl ?_
    refine TextR.call rfl rfl (by exact o_sess_own N a0 y3 hy3 (H1 := [.live 0 2 [[I a0.Last, .slv (a0.Sess.map eSess)]], .live 0 2 [[I 0, nilS]], .live 0 4 (y3.Sess.map eSess)]) 2 rfl rfl) (fun x H' hk => ?_)
    obtain ⟨rfl, rfl⟩ := hk
    refine TextR.store1 tk24 rfl rfl rfl rfl rfl rfl .zero ?_
    refine TextR.done (.cons rfl (.cons rfl (.cons rfl .nil))) ?_
    refine Wp.seq ?_
    obtain ⟨y4, hy4, h⟩ := bind_some h
    obtain ⟨y5, hy5, h⟩ := bind_some h
    obtain ⟨y6, hy6, h⟩ := bind_some h
    refine Wp.go true (some ⟨[0, 2], [42]⟩) [] [] [3, 6] mixed rfl rfl (by kernel_rfl) ?_ -- region 7
    refine RunR.fieldAddr fo24_1 rfl rfl rfl rfl rfl ?_
    refine RunR.load1 tk22 rfl rfl rfl rfl ?_
    refine RunR.loadN (cs := [I y3.Last, .sl 2 0 0 y3.Sess.length]) tk24 rfl rfl rfl rfl ?_
    refine RunR.move rfl rfl rfl ?_
    refine RunR.callH rfl rfl rfl rfl (fun hb => (DCall.borrow (fs := [.agg [I y3.Last, .slv (y3.Sess.map eSess)], .c (I a1)]) (by simp [-List.map_set, obj, List.take_of_length_le]) (by first | rfl | simp [-List.map_set]) rfl (w_sess_find N y3 a1 y4 hy4))) ?_
    refine RunR.loadN (cs := [I y3.Last, .sl 2 0 0 y3.Sess.length]) tk24 rfl rfl rfl rfl ?_
    refine RunR.move rfl rfl rfl ?_
    refine RunR.callH rfl rfl rfl rfl (fun hb => (DCall.borrow (fs := [.agg [I y3.Last, .slv (y3.Sess.map eSess)], .c (I a1)]) (by simp [-List.map_set, obj, List.take_of_length_le]) (by first | rfl | simp [-List.map_set]) rfl (w_sess_find N y3 a1 y5 hy5))) ?_
    refine RunR.int rfl rfl rfl rfl rfl ?_
    refine RunR.turn rfl rfl rfl rfl (.same (.same (.turn rfl .nil))) (by exact c_slices_Delete_Sess N y4 (w64 (y5 + 1)) y3.Last 0 y3.Sess y6 hy6) ?_
    refine RunR.fieldAddr fo24_1 rfl rfl rfl rfl rfl ?_
    refine RunR.storeF (r' := [I y3.Last, .sl 2 1 0 y6.length]) tk22 rfl rfl rfl rfl rfl rfl rfl rfl rfl .zero ?_
    refine RunR.doneQ (.cons rfl (.cons rfl .nil)) ?_
    refine Wp.seq ?_
    refine Wp.text [6, 7] rfl rfl ?_ -- region 8
    refine TextR.loadN (cs := [I y3.Last, .sl 2 1 0 y6.length]) tk24 rfl rfl ?_
    refine TextR.store1 tk24 rfl rfl rfl rfl rfl rfl (.succ .zero) ?_
    refine TextR.assign rfl ?_
    refine TextR.done (.cons rfl (.cons rfl .nil)) ?_
    refine Wp.weak (keepW (live := [6, 7] ) (.cons rfl (.cons rfl .nil))) ?_
    refine Wp.weak (freezeW (h := 2) (ver := 1) (rows := y6.map eSess) (e' := [(6, .c (.ptr 1 0 0 0)), (7, .c (I 0))]) (H' := [.live 0 2 [[I y3.Last, .slv (y6.map eSess)]], .live 0 2 [[I y3.Last, .slv (y6.map eSess)]], .dead]) rfl (by first | rfl | simp [-List.map_set]) (by first | rfl | simp [-List.map_set])) ?_
    refine Wp.ret ?_
    obtain rfl := Option.some.inj h
    exact Ret.two rfl (resV_cellN tk24 rfl rfl) (resV_tmp rfl) rfl
theorem c_sess_end (N : Nat) (a0 : TBook) (a1 : Int) (a2 : Int) (r : TBook × Int) (h : sess_end N a0 a1 a2 = some r) (H : List Ob) : DCall Try.prog 47 [.agg (eBook a0), .c (I a1), .c (I a2)] H (.tup [.agg (eBook r.1), .c (I r.2)]) := DCall.lift (by first | rfl | simp [-List.map_set]) (by first | rfl | simp [-List.map_set]) (fun _ => by simp [-List.map_set]) (w_sess_end N a0 a1 a2 r h) H
-- narthex/sess.Release
theorem w_sess_Release (N : Nat) (a0 : TBook) (a1 : Int) (r : TBook × Int) (h : sess_Release N a0 a1 = some r) : Nx.Call Try.prog 27 [.agg (eBook a0), .c (I a1)] [] fun r' _ => r' = .tup [.agg (eBook r.1), .c (I r.2)] := by
  refine Nx.Call.of_body Try.func27 rfl en27 Try.ntmps27 rfl (fun Γ hok => ?_)
  unfold sess_Release at h
  refine Wp.seq ?_
  refine Wp.text [1, 2, 4] rfl rfl ?_ -- region 0
  refine TextR.box (cs := [I a0.Last, .slv (a0.Sess.map eSess)]) 0 rfl rfl rfl rfl .nil ?_
  refine TextR.alloc 1 zc24 rfl rfl (.cons .nil) ?_
  refine TextR.assign rfl ?_
  refine TextR.done (.cons rfl (.cons rfl (.cons rfl .nil))) ?_
  refine Wp.seq ?_
  obtain ⟨y1, hy1, h⟩ := bind_some h
  refine Wp.text [4, 5] rfl rfl ?_ -- region 1
  refine TextR.loadN (cs := [I a0.Last, .slv (a0.Sess.map eSess)]) tk24 rfl rfl ?_
  refine TextR.move rfl ?_
  refine TextR.dcall rfl rfl (c_sess_end N a0 a1 1 y1 hy1 _) ?_
  refine TextR.extract rfl rfl ?_
  refine TextR.extract rfl rfl ?_
  refine TextR.store1 tk24 rfl rfl rfl rfl rfl rfl (.succ .zero) ?_
  refine TextR.assign rfl ?_
  refine TextR.done (.cons rfl (.cons rfl .nil)) ?_
  refine Wp.ret ?_
  obtain rfl := Option.some.inj h
  exact Ret.two rfl (resV_cellN tk24 rfl rfl) (resV_tmp rfl) rfl
theorem c_sess_Release (N : Nat) (a0 : TBook) (a1 : Int) (r : TBook × Int) (h : sess_Release N a0 a1 = some r) (H : List Ob) : DCall Try.prog 27 [.agg (eBook a0), .c (I a1)] H (.tup [.agg (eBook r.1), .c (I r.2)]) := DCall.lift (by first | rfl | simp [-List.map_set]) (by first | rfl | simp [-List.map_set]) (fun _ => by simp [-List.map_set]) (w_sess_Release N a0 a1 r h) H
-- narthex/sess.Tick
theorem w_sess_Tick (N : Nat) (a0 : TBook) (a1 : Int) (r : TBook × Int × Int) (h : sess_Tick N a0 a1 = some r) : Nx.Call Try.prog 24 [.agg (eBook a0), .c (I a1)] [] fun r' _ => r' = .tup [.agg (eBook r.1), .c (I r.2.1), .c (I r.2.2)] := by
  refine Nx.Call.of_body Try.func24 rfl en24 Try.ntmps24 rfl (fun Γ hok => ?_)
  unfold sess_Tick at h
  refine Wp.seq ?_
  refine Wp.text [1, 2, 4] rfl rfl ?_ -- region 0
  refine TextR.box (cs := [I a0.Last, .slv (a0.Sess.map eSess)]) 0 rfl rfl rfl rfl .nil ?_
  refine TextR.alloc 1 zc24 rfl rfl (.cons .nil) ?_
  refine TextR.assign rfl ?_
  refine TextR.assign rfl ?_
  refine TextR.done (.cons rfl (.cons rfl (.cons rfl .nil))) ?_
  refine Wp.seq ?_
  refine Wp.seq ?_
  obtain ⟨y1, hy1, h⟩ := bind_some h
  refine Wp.text [1, 2, 4, 7] rfl rfl ?_ -- region 1
  refine TextR.loadN (cs := [I a0.Last, .slv (a0.Sess.map eSess)]) tk24 rfl rfl ?_
  refine TextR.dcall rfl rfl (c_sess_Check N a0 y1 hy1 _) ?_
  refine TextR.assign rfl ?_
  refine TextR.done (.cons rfl (.cons rfl (.cons rfl (.cons rfl .nil)))) ?_
  refine Wp.seq ?_
  refine Wp.text [1, 2, 4, 7, 13] rfl rfl ?_ -- region 2
  refine TextR.move rfl ?_
  refine TextR.int rfl rfl rfl ?_
  refine TextR.done (.cons rfl (.cons rfl (.cons rfl (.cons rfl (.cons rfl .nil))))) ?_
  refine Wp.condM h rfl (fun hc1 h => ?_) (fun hc1 h => ?_)
  · refine Wp.seq ?_
    refine Wp.text [4, 5, 6] rfl rfl ?_ -- region 3
    refine TextR.build cm24 rfl ?_
    refine TextR.move rfl ?_
    refine TextR.store1 tk24 rfl rfl rfl rfl rfl rfl (.succ .zero) ?_
    refine TextR.assign rfl ?_
    refine TextR.assign rfl ?_
    refine TextR.done (.cons rfl (.cons rfl (.cons rfl .nil))) ?_
    refine Wp.weak (keepW (live := [4, 5, 6] ) (.cons rfl (.cons rfl (.cons rfl .nil)))) ?_
    refine Wp.weak (nzT (e' := [(4, .c (.ptr 1 0 0 0)), (5, .c (I 0)), (6, .c (I y1))]) (H' := [.live 0 2 [[I a0.Last, .slv (a0.Sess.map eSess)]], .live 0 2 [[I 0, .slv ([].map eSess)]]]) (by first | rfl | simp [-List.map_set]) (by first | rfl | simp [-List.map_set])) ?_
    refine Wp.ret ?_
    obtain rfl := Option.some.inj h
    exact Ret.three rfl (resV_cellN tk24 rfl rfl) (resV_tmp rfl) (resV_tmp rfl) rfl
  · refine Wp.skip ?_
    refine Wp.seq ?_
    obtain ⟨y2, hy2, h⟩ := bind_some h
    refine Wp.text [1, 2, 4] rfl rfl ?_ -- region 4
    refine TextR.loadN (cs := [I a0.Last, .slv (a0.Sess.map eSess)]) tk24 rfl rfl ?_
    refine TextR.call rfl rfl (by exact o_sess_own N a0 y2 hy2 (H1 := [.live 0 2 [[I a0.Last, .slv (a0.Sess.map eSess)]], .live 0 2 [[I 0, nilS]], .live 0 4 (y2.Sess.map eSess)]) 2 rfl rfl) (fun x H' hk => ?_)
    obtain ⟨rfl, rfl⟩ := hk
    refine TextR.store1 tk24 rfl rfl rfl rfl rfl rfl .zero ?_
    refine TextR.done (.cons rfl (.cons rfl (.cons rfl .nil))) ?_
    refine Wp.seq ?_
    refine Wp.seq ?_
    obtain ⟨x3, hx3, h⟩ := bind_some h
    refine Wp.go false none [[], [], [], [], [], [(22, false)], [(22, false)], [(22, false)], [(22, false)], [(22, false)], [(22, false)], []] [] [1, 2, 4, 29] mixed rfl rfl (by kernel_rfl) ?_ -- region 5
    refine RunR.fieldAddr fo24_1 rfl rfl rfl rfl rfl ?_
    refine RunR.load1 tk22 rfl rfl rfl rfl ?_
    refine RunR.len us22 rfl rfl rfl rfl ?_
    refine RunR.int rfl rfl rfl rfl rfl ?_
    refine RunR.move rfl rfl rfl ?_
    refine RunR.fieldAddr fo24_1 rfl rfl rfl rfl rfl ?_
    refine RunR.load1 tk22 rfl rfl rfl rfl ?_
    refine RunR.indexOAG se22 rfl rfl rfl rfl rfl (ifPos hx3 gF) (ifAt hx3 gF) ?_
    refine RunR.fieldAddr fo41_2 rfl rfl rfl rfl rfl ?_
    refine RunR.load1OG tk36 rfl rfl rfl rfl (ifAt hx3 gF) rfl ?_
    refine RunR.int rfl rfl rfl rfl rfl ?_
    refine RunR.pickOr rfl rfl rfl rfl ?_
    refine RunR.doneQ (.cons rfl (.cons rfl (.cons rfl (.cons rfl .nil)))) ?_
    refine Wp.condM h rfl (fun hc2 h => ?_) (fun hc2 h => ?_)
    · refine Wp.seq ?_
      refine Wp.text [4, 5, 6] rfl rfl ?_ -- region 6
      refine TextR.loadN (cs := [I y2.Last, .sl 2 0 0 y2.Sess.length]) tk24 rfl rfl ?_
      refine TextR.store1 tk24 rfl rfl rfl rfl rfl rfl (.succ .zero) ?_
      refine TextR.assign rfl ?_
      refine TextR.assign rfl ?_
      refine TextR.done (.cons rfl (.cons rfl (.cons rfl .nil))) ?_
      refine Wp.weak (keepW (live := [4, 5, 6] ) (.cons rfl (.cons rfl (.cons rfl .nil)))) ?_
      refine Wp.weak (freezeW (h := 2) (ver := 0) (rows := y2.Sess.map eSess) (e' := [(4, .c (.ptr 1 0 0 0)), (5, .c (I 0)), (6, .c (I 0))]) (H' := [.live 0 2 [[I y2.Last, .slv (y2.Sess.map eSess)]], .live 0 2 [[I y2.Last, .slv (y2.Sess.map eSess)]], .dead]) rfl (by first | rfl | simp [-List.map_set]) (by first | rfl | simp [-List.map_set])) ?_
      refine Wp.ret ?_
      obtain rfl := Option.some.inj h
      exact Ret.three rfl (resV_cellN tk24 rfl rfl) (resV_tmp rfl) (resV_tmp rfl) rfl
    · refine Wp.skip ?_
      refine Wp.seq ?_
      obtain ⟨x4, hx4, h⟩ := bind_some h
      refine Wp.text [1, 2, 4, 8] rfl rfl ?_ -- region 7
      refine TextR.fieldAddr fo24_1 rfl rfl rfl ?_
      refine TextR.load1 tk22 rfl rfl ?_
      refine TextR.indexOA se22 rfl rfl rfl hx4 ?_
      refine TextR.assign rfl ?_
      refine TextR.done (.cons rfl (.cons rfl (.cons rfl (.cons rfl .nil)))) ?_
      refine Wp.seq ?_
      refine Wp.go true (some ⟨[2], []⟩) [] [] [1, 2, 4, 8] mixed rfl rfl (by kernel_rfl) ?_ -- region 8
      refine RunR.move rfl rfl rfl ?_
      refine RunR.move rfl rfl rfl ?_
      refine RunR.nilCheck rfl rfl rfl rfl ?_
      refine RunR.fieldAddr fo41_3 rfl rfl rfl rfl rfl ?_
      refine RunR.load1O tk3 rfl rfl rfl rfl (at_get hx4) rfl ?_
      refine RunR.move rfl rfl rfl ?_
      refine RunR.nilCheck rfl rfl rfl rfl ?_
      refine RunR.fieldAddr fo41_3 rfl rfl rfl rfl rfl ?_
      refine RunR.load1O tk3 rfl rfl rfl rfl (at_get hx4) rfl ?_
      refine RunR.minmax (.inl rfl) rfl rfl rfl ?_
      refine RunR.int rfl rfl rfl rfl rfl ?_
      refine RunR.minmax (.inr rfl) rfl rfl rfl ?_
      refine RunR.nilCheck rfl rfl rfl rfl ?_
      refine RunR.fieldAddr fo41_3 rfl rfl rfl rfl rfl ?_
      refine RunR.storeO { x4 with Age := max x4.Age (w64 ((min x4.Age 4611686018427387903) + 1)) } tk3 rfl rfl rfl rfl rfl rfl rfl (at_get hx4) rfl rfl (.succ (.succ .zero)) ?_
      refine RunR.doneQ (.cons rfl (.cons rfl (.cons rfl (.cons rfl .nil)))) ?_
      refine Wp.weak (eqW (S' := ⟨[(1, .c (I a1)), (2, .c (.ptr 0 0 0 0)), (4, .c (.ptr 1 0 0 0)), (8, .c (.ptr 2 0 (Int.toNat 0) 0))], [.live 0 2 [[I y2.Last, .sl 2 0 0 (y2.Sess.set (Int.toNat 0) { x4 with Age := max x4.Age (w64 ((min x4.Age 4611686018427387903) + 1)) }).length]], .live 0 2 [[I 0, nilS]], .live 0 4 ((y2.Sess.set (Int.toNat 0) { x4 with Age := max x4.Age (w64 ((min x4.Age 4611686018427387903) + 1)) }).map eSess)]⟩) (by first | rfl | (simp only [List.length_set]; done) | (simp only [List.length_set]; rfl))) ?_
      refine Wp.seq ?_
      refine Wp.seq ?_
      refine Wp.text [2, 4, 8, 53] rfl rfl ?_ -- region 9
      refine TextR.move rfl ?_
      refine TextR.nilCheck rfl rfl ?_
      refine TextR.fieldAddr fo41_3 rfl rfl rfl ?_
      refine TextR.load1O tk3 rfl rfl (at_set (at_get hx4)) rfl ?_
      refine TextR.move rfl ?_
      refine TextR.int rfl rfl rfl ?_
      refine TextR.done (.cons rfl (.cons rfl (.cons rfl (.cons rfl .nil)))) ?_
      refine Wp.condM h rfl (fun hc3 h => ?_) (fun hc3 h => ?_)
      · refine Wp.seq ?_
        refine Wp.text [4, 5, 6] rfl rfl ?_ -- region 10
        refine TextR.loadN (cs := [I y2.Last, .sl 2 0 0 (y2.Sess.set (Int.toNat 0) { x4 with Age := max x4.Age (w64 ((min x4.Age 4611686018427387903) + 1)) }).length]) tk24 rfl rfl ?_
        refine TextR.store1 tk24 rfl rfl rfl rfl rfl rfl (.succ .zero) ?_
        refine TextR.assign rfl ?_
        refine TextR.assign rfl ?_
        refine TextR.done (.cons rfl (.cons rfl (.cons rfl .nil))) ?_
        refine Wp.weak (keepW (live := [4, 5, 6] ) (.cons rfl (.cons rfl (.cons rfl .nil)))) ?_
        refine Wp.weak (freezeW (h := 2) (ver := 0) (rows := (y2.Sess.set (Int.toNat 0) { x4 with Age := max x4.Age (w64 ((min x4.Age 4611686018427387903) + 1)) }).map eSess) (e' := [(4, .c (.ptr 1 0 0 0)), (5, .c (I 0)), (6, .c (I 0))]) (H' := [.live 0 2 [[I y2.Last, .slv ((y2.Sess.set (Int.toNat 0) { x4 with Age := max x4.Age (w64 ((min x4.Age 4611686018427387903) + 1)) }).map eSess)]], .live 0 2 [[I y2.Last, .slv ((y2.Sess.set (Int.toNat 0) { x4 with Age := max x4.Age (w64 ((min x4.Age 4611686018427387903) + 1)) }).map eSess)]], .dead]) rfl (by first | rfl | simp [-List.map_set]) (by first | rfl | simp [-List.map_set])) ?_
        refine Wp.ret ?_
        obtain rfl := Option.some.inj h
        exact Ret.three rfl (resV_cellN tk24 rfl rfl) (resV_tmp rfl) (resV_tmp rfl) rfl
      · refine Wp.skip ?_
        refine Wp.seq ?_
        refine Wp.text [2, 4, 9] rfl rfl ?_ -- region 11
        refine TextR.move rfl ?_
        refine TextR.nilCheck rfl rfl ?_
        refine TextR.fieldAddr fo41_0 rfl rfl rfl ?_
        refine TextR.load1O tk3 rfl rfl (at_set (at_get hx4)) rfl ?_
        refine TextR.assign rfl ?_
        refine TextR.done (.cons rfl (.cons rfl (.cons rfl .nil))) ?_
        refine Wp.seq ?_
        obtain ⟨y5, hy5, h⟩ := bind_some h
        refine Wp.text [2, 4, 9] rfl rfl ?_ -- region 12
        refine TextR.fieldAddr fo24_1 rfl rfl rfl ?_
        refine TextR.load1 tk22 rfl rfl ?_
        refine TextR.call rfl rfl (by exact c_slices_Delete_Sess N 0 1 y2.Last 0 (y2.Sess.set (Int.toNat 0) { x4 with Age := max x4.Age (w64 ((min x4.Age 4611686018427387903) + 1)) }) y5 hy5) (fun x H' hk => ?_)
        obtain ⟨rfl, rfl⟩ := hk
        refine TextR.fieldAddr fo24_1 rfl rfl rfl ?_
        refine TextR.storeF (r' := [I y2.Last, .sl 2 1 0 y5.length]) tk22 rfl rfl rfl rfl rfl rfl rfl .zero ?_
        refine TextR.done (.cons rfl (.cons rfl (.cons rfl .nil))) ?_
        refine Wp.seq ?_
        refine Wp.text [4, 5, 6] rfl rfl ?_ -- region 13
        refine TextR.loadN (cs := [I y2.Last, .sl 2 1 0 y5.length]) tk24 rfl rfl ?_
        refine TextR.move rfl ?_
        refine TextR.store1 tk24 rfl rfl rfl rfl rfl rfl (.succ .zero) ?_
        refine TextR.assign rfl ?_
        refine TextR.assign rfl ?_
        refine TextR.done (.cons rfl (.cons rfl (.cons rfl .nil))) ?_
        refine Wp.weak (keepW (live := [4, 5, 6] ) (.cons rfl (.cons rfl (.cons rfl .nil)))) ?_
        refine Wp.weak (freezeW (h := 2) (ver := 1) (rows := y5.map eSess) (e' := [(4, .c (.ptr 1 0 0 0)), (5, .c (I x4.ID)), (6, .c (I 0))]) (H' := [.live 0 2 [[I y2.Last, .slv (y5.map eSess)]], .live 0 2 [[I y2.Last, .slv (y5.map eSess)]], .dead]) rfl (by first | rfl | simp [-List.map_set]) (by first | rfl | simp [-List.map_set])) ?_
        refine Wp.ret ?_
        obtain rfl := Option.some.inj h
        exact Ret.three rfl (resV_cellN tk24 rfl rfl) (resV_tmp rfl) (resV_tmp rfl) rfl
theorem c_sess_Tick (N : Nat) (a0 : TBook) (a1 : Int) (r : TBook × Int × Int) (h : sess_Tick N a0 a1 = some r) (H : List Ob) : DCall Try.prog 24 [.agg (eBook a0), .c (I a1)] H (.tup [.agg (eBook r.1), .c (I r.2.1), .c (I r.2.2)]) := DCall.lift (by first | rfl | simp [-List.map_set]) (by first | rfl | simp [-List.map_set]) (fun _ => by simp [-List.map_set]) (w_sess_Tick N a0 a1 r h) H
-- slices.Index[[]int,int]
theorem w_slices_Index_int (N : Nat) (a0 : List Int) (a1 : Int) (r : Int) (h : slices_Index_int N a0 a1 = some r) : Nx.Call Try.prog 62 [.c (.slv (a0.map eI)), .c (I a1)] [] fun r' _ => r' = .c (I r) := by
  refine Nx.Call.of_body Try.func62 rfl en62 Try.ntmps62 rfl (fun Γ hok => ?_)
  unfold slices_Index_int at h
  refine Wp.seq ?_
  refine Wp.text [0, 1] rfl rfl ?_ -- region 0
  refine TextR.assign rfl ?_
  refine TextR.done (.cons rfl (.cons rfl .nil)) ?_
  refine Wp.seq ?_
  refine Wp.seq ?_
  refine Wp.text [0, 1, 7, 8] rfl rfl ?_ -- region 1
  refine TextR.move rfl ?_
  refine TextR.lenM us25 rfl rfl ?_
  refine TextR.move rfl ?_
  refine TextR.done (.cons rfl (.cons rfl (.cons rfl (.cons rfl .nil)))) ?_
  obtain ⟨z1, hz1, h⟩ := bind_some h
  refine Wp.fragR (fun S => ∃ z3, z1 = .inr z3 ∧ ∃ S', St.Weak ⟨Try.prog, 19, Γ⟩ S S' ∧ S' = ⟨[], []⟩) (fun S => ∃ v, z1 = .inl v ∧ Ret Try.prog Try.f62 (fun r' _ => r' = .c (I v)) .ret S) ?_ ?_ ?_
  · replace h := hz1
    refine Wp.block ?_
    refine Wp.weak (keepW (live := [0, 1, 7, 8]) (.cons rfl (.cons rfl (.cons rfl (.cons rfl .nil))))) ?_
    refine Wp.loop (fun m S => ∃ s8_1, slices_Index_int_L1 N a0 a1 m s8_1 = some z1 ∧ S = ⟨[(0, .c (.slv (a0.map eI))), (1, .c (I a1)), (7, .c (I (a0.length : Int))), (8, .c (I s8_1))], []⟩) N ⟨_, h, rfl⟩ ?_
    rintro m1 _ ⟨s8_1, h, rfl⟩
    cases m1 with
    | zero => rw [slices_Index_int_L1.eq_1] at h; cases h
    | succ m1 =>
    rw [slices_Index_int_L1.eq_2] at h
    refine Wp.seq ?_
    refine Wp.text [0, 1, 7, 8, 9] rfl rfl ?_ -- region 2
    refine TextR.int rfl rfl rfl ?_
    refine TextR.done (.cons rfl (.cons rfl (.cons rfl (.cons rfl (.cons rfl .nil))))) ?_
    refine Wp.seq ?_
    refine Wp.condM h rfl (fun hc2 h => ?_) (fun hc2 h => ?_)
    · refine Wp.skip ?_
      refine Wp.seq ?_
      refine Wp.block ?_
      refine Wp.seq ?_
      refine Wp.text [0, 1, 5, 7, 8] rfl rfl ?_ -- region 3
      refine TextR.move rfl ?_
      refine TextR.assign rfl ?_
      refine TextR.done (.cons rfl (.cons rfl (.cons rfl (.cons rfl (.cons rfl .nil))))) ?_
      refine Wp.seq ?_
      obtain ⟨x4, hx4, h⟩ := bind_some h
      refine Wp.text [0, 1, 5, 7, 8, 16] rfl rfl ?_ -- region 4
      refine TextR.move rfl ?_
      refine TextR.move rfl ?_
      refine TextR.move rfl ?_
      refine TextR.indexA se25 rfl rfl rfl hx4 rfl ?_
      refine TextR.load1M tk3 rfl (at_get hx4) rfl ?_
      refine TextR.int rfl rfl rfl ?_
      refine TextR.done (.cons rfl (.cons rfl (.cons rfl (.cons rfl (.cons rfl (.cons rfl .nil)))))) ?_
      refine Wp.condM h rfl (fun hc3 h => ?_) (fun hc3 h => ?_)
      · refine Wp.seq ?_
        refine Wp.text [4] rfl rfl ?_ -- region 5
        refine TextR.move rfl ?_
        refine TextR.assign rfl ?_
        refine TextR.done (.cons rfl .nil) ?_
        refine Wp.ret ?_
        exact ⟨_, (Option.some.inj h).symm, Ret.one rfl (resV_tmp rfl) rfl⟩
      · refine Wp.skip ?_
        refine Wp.text [0, 1, 7, 8] rfl rfl ?_ -- region 6
        refine TextR.int rfl rfl rfl ?_
        refine TextR.move rfl ?_
        refine TextR.done (.cons rfl (.cons rfl (.cons rfl (.cons rfl .nil)))) ?_
        exact ⟨m1, Nat.lt_succ_self _, _, (keepW (live := [0, 1, 7, 8]) (.cons rfl (.cons rfl (.cons rfl (.cons rfl .nil))))), _, h, rfl⟩
    · refine Wp.exit ?_
      exact ⟨_, (Option.some.inj h).symm, _, (keepW (live := []) .nil), rfl⟩
  · rintro _ ⟨z3, rfl, _, hw, rfl⟩
    dsimp only at h
    clear hz1
    refine Wp.weak hw ?_
    refine Wp.seq ?_
    refine Wp.text [4] rfl rfl ?_ -- region 7
    refine TextR.assign rfl ?_
    refine TextR.done (.cons rfl .nil) ?_
    refine Wp.ret ?_
    obtain rfl := Option.some.inj h
    exact Ret.one rfl (resV_tmp rfl) rfl
  · rintro S' ⟨r2, rfl, hR⟩
    dsimp only at h
    obtain rfl := Option.some.inj h
    exact hR
theorem c_slices_Index_int (N : Nat) (a0 : List Int) (a1 : Int) (r : Int) (h : slices_Index_int N a0 a1 = some r) (H : List Ob) : DCall Try.prog 62 [.c (.slv (a0.map eI)), .c (I a1)] H (.c (I r)) := DCall.lift (by first | rfl | simp [-List.map_set]) (by first | rfl | simp [-List.map_set]) (fun _ => by simp [-List.map_set]) (w_slices_Index_int N a0 a1 r h) H
-- slices.Contains[[]int,int]
theorem w_slices_Contains_int (N : Nat) (a0 : List Int) (a1 : Int) (r : Bool) (h : slices_Contains_int N a0 a1 = some r) : Nx.Call Try.prog 57 [.c (.slv (a0.map eI)), .c (I a1)] [] fun r' _ => r' = .c (B r) := by
  refine Nx.Call.of_body Try.func57 rfl en57 Try.ntmps57 rfl (fun Γ hok => ?_)
  unfold slices_Contains_int at h
  refine Wp.seq ?_
  refine Wp.text [0, 1] rfl rfl ?_ -- region 0
  refine TextR.assign rfl ?_
  refine TextR.done (.cons rfl (.cons rfl .nil)) ?_
  refine Wp.seq ?_
  obtain ⟨y1, hy1, h⟩ := bind_some h
  refine Wp.text [4] rfl rfl ?_ -- region 1
  refine TextR.move rfl ?_
  refine TextR.move rfl ?_
  refine TextR.dcall rfl rfl (c_slices_Index_int N a0 a1 y1 hy1 _) ?_
  refine TextR.int rfl rfl rfl ?_
  refine TextR.assign rfl ?_
  refine TextR.done (.cons rfl .nil) ?_
  refine Wp.ret ?_
  obtain rfl := Option.some.inj h
  exact Ret.one rfl (resV_tmp rfl) rfl
theorem c_slices_Contains_int (N : Nat) (a0 : List Int) (a1 : Int) (r : Bool) (h : slices_Contains_int N a0 a1 = some r) (H : List Ob) : DCall Try.prog 57 [.c (.slv (a0.map eI)), .c (I a1)] H (.c (B r)) := DCall.lift (by first | rfl | simp [-List.map_set]) (by first | rfl | simp [-List.map_set]) (fun _ => by simp [-List.map_set]) (w_slices_Contains_int N a0 a1 r h) H
-- narthex/set.Has
theorem w_set_Has (N : Nat) (a0 : List Int) (a1 : Int) (r : Bool) (h : set_Has N a0 a1 = some r) : Nx.Call Try.prog 45 [.c (.slv (a0.map eI)), .c (I a1)] [] fun r' _ => r' = .c (B r) := by
  refine Nx.Call.of_body Try.func45 rfl en45 Try.ntmps45 rfl (fun Γ hok => ?_)
  unfold set_Has at h
  refine Wp.seq ?_
  refine Wp.text [0, 1] rfl rfl ?_ -- region 0
  refine TextR.assign rfl ?_
  refine TextR.done (.cons rfl (.cons rfl .nil)) ?_
  refine Wp.seq ?_
  obtain ⟨y1, hy1, h⟩ := bind_some h
  refine Wp.text [4] rfl rfl ?_ -- region 1
  refine TextR.move rfl ?_
  refine TextR.move rfl ?_
  refine TextR.dcall rfl rfl (c_slices_Contains_int N a0 a1 y1 hy1 _) ?_
  refine TextR.assign rfl ?_
  refine TextR.done (.cons rfl .nil) ?_
  refine Wp.ret ?_
  obtain rfl := Option.some.inj h
  exact Ret.one rfl (resV_tmp rfl) rfl
theorem c_set_Has (N : Nat) (a0 : List Int) (a1 : Int) (r : Bool) (h : set_Has N a0 a1 = some r) (H : List Ob) : DCall Try.prog 45 [.c (.slv (a0.map eI)), .c (I a1)] H (.c (B r)) := DCall.lift (by first | rfl | simp [-List.map_set]) (by first | rfl | simp [-List.map_set]) (fun _ => by simp [-List.map_set]) (w_set_Has N a0 a1 r h) H
-- narthex/sess.Gone$1
theorem w_sess_Gone_1 (N : Nat) (a0 : TSess) (c0_0 : Int) (c1_0 : Int) (c2_0 : Int) (l4 : List TSess) (l5 : List Int) {w4 : Nat} {w5 : Nat} (r : Bool × (List Int)) (h : sess_Gone_1 N a0 c0_0 c1_0 c2_0 l4 l5 = some r) : Nx.Call Try.prog 44 [.agg (eSess a0), .c (.ptr 1 0 0 0), .c (.ptr 3 0 0 0)] [.live 0 2 [[I c0_0, .sl 4 w4 0 l4.length]], .live 0 1 [[I c1_0]], .live 0 2 [[I c2_0, nilS]], .live 0 1 [[.sl 5 w5 0 l5.length]], .live w4 4 (l4.map eSess), .live w5 1 (l5.map eI)] fun r' H' => ∃ u : Nat, r' = .c (B r.1) ∧ ∃ junk, H' = [.live 0 2 [[I c0_0, .sl 4 w4 0 l4.length]], .live 0 1 [[I c1_0]], .live 0 2 [[I c2_0, nilS]], .live 0 1 [[.sl 5 u 0 r.2.length]], .live w4 4 (l4.map eSess), .live u 1 (r.2.map eI)] ++ junk := by
  refine Nx.Call.of_body Try.func44 rfl en44 Try.ntmps44 rfl (fun Γ hok => ?_)
  unfold sess_Gone_1 at h
  refine Wp.seq ?_
  refine Wp.text [1, 2, 3] rfl rfl ?_ -- region 0
  refine TextR.box (cs := [I a0.ID, .slv (a0.Need.map eI), I a0.State, I a0.Age]) 6 rfl rfl rfl rfl (.cons (.cons (.cons (.cons (.cons (.cons .nil)))))) ?_
  refine TextR.assign rfl ?_
  refine TextR.done (.cons rfl (.cons rfl (.cons rfl .nil))) ?_
  refine Wp.seq ?_
  obtain ⟨y1, hy1, h⟩ := bind_some h
  refine Wp.go false none [[], [], [], [], [(9, true)], [(9, true)], [(9, true)], [(9, true)], [], []] [] [2, 3, 5] mixed rfl rfl (by kernel_rfl) ?_ -- region 1
  refine RunR.fieldAddr fo41_2 rfl rfl rfl rfl rfl ?_
  refine RunR.load1 tk36 rfl rfl rfl rfl ?_
  refine RunR.int rfl rfl rfl rfl rfl ?_
  refine RunR.move rfl rfl rfl ?_
  refine RunR.fieldAddr fo41_1 rfl rfl rfl rfl rfl ?_
  refine RunR.load1 tk25 rfl rfl rfl rfl ?_
  refine RunR.load1 tk3 rfl rfl rfl rfl ?_
  refine RunR.callG rfl rfl rfl (fun hb H => c_set_Has N a0.Need c1_0 y1 (ifT hy1 gT hb) H) ?_
  refine RunR.pickAnd rfl rfl rfl rfl ?_
  refine RunR.assign rfl rfl rfl ?_
  refine RunR.doneQ (.cons rfl (.cons rfl (.cons rfl .nil))) ?_
  refine Wp.seq ?_
  refine Wp.seq ?_
  refine Wp.text [2, 3, 5, 15] rfl rfl ?_ -- region 2
  refine TextR.move rfl ?_
  refine TextR.done (.cons rfl (.cons rfl (.cons rfl (.cons rfl .nil)))) ?_
  refine Wp.condM h rfl (fun hc1 h => ?_) (fun hc1 h => ?_)
  · obtain ⟨x2, hx2, h⟩ := bind_some h
    refine Wp.text [5] rfl rfl ?_ -- region 3
    refine TextR.load1 tk25 rfl rfl ?_
    refine TextR.fieldAddr fo41_0 rfl rfl rfl ?_
    refine TextR.load1 tk3 rfl rfl ?_
    refine TextR.buildSlice (rows := [a0.ID].map eI) 7 se25 rfl rfl rfl (.cons (.cons (.cons (.cons (.cons (.cons (.cons .nil))))))) ?_
    refine TextR.appendM eI l5 [a0.ID] x2 (app_eq hx2) se25 rfl (obj_of rfl) rfl (view_whole (f := eI) (xs := [a0.ID]) rfl) (fun _ => rfl) rfl (app_len hx2) (.succ (.succ (.succ (.succ (.succ .zero))))) ?_
    refine TextR.store1 tk25 rfl rfl rfl rfl rfl rfl (.succ (.succ (.succ .zero))) ?_
    refine TextR.done (.cons rfl .nil) ?_
    refine Wp.seq ?_
    refine Wp.text [4] rfl rfl ?_ -- region 4
    refine TextR.move rfl ?_
    refine TextR.assign rfl ?_
    refine TextR.done (.cons rfl .nil) ?_
    refine Wp.ret ?_
    obtain rfl := Option.some.inj h
    exact Ret.one rfl (resV_tmp rfl) ⟨(w5 + 1), rfl, _, rfl⟩
  · refine Wp.skip ?_
    refine Wp.seq ?_
    refine Wp.text [4] rfl rfl ?_ -- region 4
    refine TextR.move rfl ?_
    refine TextR.assign rfl ?_
    refine TextR.done (.cons rfl .nil) ?_
    refine Wp.ret ?_
    obtain rfl := Option.some.inj h
    exact Ret.one rfl (resV_tmp rfl) ⟨w5, rfl, _, rfl⟩
theorem c_sess_Gone_1 (N : Nat) (a0 : TSess) (c0_0 : Int) (c1_0 : Int) (c2_0 : Int) (l4 : List TSess) (l5 : List Int) {w4 : Nat} {w5 : Nat} (r : Bool × (List Int)) (h : sess_Gone_1 N a0 c0_0 c1_0 c2_0 l4 l5 = some r) : Nx.Call Try.prog 44 [.agg (eSess a0), .c (.ptr 1 0 0 0), .c (.ptr 3 0 0 0)] [.live 0 2 [[I c0_0, .sl 4 w4 0 l4.length]], .live 0 1 [[I c1_0]], .live 0 2 [[I c2_0, nilS]], .live 0 1 [[.sl 5 w5 0 l5.length]], .live w4 4 (l4.map eSess), .live w5 1 (l5.map eI)] fun r' H' => ∃ u : Nat, r' = .c (B r.1) ∧ H' = [.live 0 2 [[I c0_0, .sl 4 w4 0 l4.length]], .live 0 1 [[I c1_0]], .live 0 2 [[I c2_0, nilS]], .live 0 1 [[.sl 5 u 0 r.2.length]], .live w4 4 (l4.map eSess), .live u 1 (r.2.map eI)] := Call.trimE (R := fun u : Nat => .c (B r.1)) (G := fun u : Nat => [.live 0 2 [[I c0_0, .sl 4 w4 0 l4.length]], .live 0 1 [[I c1_0]], .live 0 2 [[I c2_0, nilS]], .live 0 1 [[.sl 5 u 0 r.2.length]], .live w4 4 (l4.map eSess), .live u 1 (r.2.map eI)]) (fun _ => by simp) (fun _ => (by first | rfl | simp [-List.map_set])) (fun _ => (by first | rfl | simp [-List.map_set])) (w_sess_Gone_1 N a0 c0_0 c1_0 c2_0 l4 l5 r h)
-- slices.IndexFunc[[]narthex/api.Sess,narthex/api.Sess]
theorem w_slices_IndexFunc_Sess_2 (N : Nat) (c0_0 : Int) (c1_0 : Int) (c2_0 : Int) (l4 : List TSess) (l5 : List Int) {w4 : Nat} {w5 : Nat} (r : Int × (List Int)) (h : slices_IndexFunc_Sess_2 N c0_0 c1_0 c2_0 l4 l5 = some r) : Nx.Call Try.prog 51 [.c (.sl 4 w4 0 l4.length), .c (.clo 44 [.ptr 1 0 0 0, .ptr 3 0 0 0])] [.live 0 2 [[I c0_0, .sl 4 w4 0 l4.length]], .live 0 1 [[I c1_0]], .live 0 2 [[I c2_0, nilS]], .live 0 1 [[.sl 5 w5 0 l5.length]], .live w4 4 (l4.map eSess), .live w5 1 (l5.map eI)] fun r' H' => ∃ u : Nat, r' = .c (I r.1) ∧ ∃ junk, H' = [.live 0 2 [[I c0_0, .sl 4 w4 0 l4.length]], .live 0 1 [[I c1_0]], .live 0 2 [[I c2_0, nilS]], .live 0 1 [[.sl 5 u 0 r.2.length]], .live w4 4 (l4.map eSess), .live u 1 (r.2.map eI)] ++ junk := by
  refine Nx.Call.of_body Try.func51 rfl en51 Try.ntmps51 rfl (fun Γ hok => ?_)
  unfold slices_IndexFunc_Sess_2 at h
  refine Wp.seq ?_
  refine Wp.text [0, 1] rfl rfl ?_ -- region 0
  refine TextR.assign rfl ?_
  refine TextR.done (.cons rfl (.cons rfl .nil)) ?_
  refine Wp.seq ?_
  refine Wp.seq ?_
  refine Wp.text [0, 1, 7, 8] rfl rfl ?_ -- region 1
  refine TextR.move rfl ?_
  refine TextR.len us22 rfl rfl ?_
  refine TextR.move rfl ?_
  refine TextR.done (.cons rfl (.cons rfl (.cons rfl (.cons rfl .nil)))) ?_
  obtain ⟨z1, hz1, h⟩ := bind_some h
  refine Wp.fragR (fun S => ∃ z3, z1 = .inr z3 ∧ ∃ wz3_5, ∃ S', St.Weak ⟨Try.prog, 19, Γ⟩ S S' ∧ S' = ⟨[], [.live 0 2 [[I c0_0, .sl 4 w4 0 l4.length]], .live 0 1 [[I c1_0]], .live 0 2 [[I c2_0, nilS]], .live 0 1 [[.sl 5 wz3_5 0 z3.length]], .live w4 4 (l4.map eSess), .live wz3_5 1 (z3.map eI)]⟩) (fun S => ∃ v, z1 = .inl v ∧ Ret Try.prog Try.f51 (fun r' H' => ∃ u : Nat, r' = .c (I v.1) ∧ ∃ junk, H' = [.live 0 2 [[I c0_0, .sl 4 w4 0 l4.length]], .live 0 1 [[I c1_0]], .live 0 2 [[I c2_0, nilS]], .live 0 1 [[.sl 5 u 0 v.2.length]], .live w4 4 (l4.map eSess), .live u 1 (v.2.map eI)] ++ junk) .ret S) ?_ ?_ ?_
  · replace h := hz1
    refine Wp.block ?_
    refine Wp.weak (keepW (live := [0, 1, 7, 8]) (.cons rfl (.cons rfl (.cons rfl (.cons rfl .nil))))) ?_
    refine Wp.loop (fun m S => ∃ l5_1, ∃ s8_1, ∃ wh5_1, slices_IndexFunc_Sess_2_L1 N c0_0 c1_0 c2_0 l4 m l5_1 s8_1 = some z1 ∧ S = ⟨[(0, .c (.sl 4 w4 0 l4.length)), (1, .c (.clo 44 [.ptr 1 0 0 0, .ptr 3 0 0 0])), (7, .c (I (l4.length : Int))), (8, .c (I s8_1))], [.live 0 2 [[I c0_0, .sl 4 w4 0 l4.length]], .live 0 1 [[I c1_0]], .live 0 2 [[I c2_0, nilS]], .live 0 1 [[.sl 5 wh5_1 0 l5_1.length]], .live w4 4 (l4.map eSess), .live wh5_1 1 (l5_1.map eI)]⟩) N ⟨_, _, _, h, rfl⟩ ?_
    rintro m1 _ ⟨l5_1, s8_1, wh5_1, h, rfl⟩
    cases m1 with
    | zero => rw [slices_IndexFunc_Sess_2_L1.eq_1] at h; cases h
    | succ m1 =>
    rw [slices_IndexFunc_Sess_2_L1.eq_2] at h
    refine Wp.seq ?_
    refine Wp.text [0, 1, 7, 8, 9] rfl rfl ?_ -- region 2
    refine TextR.int rfl rfl rfl ?_
    refine TextR.done (.cons rfl (.cons rfl (.cons rfl (.cons rfl (.cons rfl .nil))))) ?_
    refine Wp.seq ?_
    refine Wp.condM h rfl (fun hc2 h => ?_) (fun hc2 h => ?_)
    · refine Wp.skip ?_
      refine Wp.seq ?_
      refine Wp.block ?_
      refine Wp.seq ?_
      refine Wp.text [0, 1, 5, 7, 8] rfl rfl ?_ -- region 3
      refine TextR.move rfl ?_
      refine TextR.assign rfl ?_
      refine TextR.done (.cons rfl (.cons rfl (.cons rfl (.cons rfl (.cons rfl .nil))))) ?_
      refine Wp.seq ?_
      obtain ⟨x4, hx4, h⟩ := bind_some h
      obtain ⟨y5, hy5, h⟩ := bind_some h
      refine Wp.text [0, 1, 5, 7, 8, 16] rfl rfl ?_ -- region 4
      refine TextR.move rfl ?_
      refine TextR.move rfl ?_
      refine TextR.move rfl ?_
      refine TextR.indexOA se22 rfl rfl (obj_of rfl) hx4 ?_
      refine TextR.loadNO tk41 rfl (obj_of rfl) (at_get hx4) rfl ?_
      refine TextR.call rfl rfl (by exact c_sess_Gone_1 N x4 c0_0 c1_0 c2_0 l4 l5_1 y5 hy5) (fun x H' hk => ?_)
      obtain ⟨u6, rfl, rfl⟩ := hk
      refine TextR.done (.cons rfl (.cons rfl (.cons rfl (.cons rfl (.cons rfl (.cons rfl .nil)))))) ?_
      refine Wp.condM h rfl (fun hc3 h => ?_) (fun hc3 h => ?_)
      · refine Wp.seq ?_
        refine Wp.text [4] rfl rfl ?_ -- region 5
        refine TextR.move rfl ?_
        refine TextR.assign rfl ?_
        refine TextR.done (.cons rfl .nil) ?_
        refine Wp.ret ?_
        exact ⟨_, (Option.some.inj h).symm, Ret.one rfl (resV_tmp rfl) ⟨u6, rfl, _, rfl⟩⟩
      · refine Wp.skip ?_
        refine Wp.text [0, 1, 7, 8] rfl rfl ?_ -- region 6
        refine TextR.int rfl rfl rfl ?_
        refine TextR.move rfl ?_
        refine TextR.done (.cons rfl (.cons rfl (.cons rfl (.cons rfl .nil)))) ?_
        exact ⟨m1, Nat.lt_succ_self _, _, (keepW (live := [0, 1, 7, 8]) (.cons rfl (.cons rfl (.cons rfl (.cons rfl .nil))))), _, _, _, h, rfl⟩
    · refine Wp.exit ?_
      exact ⟨_, (Option.some.inj h).symm, _, _, (keepW (live := []) .nil), rfl⟩
  · rintro _ ⟨z3, rfl, wz3_5, _, hw, rfl⟩
    dsimp only at h
    clear hz1
    refine Wp.weak hw ?_
    refine Wp.seq ?_
    refine Wp.text [4] rfl rfl ?_ -- region 7
    refine TextR.assign rfl ?_
    refine TextR.done (.cons rfl .nil) ?_
    refine Wp.ret ?_
    obtain rfl := Option.some.inj h
    exact Ret.one rfl (resV_tmp rfl) ⟨wz3_5, rfl, _, rfl⟩
  · rintro S' ⟨r2, rfl, hR⟩
    dsimp only at h
    obtain rfl := Option.some.inj h
    exact hR
theorem c_slices_IndexFunc_Sess_2 (N : Nat) (c0_0 : Int) (c1_0 : Int) (c2_0 : Int) (l4 : List TSess) (l5 : List Int) {w4 : Nat} {w5 : Nat} (r : Int × (List Int)) (h : slices_IndexFunc_Sess_2 N c0_0 c1_0 c2_0 l4 l5 = some r) : Nx.Call Try.prog 51 [.c (.sl 4 w4 0 l4.length), .c (.clo 44 [.ptr 1 0 0 0, .ptr 3 0 0 0])] [.live 0 2 [[I c0_0, .sl 4 w4 0 l4.length]], .live 0 1 [[I c1_0]], .live 0 2 [[I c2_0, nilS]], .live 0 1 [[.sl 5 w5 0 l5.length]], .live w4 4 (l4.map eSess), .live w5 1 (l5.map eI)] fun r' H' => ∃ u : Nat, r' = .c (I r.1) ∧ H' = [.live 0 2 [[I c0_0, .sl 4 w4 0 l4.length]], .live 0 1 [[I c1_0]], .live 0 2 [[I c2_0, nilS]], .live 0 1 [[.sl 5 u 0 r.2.length]], .live w4 4 (l4.map eSess), .live u 1 (r.2.map eI)] := Call.trimE (R := fun u : Nat => .c (I r.1)) (G := fun u : Nat => [.live 0 2 [[I c0_0, .sl 4 w4 0 l4.length]], .live 0 1 [[I c1_0]], .live 0 2 [[I c2_0, nilS]], .live 0 1 [[.sl 5 u 0 r.2.length]], .live w4 4 (l4.map eSess), .live u 1 (r.2.map eI)]) (fun _ => by simp) (fun _ => (by first | rfl | simp [-List.map_set])) (fun _ => (by first | rfl | simp [-List.map_set])) (w_slices_IndexFunc_Sess_2 N c0_0 c1_0 c2_0 l4 l5 r h)
-- narthex/sess.Gone$1
theorem w_sess_Gone_1_2 (N : Nat) (a0 : TSess) (c0_0 : Int) (c1_0 : Int) (c2_0 : Int) (l4 : List TSess) (l5 : List Int) (c6_0 : Int) (c6_1 : List Int) (c6_2 : Int) (c6_3 : Int) {w4 : Nat} {w5 : Nat} (r : Bool × (List Int)) (h : sess_Gone_1_2 N a0 c0_0 c1_0 c2_0 l4 l5 c6_0 c6_1 c6_2 c6_3 = some r) : Nx.Call Try.prog 44 [.agg (eSess a0), .c (.ptr 1 0 0 0), .c (.ptr 3 0 0 0)] [.live 0 2 [[I c0_0, .sl 4 w4 0 l4.length]], .live 0 1 [[I c1_0]], .live 0 2 [[I c2_0, nilS]], .live 0 1 [[.sl 5 w5 0 l5.length]], .live w4 4 (l4.map eSess), .live w5 1 (l5.map eI), .live 0 4 [[I c6_0, .slv (c6_1.map eI), I c6_2, I c6_3]]] fun r' H' => ∃ u : Nat, r' = .c (B r.1) ∧ ∃ junk, H' = [.live 0 2 [[I c0_0, .sl 4 w4 0 l4.length]], .live 0 1 [[I c1_0]], .live 0 2 [[I c2_0, nilS]], .live 0 1 [[.sl 5 u 0 r.2.length]], .live w4 4 (l4.map eSess), .live u 1 (r.2.map eI), .live 0 4 [[I c6_0, .slv (c6_1.map eI), I c6_2, I c6_3]]] ++ junk := by
  refine Nx.Call.of_body Try.func44 rfl en44 Try.ntmps44 rfl (fun Γ hok => ?_)
  unfold sess_Gone_1_2 at h
  refine Wp.seq ?_
  refine Wp.text [1, 2, 3] rfl rfl ?_ -- region 0
  refine TextR.box (cs := [I a0.ID, .slv (a0.Need.map eI), I a0.State, I a0.Age]) 7 rfl rfl rfl rfl (.cons (.cons (.cons (.cons (.cons (.cons (.cons .nil))))))) ?_
  refine TextR.assign rfl ?_
  refine TextR.done (.cons rfl (.cons rfl (.cons rfl .nil))) ?_
  refine Wp.seq ?_
  obtain ⟨y1, hy1, h⟩ := bind_some h
  refine Wp.go false none [[], [], [], [], [(9, true)], [(9, true)], [(9, true)], [(9, true)], [], []] [] [2, 3, 5] mixed rfl rfl (by kernel_rfl) ?_ -- region 1
  refine RunR.fieldAddr fo41_2 rfl rfl rfl rfl rfl ?_
  refine RunR.load1 tk36 rfl rfl rfl rfl ?_
  refine RunR.int rfl rfl rfl rfl rfl ?_
  refine RunR.move rfl rfl rfl ?_
  refine RunR.fieldAddr fo41_1 rfl rfl rfl rfl rfl ?_
  refine RunR.load1 tk25 rfl rfl rfl rfl ?_
  refine RunR.load1 tk3 rfl rfl rfl rfl ?_
  refine RunR.callG rfl rfl rfl (fun hb H => c_set_Has N a0.Need c1_0 y1 (ifT hy1 gT hb) H) ?_
  refine RunR.pickAnd rfl rfl rfl rfl ?_
  refine RunR.assign rfl rfl rfl ?_
  refine RunR.doneQ (.cons rfl (.cons rfl (.cons rfl .nil))) ?_
  refine Wp.seq ?_
  refine Wp.seq ?_
  refine Wp.text [2, 3, 5, 15] rfl rfl ?_ -- region 2
  refine TextR.move rfl ?_
  refine TextR.done (.cons rfl (.cons rfl (.cons rfl (.cons rfl .nil)))) ?_
  refine Wp.condM h rfl (fun hc1 h => ?_) (fun hc1 h => ?_)
  · obtain ⟨x2, hx2, h⟩ := bind_some h
    refine Wp.text [5] rfl rfl ?_ -- region 3
    refine TextR.load1 tk25 rfl rfl ?_
    refine TextR.fieldAddr fo41_0 rfl rfl rfl ?_
    refine TextR.load1 tk3 rfl rfl ?_
    refine TextR.buildSlice (rows := [a0.ID].map eI) 8 se25 rfl rfl rfl (.cons (.cons (.cons (.cons (.cons (.cons (.cons (.cons .nil)))))))) ?_
    refine TextR.appendM eI l5 [a0.ID] x2 (app_eq hx2) se25 rfl (obj_of rfl) rfl (view_whole (f := eI) (xs := [a0.ID]) rfl) (fun _ => rfl) rfl (app_len hx2) (.succ (.succ (.succ (.succ (.succ .zero))))) ?_
    refine TextR.store1 tk25 rfl rfl rfl rfl rfl rfl (.succ (.succ (.succ .zero))) ?_
    refine TextR.done (.cons rfl .nil) ?_
    refine Wp.seq ?_
    refine Wp.text [4] rfl rfl ?_ -- region 4
    refine TextR.move rfl ?_
    refine TextR.assign rfl ?_
    refine TextR.done (.cons rfl .nil) ?_
    refine Wp.ret ?_
    obtain rfl := Option.some.inj h
    exact Ret.one rfl (resV_tmp rfl) ⟨(w5 + 1), rfl, _, rfl⟩
  · refine Wp.skip ?_
    refine Wp.seq ?_
    refine Wp.text [4] rfl rfl ?_ -- region 4
    refine TextR.move rfl ?_
    refine TextR.assign rfl ?_
    refine TextR.done (.cons rfl .nil) ?_
    refine Wp.ret ?_
    obtain rfl := Option.some.inj h
    exact Ret.one rfl (resV_tmp rfl) ⟨w5, rfl, _, rfl⟩
theorem c_sess_Gone_1_2 (N : Nat) (a0 : TSess) (c0_0 : Int) (c1_0 : Int) (c2_0 : Int) (l4 : List TSess) (l5 : List Int) (c6_0 : Int) (c6_1 : List Int) (c6_2 : Int) (c6_3 : Int) {w4 : Nat} {w5 : Nat} (r : Bool × (List Int)) (h : sess_Gone_1_2 N a0 c0_0 c1_0 c2_0 l4 l5 c6_0 c6_1 c6_2 c6_3 = some r) : Nx.Call Try.prog 44 [.agg (eSess a0), .c (.ptr 1 0 0 0), .c (.ptr 3 0 0 0)] [.live 0 2 [[I c0_0, .sl 4 w4 0 l4.length]], .live 0 1 [[I c1_0]], .live 0 2 [[I c2_0, nilS]], .live 0 1 [[.sl 5 w5 0 l5.length]], .live w4 4 (l4.map eSess), .live w5 1 (l5.map eI), .live 0 4 [[I c6_0, .slv (c6_1.map eI), I c6_2, I c6_3]]] fun r' H' => ∃ u : Nat, r' = .c (B r.1) ∧ H' = [.live 0 2 [[I c0_0, .sl 4 w4 0 l4.length]], .live 0 1 [[I c1_0]], .live 0 2 [[I c2_0, nilS]], .live 0 1 [[.sl 5 u 0 r.2.length]], .live w4 4 (l4.map eSess), .live u 1 (r.2.map eI), .live 0 4 [[I c6_0, .slv (c6_1.map eI), I c6_2, I c6_3]]] := Call.trimE (R := fun u : Nat => .c (B r.1)) (G := fun u : Nat => [.live 0 2 [[I c0_0, .sl 4 w4 0 l4.length]], .live 0 1 [[I c1_0]], .live 0 2 [[I c2_0, nilS]], .live 0 1 [[.sl 5 u 0 r.2.length]], .live w4 4 (l4.map eSess), .live u 1 (r.2.map eI), .live 0 4 [[I c6_0, .slv (c6_1.map eI), I c6_2, I c6_3]]]) (fun _ => by simp) (fun _ => (by first | rfl | simp [-List.map_set])) (fun _ => (by first | rfl | simp [-List.map_set])) (w_sess_Gone_1_2 N a0 c0_0 c1_0 c2_0 l4 l5 c6_0 c6_1 c6_2 c6_3 r h)
-- slices.DeleteFunc[[]narthex/api.Sess,narthex/api.Sess]
theorem w_slices_DeleteFunc_Sess (N : Nat) (c0_0 : Int) (c1_0 : Int) (c2_0 : Int) (l4 : List TSess) (l5 : List Int) {w4 : Nat} {w5 : Nat} (r : (List Int) × (List TSess)) (h : slices_DeleteFunc_Sess N c0_0 c1_0 c2_0 l4 l5 = some r) : Nx.Call Try.prog 43 [.c (.sl 4 w4 0 l4.length), .c (.clo 44 [.ptr 1 0 0 0, .ptr 3 0 0 0])] [.live 0 2 [[I c0_0, .sl 4 w4 0 l4.length]], .live 0 1 [[I c1_0]], .live 0 2 [[I c2_0, nilS]], .live 0 1 [[.sl 5 w5 0 l5.length]], .live w4 4 (l4.map eSess), .live w5 1 (l5.map eI)] fun r' H' => ∃ u : Nat × Nat, r' = .c (.sl 4 (w4 + 1) 0 r.2.length) ∧ ∃ junk, H' = [.live 0 2 [[I c0_0, .sl 4 w4 0 u.2]], .live 0 1 [[I c1_0]], .live 0 2 [[I c2_0, nilS]], .live 0 1 [[.sl 5 u.1 0 r.1.length]], .live (w4 + 1) 4 (r.2.map eSess), .live u.1 1 (r.1.map eI)] ++ junk := by
  refine Nx.Call.of_body Try.func43 rfl en43 Try.ntmps43 rfl (fun Γ hok => ?_)
  unfold slices_DeleteFunc_Sess at h
  refine Wp.seq ?_
  refine Wp.text [0, 1] rfl rfl ?_ -- region 0
  refine TextR.assign rfl ?_
  refine TextR.done (.cons rfl (.cons rfl .nil)) ?_
  refine Wp.seq ?_
  obtain ⟨y1, hy1, h⟩ := bind_some h
  refine Wp.text [0, 1, 5] rfl rfl ?_ -- region 1
  refine TextR.move rfl ?_
  refine TextR.move rfl ?_
  refine TextR.call rfl rfl (by exact c_slices_IndexFunc_Sess_2 N c0_0 c1_0 c2_0 l4 l5 y1 hy1) (fun x H' hk => ?_)
  obtain ⟨u2, rfl, rfl⟩ := hk
  refine TextR.assign rfl ?_
  refine TextR.done (.cons rfl (.cons rfl (.cons rfl .nil))) ?_
  refine Wp.seq ?_
  refine Wp.seq ?_
  refine Wp.text [0, 1, 5, 12] rfl rfl ?_ -- region 2
  refine TextR.move rfl ?_
  refine TextR.int rfl rfl rfl ?_
  refine TextR.done (.cons rfl (.cons rfl (.cons rfl (.cons rfl .nil)))) ?_
  refine Wp.condM h rfl (fun hc1 h => ?_) (fun hc1 h => ?_)
  · refine Wp.seq ?_
    refine Wp.text [4] rfl rfl ?_ -- region 3
    refine TextR.move rfl ?_
    refine TextR.assign rfl ?_
    refine TextR.done (.cons rfl .nil) ?_
    refine Wp.weak (keepW (live := [4] ) (.cons rfl .nil)) ?_
    refine Wp.weak (narrowE (t := 4) (rows' := l4.map eSess) rfl (obj_of rfl) (by simp) (by simp [List.take_of_length_le]) (.succ (.succ (.succ (.succ .zero))))) ?_
    refine Wp.weak (keepW (live := [4]) (.cons rfl .nil)) ?_
    refine Wp.ret ?_
    obtain rfl := Option.some.inj h
    exact Ret.one rfl (resV_tmp rfl) ⟨(u2, l4.length), rfl, _, rfl⟩
  · refine Wp.skip ?_
    refine Wp.seq ?_
    refine Wp.seq ?_
    refine Wp.text [0, 1, 5, 6] rfl rfl ?_ -- region 4
    refine TextR.move rfl ?_
    refine TextR.int rfl rfl rfl ?_
    refine TextR.assign rfl ?_
    refine TextR.done (.cons rfl (.cons rfl (.cons rfl (.cons rfl .nil)))) ?_
    obtain ⟨z3, hz3, h⟩ := bind_some h
    refine Wp.fragN (fun S => ∃ wz3_5, ∃ S', St.Weak ⟨Try.prog, 42, Γ⟩ S S' ∧ S' = ⟨[(0, .c (.sl 4 w4 0 z3.1.length)), (5, .c (I z3.2.2))], [.live 0 2 [[I c0_0, .sl 4 w4 0 z3.1.length]], .live 0 1 [[I c1_0]], .live 0 2 [[I c2_0, nilS]], .live 0 1 [[.sl 5 wz3_5 0 z3.2.1.length]], .live w4 4 (z3.1.map eSess), .live wz3_5 1 (z3.2.1.map eI)]⟩) ?_ ?_
    · replace h := hz3
      refine Wp.block ?_
      refine Wp.weak (keepW (live := [0, 1, 5, 6]) (.cons rfl (.cons rfl (.cons rfl (.cons rfl .nil))))) ?_
      refine Wp.loop (fun m S => ∃ l4_1, ∃ l5_1, ∃ s5_1, ∃ s6_1, ∃ wh5_1, slices_DeleteFunc_Sess_L1 N c0_0 c1_0 c2_0 m l4_1 l5_1 s5_1 s6_1 = some z3 ∧ S = ⟨[(0, .c (.sl 4 w4 0 l4_1.length)), (1, .c (.clo 44 [.ptr 1 0 0 0, .ptr 3 0 0 0])), (5, .c (I s5_1)), (6, .c (I s6_1))], [.live 0 2 [[I c0_0, .sl 4 w4 0 l4_1.length]], .live 0 1 [[I c1_0]], .live 0 2 [[I c2_0, nilS]], .live 0 1 [[.sl 5 wh5_1 0 l5_1.length]], .live w4 4 (l4_1.map eSess), .live wh5_1 1 (l5_1.map eI)]⟩) N ⟨_, _, _, _, _, h, rfl⟩ ?_
      rintro m1 _ ⟨l4_1, l5_1, s5_1, s6_1, wh5_1, h, rfl⟩
      cases m1 with
      | zero => rw [slices_DeleteFunc_Sess_L1.eq_1] at h; cases h
      | succ m1 =>
      rw [slices_DeleteFunc_Sess_L1.eq_2] at h
      refine Wp.seq ?_
      refine Wp.seq ?_
      refine Wp.text [0, 1, 5, 6, 19] rfl rfl ?_ -- region 5
      refine TextR.move rfl ?_
      refine TextR.move rfl ?_
      refine TextR.len us22 rfl rfl ?_
      refine TextR.int rfl rfl rfl ?_
      refine TextR.done (.cons rfl (.cons rfl (.cons rfl (.cons rfl (.cons rfl .nil))))) ?_
      refine Wp.condM h rfl (fun hc3 h => ?_) (fun hc3 h => ?_)
      · refine Wp.skip ?_
        refine Wp.seq ?_
        refine Wp.block ?_
        refine Wp.seq ?_
        obtain ⟨x4, hx4, h⟩ := bind_some h
        refine Wp.text [0, 1, 5, 6, 7] rfl rfl ?_ -- region 7
        refine TextR.move rfl ?_
        refine TextR.move rfl ?_
        refine TextR.indexOA se22 rfl rfl (obj_of rfl) hx4 ?_
        refine TextR.loadNO tk41 rfl (obj_of rfl) (at_get hx4) rfl ?_
        refine TextR.alloc 6 zc41 rfl rfl (.cons (.cons (.cons (.cons (.cons (.cons .nil)))))) ?_
        refine TextR.store1 tk41 rfl rfl rfl rfl rfl rfl (.succ (.succ (.succ (.succ (.succ (.succ .zero)))))) ?_
        refine TextR.done (.cons rfl (.cons rfl (.cons rfl (.cons rfl (.cons rfl .nil))))) ?_
        refine Wp.seq ?_
        obtain ⟨y5, hy5, h⟩ := bind_some h
        refine Wp.text [0, 1, 5, 6, 7, 29] rfl rfl ?_ -- region 8
        refine TextR.move rfl ?_
        refine TextR.loadN (cs := [I x4.ID, .slv (x4.Need.map eI), I x4.State, I x4.Age]) tk41 rfl rfl ?_
        refine TextR.call rfl rfl (by exact c_sess_Gone_1_2 N x4 c0_0 c1_0 c2_0 l4_1 l5_1 x4.ID x4.Need x4.State x4.Age y5 hy5) (fun x H' hk => ?_)
        obtain ⟨u6, rfl, rfl⟩ := hk
        refine TextR.not rfl ?_
        refine TextR.done (.cons rfl (.cons rfl (.cons rfl (.cons rfl (.cons rfl (.cons rfl .nil)))))) ?_
        refine Wp.condM h rfl (fun hc4 h => ?_) (fun hc4 h => ?_)
        · refine Wp.seq ?_
          obtain ⟨x7, hx7, h⟩ := bind_some h
          refine Wp.text [0, 1, 5, 6] rfl rfl ?_ -- region 9
          refine TextR.move rfl ?_
          refine TextR.move rfl ?_
          refine TextR.loadN (cs := [I x4.ID, .slv (x4.Need.map eI), I x4.State, I x4.Age]) tk41 rfl rfl ?_
          refine TextR.indexOA se22 rfl rfl (obj_of rfl) hx7 ?_
          refine TextR.storeO x4 tk41 rfl rfl rfl (obj_of rfl) rfl (at_get hx7) rfl rfl (.succ (.succ (.succ (.succ .zero)))) ?_
          refine TextR.done (.cons rfl (.cons rfl (.cons rfl (.cons rfl .nil)))) ?_
          refine Wp.weak (eqW (S' := ⟨[(0, .c (.sl 4 w4 0 (l4_1.set s5_1.toNat x4).length)), (1, .c (.clo 44 [.ptr 1 0 0 0, .ptr 3 0 0 0])), (5, .c (I s5_1)), (6, .c (I s6_1))], [.live 0 2 [[I c0_0, .sl 4 w4 0 (l4_1.set s5_1.toNat x4).length]], .live 0 1 [[I c1_0]], .live 0 2 [[I c2_0, nilS]], .live 0 1 [[.sl 5 u6 0 y5.2.length]], .live w4 4 ((l4_1.set s5_1.toNat x4).map eSess), .live u6 1 (y5.2.map eI), .live 0 4 [[I x4.ID, .slv (x4.Need.map eI), I x4.State, I x4.Age]]]⟩) (by first | rfl | (simp only [List.length_set]; done) | (simp only [List.length_set]; rfl))) ?_
          refine Wp.text [0, 1, 5, 6] rfl rfl ?_ -- region 10
          refine TextR.move rfl ?_
          refine TextR.int rfl rfl rfl ?_
          refine TextR.assign rfl ?_
          refine TextR.done (.cons rfl (.cons rfl (.cons rfl (.cons rfl .nil)))) ?_
          refine Wp.text [0, 1, 5, 6] rfl rfl ?_ -- region 6
          refine TextR.move rfl ?_
          refine TextR.int rfl rfl rfl ?_
          refine TextR.assign rfl ?_
          refine TextR.done (.cons rfl (.cons rfl (.cons rfl (.cons rfl .nil)))) ?_
          exact ⟨m1, Nat.lt_succ_self _, _, (St.Weak.trans (keepW (live := [0, 1, 5, 6]) (.cons rfl (.cons rfl (.cons rfl (.cons rfl .nil))))) (pickT (e' := [(0, .c (.sl 4 w4 0 (l4_1.set s5_1.toNat x4).length)), (1, .c (.clo 44 [.ptr 1 0 0 0, .ptr 3 0 0 0])), (5, .c (I (w64 (s5_1 + 1)))), (6, .c (I (w64 (s6_1 + 1))))]) (H' := [.live 0 2 [[I c0_0, .sl 4 w4 0 (l4_1.set s5_1.toNat x4).length]], .live 0 1 [[I c1_0]], .live 0 2 [[I c2_0, nilS]], .live 0 1 [[.sl 5 u6 0 y5.2.length]], .live w4 4 ((l4_1.set s5_1.toNat x4).map eSess), .live u6 1 (y5.2.map eI)]) [0, 1, 2, 3, 4, 5] [0, 1, 2, 3, 4, 5, 0] 6 hok.len.symm rfl rfl (by decide) (by first | rfl | simp [-List.map_set]) (by first | rfl | simp [-List.map_set]) (by first | rfl | simp [-List.map_set]) (by first | rfl | simp [-List.map_set]))), _, _, _, _, _, h, rfl⟩
        · refine Wp.skip ?_
          refine Wp.text [0, 1, 5, 6] rfl rfl ?_ -- region 6
          refine TextR.move rfl ?_
          refine TextR.int rfl rfl rfl ?_
          refine TextR.assign rfl ?_
          refine TextR.done (.cons rfl (.cons rfl (.cons rfl (.cons rfl .nil)))) ?_
          exact ⟨m1, Nat.lt_succ_self _, _, (St.Weak.trans (keepW (live := [0, 1, 5, 6]) (.cons rfl (.cons rfl (.cons rfl (.cons rfl .nil))))) (pickT (e' := [(0, .c (.sl 4 w4 0 l4_1.length)), (1, .c (.clo 44 [.ptr 1 0 0 0, .ptr 3 0 0 0])), (5, .c (I s5_1)), (6, .c (I (w64 (s6_1 + 1))))]) (H' := [.live 0 2 [[I c0_0, .sl 4 w4 0 l4_1.length]], .live 0 1 [[I c1_0]], .live 0 2 [[I c2_0, nilS]], .live 0 1 [[.sl 5 u6 0 y5.2.length]], .live w4 4 (l4_1.map eSess), .live u6 1 (y5.2.map eI)]) [0, 1, 2, 3, 4, 5] [0, 1, 2, 3, 4, 5, 0] 6 hok.len.symm rfl rfl (by decide) (by first | rfl | simp [-List.map_set]) (by first | rfl | simp [-List.map_set]) (by first | rfl | simp [-List.map_set]) (by first | rfl | simp [-List.map_set]))), _, _, _, _, _, h, rfl⟩
      · refine Wp.exit ?_
        obtain rfl := Option.some.inj h
        exact ⟨_, _, (keepW (live := [0, 5]) (.cons rfl (.cons rfl .nil))), rfl⟩
    rintro _ ⟨wz3_5, S', hw, rfl⟩
    clear hz3
    refine Wp.weak hw ?_
    refine Wp.seq ?_
    obtain ⟨x8, hx8, h⟩ := bind_some h
    refine Wp.text [0, 5] rfl rfl ?_ -- region 11
    refine TextR.move rfl ?_
    refine TextR.move rfl ?_
    refine TextR.sliceOM se22 rfl rfl rfl (obj_of rfl) rfl rfl hx8 ?_
    refine TextR.clearZ eSess z3.1 (⟨0, [], 0, 0⟩ : TSess) se22 rfl (obj_of rfl) (by have q0 := sub_le hx8; first | exact q0 | (simp only [List.length_set, List.length_take, List.length_drop, length_cpy, length_clr] at *; omega)) rfl (fun _ => rfl) (fun _ => rfl) (.succ (.succ (.succ (.succ .zero)))) ?_
    refine TextR.done (.cons rfl (.cons rfl .nil)) ?_
    refine Wp.weak (eqW (S' := ⟨[(0, .c (.sl 4 w4 0 (clr z3.1 (Int.toNat z3.2.2) x8.length (⟨0, [], 0, 0⟩ : TSess)).length)), (5, .c (I z3.2.2))], [.live 0 2 [[I c0_0, .sl 4 w4 0 (clr z3.1 (Int.toNat z3.2.2) x8.length (⟨0, [], 0, 0⟩ : TSess)).length]], .live 0 1 [[I c1_0]], .live 0 2 [[I c2_0, nilS]], .live 0 1 [[.sl 5 wz3_5 0 z3.2.1.length]], .live w4 4 ((clr z3.1 (Int.toNat z3.2.2) x8.length (⟨0, [], 0, 0⟩ : TSess)).map eSess), .live wz3_5 1 (z3.2.1.map eI)]⟩) (by have e0 := length_clr z3.1 (Int.toNat z3.2.2) x8.length (⟨0, [], 0, 0⟩ : TSess) (by have q0 := sub_le hx8; first | exact q0 | (simp only [List.length_set, List.length_take, List.length_drop, length_cpy, length_clr] at *; omega)); first | rfl | (simp only [List.length_set]; done) | (simp only [List.length_set]; rfl) | (simp only [List.length_set, e0]; done) | (simp only [List.length_set, e0]; rfl))) ?_
    refine Wp.seq ?_
    obtain ⟨x9, hx9, h⟩ := bind_some h
    refine Wp.text [4] rfl rfl ?_ -- region 12
    refine TextR.move rfl ?_
    refine TextR.move rfl ?_
    refine TextR.sliceOM se22 rfl rfl rfl (obj_of rfl) rfl rfl hx9 ?_
    refine TextR.assign rfl ?_
    refine TextR.done (.cons rfl .nil) ?_
    refine Wp.weak (keepW (live := [4] ) (.cons rfl .nil)) ?_
    refine Wp.weak (narrowE (t := 4) (rows' := x9.map eSess) rfl (obj_of rfl) (by have q := sub_le hx9; simp at q ⊢; omega) (sub_rows hx9) (.succ (.succ (.succ (.succ .zero))))) ?_
    refine Wp.weak (keepW (live := [4]) (.cons rfl .nil)) ?_
    refine Wp.ret ?_
    obtain rfl := Option.some.inj h
    exact Ret.one rfl (resV_tmp rfl) ⟨(wz3_5, (clr z3.1 (Int.toNat z3.2.2) x8.length (⟨0, [], 0, 0⟩ : TSess)).length), rfl, _, rfl⟩
theorem c_slices_DeleteFunc_Sess (N : Nat) (c0_0 : Int) (c1_0 : Int) (c2_0 : Int) (l4 : List TSess) (l5 : List Int) {w4 : Nat} {w5 : Nat} (r : (List Int) × (List TSess)) (h : slices_DeleteFunc_Sess N c0_0 c1_0 c2_0 l4 l5 = some r) : Nx.Call Try.prog 43 [.c (.sl 4 w4 0 l4.length), .c (.clo 44 [.ptr 1 0 0 0, .ptr 3 0 0 0])] [.live 0 2 [[I c0_0, .sl 4 w4 0 l4.length]], .live 0 1 [[I c1_0]], .live 0 2 [[I c2_0, nilS]], .live 0 1 [[.sl 5 w5 0 l5.length]], .live w4 4 (l4.map eSess), .live w5 1 (l5.map eI)] fun r' H' => ∃ u : Nat × Nat, r' = .c (.sl 4 (w4 + 1) 0 r.2.length) ∧ H' = [.live 0 2 [[I c0_0, .sl 4 w4 0 u.2]], .live 0 1 [[I c1_0]], .live 0 2 [[I c2_0, nilS]], .live 0 1 [[.sl 5 u.1 0 r.1.length]], .live (w4 + 1) 4 (r.2.map eSess), .live u.1 1 (r.1.map eI)] := Call.trimE (R := fun u : Nat × Nat => .c (.sl 4 (w4 + 1) 0 r.2.length)) (G := fun u : Nat × Nat => [.live 0 2 [[I c0_0, .sl 4 w4 0 u.2]], .live 0 1 [[I c1_0]], .live 0 2 [[I c2_0, nilS]], .live 0 1 [[.sl 5 u.1 0 r.1.length]], .live (w4 + 1) 4 (r.2.map eSess), .live u.1 1 (r.1.map eI)]) (fun _ => by simp) (fun _ => (by first | rfl | simp [-List.map_set])) (fun _ => (by first | rfl | simp [-List.map_set])) (w_slices_DeleteFunc_Sess N c0_0 c1_0 c2_0 l4 l5 r h)
-- narthex/sess.Gone
theorem w_sess_Gone (N : Nat) (a0 : TBook) (a1 : Int) (r : TBook × (List Int) × Int) (h : sess_Gone N a0 a1 = some r) : Nx.Call Try.prog 25 [.agg (eBook a0), .c (I a1)] [] fun r' _ => r' = .tup [.agg (eBook r.1), .c (.slv (r.2.1.map eI)), .c (I r.2.2)] := by
  refine Nx.Call.of_body Try.func25 rfl en25 Try.ntmps25 rfl (fun Γ hok => ?_)
  unfold sess_Gone at h
  refine Wp.seq ?_
  refine Wp.text [2, 3, 4] rfl rfl ?_ -- region 0
  refine TextR.box (cs := [I a0.Last, .slv (a0.Sess.map eSess)]) 0 rfl rfl rfl rfl .nil ?_
  refine TextR.box (cs := [I a1]) 1 rfl rfl rfl rfl (.cons .nil) ?_
  refine TextR.alloc 2 zc24 rfl rfl (.cons (.cons .nil)) ?_
  refine TextR.assign rfl ?_
  refine TextR.assign rfl ?_
  refine TextR.done (.cons rfl (.cons rfl (.cons rfl .nil))) ?_
  refine Wp.seq ?_
  refine Wp.seq ?_
  obtain ⟨y1, hy1, h⟩ := bind_some h
  refine Wp.text [2, 3, 4, 7] rfl rfl ?_ -- region 1
  refine TextR.loadN (cs := [I a0.Last, .slv (a0.Sess.map eSess)]) tk24 rfl rfl ?_
  refine TextR.dcall rfl rfl (c_sess_Check N a0 y1 hy1 _) ?_
  refine TextR.assign rfl ?_
  refine TextR.done (.cons rfl (.cons rfl (.cons rfl (.cons rfl .nil)))) ?_
  refine Wp.seq ?_
  refine Wp.text [2, 3, 4, 7, 12] rfl rfl ?_ -- region 2
  refine TextR.move rfl ?_
  refine TextR.int rfl rfl rfl ?_
  refine TextR.done (.cons rfl (.cons rfl (.cons rfl (.cons rfl (.cons rfl .nil))))) ?_
  refine Wp.condM h rfl (fun hc1 h => ?_) (fun hc1 h => ?_)
  · refine Wp.seq ?_
    refine Wp.text [4, 5, 6] rfl rfl ?_ -- region 3
    refine TextR.build cm24 rfl ?_
    refine TextR.move rfl ?_
    refine TextR.store1 tk24 rfl rfl rfl rfl rfl rfl (.succ (.succ .zero)) ?_
    refine TextR.assign rfl ?_
    refine TextR.assign rfl ?_
    refine TextR.done (.cons rfl (.cons rfl (.cons rfl .nil))) ?_
    refine Wp.weak (keepW (live := [4, 5, 6] ) (.cons rfl (.cons rfl (.cons rfl .nil)))) ?_
    refine Wp.weak (nzT (e' := [(4, .c (.ptr 2 0 0 0)), (5, .c (.slv ([].map eI))), (6, .c (I y1))]) (H' := [.live 0 2 [[I a0.Last, .slv (a0.Sess.map eSess)]], .live 0 1 [[I a1]], .live 0 2 [[I 0, .slv ([].map eSess)]]]) (by first | rfl | simp [-List.map_set]) (by first | rfl | simp [-List.map_set])) ?_
    refine Wp.ret ?_
    obtain rfl := Option.some.inj h
    exact Ret.three rfl (resV_cellN tk24 rfl rfl) (resV_tmp rfl) (resV_tmp rfl) rfl
  · refine Wp.skip ?_
    refine Wp.seq ?_
    refine Wp.text [2, 3, 4, 8] rfl rfl ?_ -- region 4
    refine TextR.alloc 3 zc25 rfl rfl (.cons (.cons (.cons .nil))) ?_
    refine TextR.done (.cons rfl (.cons rfl (.cons rfl (.cons rfl .nil)))) ?_
    refine Wp.seq ?_
    obtain ⟨y2, hy2, h⟩ := bind_some h
    refine Wp.text [2, 3, 4, 8] rfl rfl ?_ -- region 5
    refine TextR.loadN (cs := [I a0.Last, .slv (a0.Sess.map eSess)]) tk24 rfl rfl ?_
    refine TextR.call rfl rfl (by exact o_sess_own N a0 y2 hy2 (H1 := [.live 0 2 [[I a0.Last, .slv (a0.Sess.map eSess)]], .live 0 1 [[I a1]], .live 0 2 [[I 0, nilS]], .live 0 1 [[nilS]], .live 0 4 (y2.Sess.map eSess)]) 4 rfl rfl) (fun x H' hk => ?_)
    obtain ⟨rfl, rfl⟩ := hk
    refine TextR.store1 tk24 rfl rfl rfl rfl rfl rfl .zero ?_
    refine TextR.done (.cons rfl (.cons rfl (.cons rfl (.cons rfl .nil)))) ?_
    refine Wp.seq ?_
    refine Wp.weak (nilCellW (H := [.live 0 2 [[I y2.Last, .sl 4 0 0 y2.Sess.length]], .live 0 1 [[I a1]], .live 0 2 [[I 0, nilS]], .live 0 1 [[nilS]], .live 0 4 (y2.Sess.map eSess)]) (ver := 0) (g := 3) (i := 0) (k := 0) 1 5 rfl rfl rfl rfl rfl (.cons (.cons (.cons (.cons (.cons .nil))))) (.succ (.succ (.succ .zero)))) ?_
    obtain ⟨y3, hy3, h⟩ := bind_some h
    refine Wp.text [2, 4, 8] rfl rfl ?_ -- region 6
    refine TextR.fieldAddr fo24_1 rfl rfl rfl ?_
    refine TextR.load1 tk22 rfl rfl ?_
    refine TextR.makeFunc rfl ?_
    refine TextR.call rfl rfl (by exact c_slices_DeleteFunc_Sess N y2.Last a1 0 y2.Sess ([] : List Int) y3 hy3) (fun x H' hk => ?_)
    obtain ⟨u4, rfl, rfl⟩ := hk
    refine TextR.fieldAddr fo24_1 rfl rfl rfl ?_
    refine TextR.storeF (r' := [I y2.Last, .sl 4 1 0 y3.2.length]) tk22 rfl rfl rfl rfl rfl rfl rfl .zero ?_
    refine TextR.done (.cons rfl (.cons rfl (.cons rfl .nil))) ?_
    refine Wp.seq ?_
    refine Wp.go true (some ⟨[2], []⟩) [] [false, true, false, false, false] [4, 5, 6] mixed rfl rfl (by kernel_rfl) ?_ -- region 7
    refine RunR.loadN (cs := [I y2.Last, .sl 4 1 0 y3.2.length]) tk24 rfl rfl rfl rfl ?_
    refine RunR.load1 tk25 rfl rfl rfl rfl ?_
    refine RunR.store1 tk24 rfl rfl rfl rfl rfl rfl rfl rfl (.succ (.succ .zero)) ?_
    refine RunR.assign rfl rfl rfl ?_
    refine RunR.assign rfl rfl rfl ?_
    refine RunR.doneQ (.cons rfl (.cons rfl (.cons rfl .nil))) ?_
    refine Wp.weak (keepW (live := [4, 5, 6] ) (.cons rfl (.cons rfl (.cons rfl .nil)))) ?_
    refine Wp.weak (freezeW (h := 4) (ver := 1) (rows := y3.2.map eSess) (e' := [(4, .c (.ptr 2 0 0 0)), (5, .c (.sl 5 u4.1 0 y3.1.length)), (6, .c (I 0))]) (H' := [.live 0 2 [[I y2.Last, .slv (y3.2.map eSess)]], .live 0 1 [[I a1]], .live 0 2 [[I y2.Last, .slv (y3.2.map eSess)]], .live 0 1 [[.sl 5 u4.1 0 y3.1.length]], .dead, .live u4.1 1 (y3.1.map eI)]) rfl (by first | rfl | simp [-List.map_set]) (by first | rfl | simp [-List.map_set])) ?_
    refine Wp.weak (freezeW (h := 5) (ver := u4.1) (rows := y3.1.map eI) (e' := [(4, .c (.ptr 2 0 0 0)), (5, .c (.slv (y3.1.map eI))), (6, .c (I 0))]) (H' := [.live 0 2 [[I y2.Last, .slv (y3.2.map eSess)]], .live 0 1 [[I a1]], .live 0 2 [[I y2.Last, .slv (y3.2.map eSess)]], .live 0 1 [[.slv (y3.1.map eI)]], .dead, .dead]) (obj_of rfl) (by first | rfl | simp [-List.map_set]) (by first | rfl | simp [-List.map_set])) ?_
    refine Wp.ret ?_
    obtain rfl := Option.some.inj h
    exact Ret.three rfl (resV_cellN tk24 rfl rfl) (resV_tmp rfl) (resV_tmp rfl) rfl
theorem c_sess_Gone (N : Nat) (a0 : TBook) (a1 : Int) (r : TBook × (List Int) × Int) (h : sess_Gone N a0 a1 = some r) (H : List Ob) : DCall Try.prog 25 [.agg (eBook a0), .c (I a1)] H (.tup [.agg (eBook r.1), .c (.slv (r.2.1.map eI)), .c (I r.2.2)]) := DCall.lift (by first | rfl | simp [-List.map_set]) (by first | rfl | simp [-List.map_set]) (fun _ => by simp [-List.map_set]) (w_sess_Gone N a0 a1 r h) H
-- narthex/sess.Cancel
theorem w_sess_Cancel (N : Nat) (a0 : TBook) (a1 : Int) (r : TBook × Int) (h : sess_Cancel N a0 a1 = some r) : Nx.Call Try.prog 28 [.agg (eBook a0), .c (I a1)] [] fun r' _ => r' = .tup [.agg (eBook r.1), .c (I r.2)] := by
  refine Nx.Call.of_body Try.func28 rfl en28 Try.ntmps28 rfl (fun Γ hok => ?_)
  unfold sess_Cancel at h
  refine Wp.seq ?_
  refine Wp.text [1, 2, 4] rfl rfl ?_ -- region 0
  refine TextR.box (cs := [I a0.Last, .slv (a0.Sess.map eSess)]) 0 rfl rfl rfl rfl .nil ?_
  refine TextR.alloc 1 zc24 rfl rfl (.cons .nil) ?_
  refine TextR.assign rfl ?_
  refine TextR.done (.cons rfl (.cons rfl (.cons rfl .nil))) ?_
  refine Wp.seq ?_
  obtain ⟨y1, hy1, h⟩ := bind_some h
  refine Wp.text [4, 5] rfl rfl ?_ -- region 1
  refine TextR.loadN (cs := [I a0.Last, .slv (a0.Sess.map eSess)]) tk24 rfl rfl ?_
  refine TextR.move rfl ?_
  refine TextR.dcall rfl rfl (c_sess_end N a0 a1 0 y1 hy1 _) ?_
  refine TextR.extract rfl rfl ?_
  refine TextR.extract rfl rfl ?_
  refine TextR.store1 tk24 rfl rfl rfl rfl rfl rfl (.succ .zero) ?_
  refine TextR.assign rfl ?_
  refine TextR.done (.cons rfl (.cons rfl .nil)) ?_
  refine Wp.ret ?_
  obtain rfl := Option.some.inj h
  exact Ret.two rfl (resV_cellN tk24 rfl rfl) (resV_tmp rfl) rfl
theorem c_sess_Cancel (N : Nat) (a0 : TBook) (a1 : Int) (r : TBook × Int) (h : sess_Cancel N a0 a1 = some r) (H : List Ob) : DCall Try.prog 28 [.agg (eBook a0), .c (I a1)] H (.tup [.agg (eBook r.1), .c (I r.2)]) := DCall.lift (by first | rfl | simp [-List.map_set]) (by first | rfl | simp [-List.map_set]) (fun _ => by simp [-List.map_set]) (w_sess_Cancel N a0 a1 r h) H
-- narthex/narthexref01.Same
theorem w_narthexref01_Same (N : Nat) (a0 : List Int) (a1 : List Int) (r : Bool) (h : narthexref01_Same N a0 a1 = some r) : Nx.Call Try.prog 19 [.c (.slv (a0.map eI)), .c (.slv (a1.map eI))] [] fun r' _ => r' = .c (B r) := by
  refine Nx.Call.of_body Try.func19 rfl en19 Try.ntmps19 rfl (fun Γ hok => ?_)
  unfold narthexref01_Same at h
  refine Wp.seq ?_
  refine Wp.text [0, 1] rfl rfl ?_ -- region 0
  refine TextR.assign rfl ?_
  refine TextR.done (.cons rfl (.cons rfl .nil)) ?_
  refine Wp.seq ?_
  refine Wp.seq ?_
  refine Wp.text [0, 1, 10] rfl rfl ?_ -- region 1
  refine TextR.move rfl ?_
  refine TextR.lenM us25 rfl rfl ?_
  refine TextR.move rfl ?_
  refine TextR.lenM us25 rfl rfl ?_
  refine TextR.int rfl rfl rfl ?_
  refine TextR.done (.cons rfl (.cons rfl (.cons rfl .nil))) ?_
  refine Wp.condM h rfl (fun hc1 h => ?_) (fun hc1 h => ?_)
  · refine Wp.seq ?_
    refine Wp.text [4] rfl rfl ?_ -- region 2
    refine TextR.assign rfl ?_
    refine TextR.done (.cons rfl .nil) ?_
    refine Wp.ret ?_
    obtain rfl := Option.some.inj h
    exact Ret.one rfl (resV_tmp rfl) rfl
  · refine Wp.skip ?_
    refine Wp.seq ?_
    refine Wp.seq ?_
    refine Wp.text [0, 1, 5] rfl rfl ?_ -- region 3
    refine TextR.assign rfl ?_
    refine TextR.done (.cons rfl (.cons rfl (.cons rfl .nil))) ?_
    obtain ⟨z1, hz1, h⟩ := bind_some h
    refine Wp.fragR (fun S => ∃ z3, z1 = .inr z3 ∧ ∃ S', St.Weak ⟨Try.prog, 26, Γ⟩ S S' ∧ S' = ⟨[], []⟩) (fun S => ∃ v, z1 = .inl v ∧ Ret Try.prog Try.f19 (fun r' _ => r' = .c (B v)) .ret S) ?_ ?_ ?_
    · replace h := hz1
      refine Wp.block ?_
      refine Wp.weak (keepW (live := [0, 1, 5]) (.cons rfl (.cons rfl (.cons rfl .nil)))) ?_
      refine Wp.loop (fun m S => ∃ s5_1, narthexref01_Same_L1 N a0 a1 m s5_1 = some z1 ∧ S = ⟨[(0, .c (.slv (a0.map eI))), (1, .c (.slv (a1.map eI))), (5, .c (I s5_1))], []⟩) N ⟨_, h, rfl⟩ ?_
      rintro m1 _ ⟨s5_1, h, rfl⟩
      cases m1 with
      | zero => rw [narthexref01_Same_L1.eq_1] at h; cases h
      | succ m1 =>
      rw [narthexref01_Same_L1.eq_2] at h
      refine Wp.seq ?_
      refine Wp.seq ?_
      refine Wp.text [0, 1, 5, 14] rfl rfl ?_ -- region 4
      refine TextR.move rfl ?_
      refine TextR.move rfl ?_
      refine TextR.lenM us25 rfl rfl ?_
      refine TextR.int rfl rfl rfl ?_
      refine TextR.done (.cons rfl (.cons rfl (.cons rfl (.cons rfl .nil)))) ?_
      refine Wp.condM h rfl (fun hc3 h => ?_) (fun hc3 h => ?_)
      · refine Wp.skip ?_
        refine Wp.seq ?_
        refine Wp.block ?_
        refine Wp.seq ?_
        obtain ⟨x4, hx4, h⟩ := bind_some h
        obtain ⟨x5, hx5, h⟩ := bind_some h
        refine Wp.go true (some ⟨[], []⟩) [] [] [0, 1, 5, 25] mixed rfl rfl (by kernel_rfl) ?_ -- region 6
        refine RunR.move rfl rfl rfl ?_
        refine RunR.move rfl rfl rfl ?_
        refine RunR.indexA se25 rfl rfl rfl rfl rfl hx4 rfl ?_
        refine RunR.load1M tk3 rfl rfl rfl (at_get hx4) rfl ?_
        refine RunR.move rfl rfl rfl ?_
        refine RunR.move rfl rfl rfl ?_
        refine RunR.indexA se25 rfl rfl rfl rfl rfl hx5 rfl ?_
        refine RunR.load1M tk3 rfl rfl rfl (at_get hx5) rfl ?_
        refine RunR.int rfl rfl rfl rfl rfl ?_
        refine RunR.doneQ (.cons rfl (.cons rfl (.cons rfl (.cons rfl .nil)))) ?_
        refine Wp.condM h rfl (fun hc4 h => ?_) (fun hc4 h => ?_)
        · refine Wp.seq ?_
          refine Wp.text [4] rfl rfl ?_ -- region 7
          refine TextR.assign rfl ?_
          refine TextR.done (.cons rfl .nil) ?_
          refine Wp.ret ?_
          exact ⟨_, (Option.some.inj h).symm, Ret.one rfl (resV_tmp rfl) rfl⟩
        · refine Wp.skip ?_
          refine Wp.text [0, 1, 5] rfl rfl ?_ -- region 5
          refine TextR.move rfl ?_
          refine TextR.int rfl rfl rfl ?_
          refine TextR.assign rfl ?_
          refine TextR.done (.cons rfl (.cons rfl (.cons rfl .nil))) ?_
          exact ⟨m1, Nat.lt_succ_self _, _, (keepW (live := [0, 1, 5]) (.cons rfl (.cons rfl (.cons rfl .nil)))), _, h, rfl⟩
      · refine Wp.exit ?_
        exact ⟨_, (Option.some.inj h).symm, _, (keepW (live := []) .nil), rfl⟩
    · rintro _ ⟨z3, rfl, _, hw, rfl⟩
      dsimp only at h
      clear hz1
      refine Wp.weak hw ?_
      refine Wp.seq ?_
      refine Wp.text [4] rfl rfl ?_ -- region 8
      refine TextR.assign rfl ?_
      refine TextR.done (.cons rfl .nil) ?_
      refine Wp.ret ?_
      obtain rfl := Option.some.inj h
      exact Ret.one rfl (resV_tmp rfl) rfl
    · rintro S' ⟨r2, rfl, hR⟩
      dsimp only at h
      obtain rfl := Option.some.inj h
      exact hR
theorem c_narthexref01_Same (N : Nat) (a0 : List Int) (a1 : List Int) (r : Bool) (h : narthexref01_Same N a0 a1 = some r) (H : List Ob) : DCall Try.prog 19 [.c (.slv (a0.map eI)), .c (.slv (a1.map eI))] H (.c (B r)) := DCall.lift (by first | rfl | simp [-List.map_set]) (by first | rfl | simp [-List.map_set]) (fun _ => by simp [-List.map_set]) (w_narthexref01_Same N a0 a1 r h) H
-- slices.Equal[[]int,int]
theorem w_slices_Equal_int (N : Nat) (a0 : List Int) (a1 : List Int) (r : Bool) (h : slices_Equal_int N a0 a1 = some r) : Nx.Call Try.prog 40 [.c (.slv (a0.map eI)), .c (.slv (a1.map eI))] [] fun r' _ => r' = .c (B r) := by
  refine Nx.Call.of_body Try.func40 rfl en40 Try.ntmps40 rfl (fun Γ hok => ?_)
  unfold slices_Equal_int at h
  refine Wp.seq ?_
  refine Wp.text [0, 1] rfl rfl ?_ -- region 0
  refine TextR.assign rfl ?_
  refine TextR.done (.cons rfl (.cons rfl .nil)) ?_
  refine Wp.seq ?_
  refine Wp.seq ?_
  refine Wp.text [0, 1, 10] rfl rfl ?_ -- region 1
  refine TextR.move rfl ?_
  refine TextR.lenM us25 rfl rfl ?_
  refine TextR.move rfl ?_
  refine TextR.lenM us25 rfl rfl ?_
  refine TextR.int rfl rfl rfl ?_
  refine TextR.done (.cons rfl (.cons rfl (.cons rfl .nil))) ?_
  refine Wp.condM h rfl (fun hc1 h => ?_) (fun hc1 h => ?_)
  · refine Wp.seq ?_
    refine Wp.text [4] rfl rfl ?_ -- region 2
    refine TextR.assign rfl ?_
    refine TextR.done (.cons rfl .nil) ?_
    refine Wp.ret ?_
    obtain rfl := Option.some.inj h
    exact Ret.one rfl (resV_tmp rfl) rfl
  · refine Wp.skip ?_
    refine Wp.seq ?_
    refine Wp.seq ?_
    refine Wp.text [0, 1, 12, 13] rfl rfl ?_ -- region 3
    refine TextR.move rfl ?_
    refine TextR.lenM us25 rfl rfl ?_
    refine TextR.move rfl ?_
    refine TextR.done (.cons rfl (.cons rfl (.cons rfl (.cons rfl .nil)))) ?_
    obtain ⟨z1, hz1, h⟩ := bind_some h
    refine Wp.fragR (fun S => ∃ z3, z1 = .inr z3 ∧ ∃ S', St.Weak ⟨Try.prog, 26, Γ⟩ S S' ∧ S' = ⟨[], []⟩) (fun S => ∃ v, z1 = .inl v ∧ Ret Try.prog Try.f40 (fun r' _ => r' = .c (B v)) .ret S) ?_ ?_ ?_
    · replace h := hz1
      refine Wp.block ?_
      refine Wp.weak (keepW (live := [0, 1, 12, 13]) (.cons rfl (.cons rfl (.cons rfl (.cons rfl .nil))))) ?_
      refine Wp.loop (fun m S => ∃ s13_1, slices_Equal_int_L1 N a0 a1 m s13_1 = some z1 ∧ S = ⟨[(0, .c (.slv (a0.map eI))), (1, .c (.slv (a1.map eI))), (12, .c (I (a0.length : Int))), (13, .c (I s13_1))], []⟩) N ⟨_, h, rfl⟩ ?_
      rintro m1 _ ⟨s13_1, h, rfl⟩
      cases m1 with
      | zero => rw [slices_Equal_int_L1.eq_1] at h; cases h
      | succ m1 =>
      rw [slices_Equal_int_L1.eq_2] at h
      refine Wp.seq ?_
      refine Wp.text [0, 1, 12, 13, 14] rfl rfl ?_ -- region 4
      refine TextR.int rfl rfl rfl ?_
      refine TextR.done (.cons rfl (.cons rfl (.cons rfl (.cons rfl (.cons rfl .nil))))) ?_
      refine Wp.seq ?_
      refine Wp.condM h rfl (fun hc3 h => ?_) (fun hc3 h => ?_)
      · refine Wp.skip ?_
        refine Wp.seq ?_
        refine Wp.block ?_
        refine Wp.seq ?_
        refine Wp.text [0, 1, 5, 12, 13] rfl rfl ?_ -- region 5
        refine TextR.move rfl ?_
        refine TextR.assign rfl ?_
        refine TextR.done (.cons rfl (.cons rfl (.cons rfl (.cons rfl (.cons rfl .nil))))) ?_
        refine Wp.seq ?_
        obtain ⟨x4, hx4, h⟩ := bind_some h
        obtain ⟨x5, hx5, h⟩ := bind_some h
        refine Wp.go true (some ⟨[], []⟩) [] [] [0, 1, 12, 13, 24] mixed rfl rfl (by kernel_rfl) ?_ -- region 6
        refine RunR.move rfl rfl rfl ?_
        refine RunR.move rfl rfl rfl ?_
        refine RunR.indexA se25 rfl rfl rfl rfl rfl hx4 rfl ?_
        refine RunR.load1M tk3 rfl rfl rfl (at_get hx4) rfl ?_
        refine RunR.move rfl rfl rfl ?_
        refine RunR.move rfl rfl rfl ?_
        refine RunR.indexA se25 rfl rfl rfl rfl rfl hx5 rfl ?_
        refine RunR.load1M tk3 rfl rfl rfl (at_get hx5) rfl ?_
        refine RunR.int rfl rfl rfl rfl rfl ?_
        refine RunR.doneQ (.cons rfl (.cons rfl (.cons rfl (.cons rfl (.cons rfl .nil))))) ?_
        refine Wp.condM h rfl (fun hc4 h => ?_) (fun hc4 h => ?_)
        · refine Wp.seq ?_
          refine Wp.text [4] rfl rfl ?_ -- region 7
          refine TextR.assign rfl ?_
          refine TextR.done (.cons rfl .nil) ?_
          refine Wp.ret ?_
          exact ⟨_, (Option.some.inj h).symm, Ret.one rfl (resV_tmp rfl) rfl⟩
        · refine Wp.skip ?_
          refine Wp.text [0, 1, 12, 13] rfl rfl ?_ -- region 8
          refine TextR.int rfl rfl rfl ?_
          refine TextR.move rfl ?_
          refine TextR.done (.cons rfl (.cons rfl (.cons rfl (.cons rfl .nil)))) ?_
          exact ⟨m1, Nat.lt_succ_self _, _, (keepW (live := [0, 1, 12, 13]) (.cons rfl (.cons rfl (.cons rfl (.cons rfl .nil))))), _, h, rfl⟩
      · refine Wp.exit ?_
        exact ⟨_, (Option.some.inj h).symm, _, (keepW (live := []) .nil), rfl⟩
    · rintro _ ⟨z3, rfl, _, hw, rfl⟩
      dsimp only at h
      clear hz1
      refine Wp.weak hw ?_
      refine Wp.seq ?_
      refine Wp.text [4] rfl rfl ?_ -- region 9
      refine TextR.assign rfl ?_
      refine TextR.done (.cons rfl .nil) ?_
      refine Wp.ret ?_
      obtain rfl := Option.some.inj h
      exact Ret.one rfl (resV_tmp rfl) rfl
    · rintro S' ⟨r2, rfl, hR⟩
      dsimp only at h
      obtain rfl := Option.some.inj h
      exact hR
theorem c_slices_Equal_int (N : Nat) (a0 : List Int) (a1 : List Int) (r : Bool) (h : slices_Equal_int N a0 a1 = some r) (H : List Ob) : DCall Try.prog 40 [.c (.slv (a0.map eI)), .c (.slv (a1.map eI))] H (.c (B r)) := DCall.lift (by first | rfl | simp [-List.map_set]) (by first | rfl | simp [-List.map_set]) (fun _ => by simp [-List.map_set]) (w_slices_Equal_int N a0 a1 r h) H
-- narthex/sess.Same$1
theorem w_sess_Same_1 (N : Nat) (a0 : TSess) (a1 : TSess) (r : Bool) (h : sess_Same_1 N a0 a1 = some r) : Nx.Call Try.prog 39 [.agg (eSess a0), .agg (eSess a1)] [] fun r' _ => r' = .c (B r) := by
  refine Nx.Call.of_body Try.func39 rfl en39 Try.ntmps39 rfl (fun Γ hok => ?_)
  unfold sess_Same_1 at h
  refine Wp.seq ?_
  refine Wp.text [2, 3] rfl rfl ?_ -- region 0
  refine TextR.box (cs := [I a0.ID, .slv (a0.Need.map eI), I a0.State, I a0.Age]) 0 rfl rfl rfl rfl .nil ?_
  refine TextR.box (cs := [I a1.ID, .slv (a1.Need.map eI), I a1.State, I a1.Age]) 1 rfl rfl rfl rfl (.cons .nil) ?_
  refine TextR.assign rfl ?_
  refine TextR.done (.cons rfl (.cons rfl .nil)) ?_
  refine Wp.seq ?_
  obtain ⟨y1, hy1, h⟩ := bind_some h
  refine Wp.go false none [[], [], [], [], [], [], [(10, true)], [(10, true)], [(10, true)], [(10, true)], [(10, true)], [], [], [(17, true)], [(17, true)], [(17, true)], [(17, true)], [(17, true)], [], [], [(24, true)], [(24, true)], [(24, true)], [(24, true)], [(24, true)], [], []] [] [4] mixed rfl rfl (by kernel_rfl) ?_ -- region 1
  refine RunR.fieldAddr fo41_0 rfl rfl rfl rfl rfl ?_
  refine RunR.load1 tk3 rfl rfl rfl rfl ?_
  refine RunR.fieldAddr fo41_0 rfl rfl rfl rfl rfl ?_
  refine RunR.load1 tk3 rfl rfl rfl rfl ?_
  refine RunR.int rfl rfl rfl rfl rfl ?_
  refine RunR.move rfl rfl rfl ?_
  refine RunR.fieldAddr fo41_2 rfl rfl rfl rfl rfl ?_
  refine RunR.load1 tk36 rfl rfl rfl rfl ?_
  refine RunR.fieldAddr fo41_2 rfl rfl rfl rfl rfl ?_
  refine RunR.load1 tk36 rfl rfl rfl rfl ?_
  refine RunR.int rfl rfl rfl rfl rfl ?_
  refine RunR.pickAnd rfl rfl rfl rfl ?_
  refine RunR.move rfl rfl rfl ?_
  refine RunR.fieldAddr fo41_3 rfl rfl rfl rfl rfl ?_
  refine RunR.load1 tk3 rfl rfl rfl rfl ?_
  refine RunR.fieldAddr fo41_3 rfl rfl rfl rfl rfl ?_
  refine RunR.load1 tk3 rfl rfl rfl rfl ?_
  refine RunR.int rfl rfl rfl rfl rfl ?_
  refine RunR.pickAnd rfl rfl rfl rfl ?_
  refine RunR.move rfl rfl rfl ?_
  refine RunR.fieldAddr fo41_1 rfl rfl rfl rfl rfl ?_
  refine RunR.load1 tk25 rfl rfl rfl rfl ?_
  refine RunR.fieldAddr fo41_1 rfl rfl rfl rfl rfl ?_
  refine RunR.load1 tk25 rfl rfl rfl rfl ?_
  refine RunR.callG rfl rfl rfl (fun hb H => c_slices_Equal_int N a0.Need a1.Need y1 (ifT hy1 gT hb) H) ?_
  refine RunR.pickAnd rfl rfl rfl rfl ?_
  refine RunR.assign rfl rfl rfl ?_
  refine RunR.doneQ (.cons rfl .nil) ?_
  refine Wp.ret ?_
  obtain rfl := Option.some.inj h
  exact Ret.one rfl (resV_tmp rfl) rfl
theorem c_sess_Same_1 (N : Nat) (a0 : TSess) (a1 : TSess) (r : Bool) (h : sess_Same_1 N a0 a1 = some r) (H : List Ob) : DCall Try.prog 39 [.agg (eSess a0), .agg (eSess a1)] H (.c (B r)) := DCall.lift (by first | rfl | simp [-List.map_set]) (by first | rfl | simp [-List.map_set]) (fun _ => by simp [-List.map_set]) (w_sess_Same_1 N a0 a1 r h) H
-- slices.EqualFunc[[]narthex/api.Sess,[]narthex/api.Sess,narthex/api.Sess,narthex/api.Sess]
theorem w_slices_EqualFunc_Sess (N : Nat) (a0 : List TSess) (a1 : List TSess) (r : Bool) (h : slices_EqualFunc_Sess N a0 a1 = some r) : Nx.Call Try.prog 38 [.c (.slv (a0.map eSess)), .c (.slv (a1.map eSess)), .c (.clo 39 [])] [] fun r' _ => r' = .c (B r) := by
  refine Nx.Call.of_body Try.func38 rfl en38 Try.ntmps38 rfl (fun Γ hok => ?_)
  unfold slices_EqualFunc_Sess at h
  refine Wp.seq ?_
  refine Wp.text [0, 1, 2] rfl rfl ?_ -- region 0
  refine TextR.assign rfl ?_
  refine TextR.done (.cons rfl (.cons rfl (.cons rfl .nil))) ?_
  refine Wp.seq ?_
  refine Wp.seq ?_
  refine Wp.text [0, 1, 2, 14] rfl rfl ?_ -- region 1
  refine TextR.move rfl ?_
  refine TextR.lenM us22 rfl rfl ?_
  refine TextR.move rfl ?_
  refine TextR.lenM us22 rfl rfl ?_
  refine TextR.int rfl rfl rfl ?_
  refine TextR.done (.cons rfl (.cons rfl (.cons rfl (.cons rfl .nil)))) ?_
  refine Wp.condM h rfl (fun hc1 h => ?_) (fun hc1 h => ?_)
  · refine Wp.seq ?_
    refine Wp.text [6] rfl rfl ?_ -- region 2
    refine TextR.assign rfl ?_
    refine TextR.done (.cons rfl .nil) ?_
    refine Wp.ret ?_
    obtain rfl := Option.some.inj h
    exact Ret.one rfl (resV_tmp rfl) rfl
  · refine Wp.skip ?_
    refine Wp.seq ?_
    refine Wp.seq ?_
    refine Wp.text [1, 2, 15, 16, 17] rfl rfl ?_ -- region 3
    refine TextR.move rfl ?_
    refine TextR.lenM us22 rfl rfl ?_
    refine TextR.move rfl ?_
    refine TextR.done (.cons rfl (.cons rfl (.cons rfl (.cons rfl (.cons rfl .nil))))) ?_
    obtain ⟨z1, hz1, h⟩ := bind_some h
    refine Wp.fragR (fun S => ∃ z3, z1 = .inr z3 ∧ ∃ S', St.Weak ⟨Try.prog, 32, Γ⟩ S S' ∧ S' = ⟨[], []⟩) (fun S => ∃ v, z1 = .inl v ∧ Ret Try.prog Try.f38 (fun r' _ => r' = .c (B v)) .ret S) ?_ ?_ ?_
    · replace h := hz1
      refine Wp.block ?_
      refine Wp.weak (keepW (live := [1, 2, 15, 16, 17]) (.cons rfl (.cons rfl (.cons rfl (.cons rfl (.cons rfl .nil)))))) ?_
      refine Wp.loop (fun m S => ∃ s17_1, slices_EqualFunc_Sess_L1 N a0 a1 m s17_1 = some z1 ∧ S = ⟨[(1, .c (.slv (a1.map eSess))), (2, .c (.clo 39 [])), (15, .c (.slv (a0.map eSess))), (16, .c (I (a0.length : Int))), (17, .c (I s17_1))], []⟩) N ⟨_, h, rfl⟩ ?_
      rintro m1 _ ⟨s17_1, h, rfl⟩
      cases m1 with
      | zero => rw [slices_EqualFunc_Sess_L1.eq_1] at h; cases h
      | succ m1 =>
      rw [slices_EqualFunc_Sess_L1.eq_2] at h
      refine Wp.seq ?_
      refine Wp.text [1, 2, 15, 16, 17, 18] rfl rfl ?_ -- region 4
      refine TextR.int rfl rfl rfl ?_
      refine TextR.done (.cons rfl (.cons rfl (.cons rfl (.cons rfl (.cons rfl (.cons rfl .nil)))))) ?_
      refine Wp.seq ?_
      refine Wp.condM h rfl (fun hc3 h => ?_) (fun hc3 h => ?_)
      · refine Wp.skip ?_
        refine Wp.seq ?_
        refine Wp.block ?_
        refine Wp.seq ?_
        obtain ⟨x4, hx4, h⟩ := bind_some h
        refine Wp.text [1, 2, 7, 8, 15, 16, 17] rfl rfl ?_ -- region 5
        refine TextR.move rfl ?_
        refine TextR.indexA se22 rfl rfl rfl hx4 rfl ?_
        refine TextR.loadNM tk41 rfl (at_get hx4) rfl ?_
        refine TextR.alloc 0 zc41 rfl rfl .nil ?_
        refine TextR.assign rfl ?_
        refine TextR.store1 tk41 rfl rfl rfl rfl rfl rfl .zero ?_
        refine TextR.done (.cons rfl (.cons rfl (.cons rfl (.cons rfl (.cons rfl (.cons rfl (.cons rfl .nil))))))) ?_
        refine Wp.seq ?_
        obtain ⟨x5, hx5, h⟩ := bind_some h
        refine Wp.text [1, 2, 8, 9, 15, 16, 17] rfl rfl ?_ -- region 6
        refine TextR.move rfl ?_
        refine TextR.move rfl ?_
        refine TextR.indexA se22 rfl rfl rfl hx5 rfl ?_
        refine TextR.loadNM tk41 rfl (at_get hx5) rfl ?_
        refine TextR.alloc 1 zc41 rfl rfl (.cons .nil) ?_
        refine TextR.store1 tk41 rfl rfl rfl rfl rfl rfl (.succ .zero) ?_
        refine TextR.done (.cons rfl (.cons rfl (.cons rfl (.cons rfl (.cons rfl (.cons rfl (.cons rfl .nil))))))) ?_
        refine Wp.seq ?_
        obtain ⟨y6, hy6, h⟩ := bind_some h
        refine Wp.text [1, 2, 15, 16, 17, 30] rfl rfl ?_ -- region 7
        refine TextR.move rfl ?_
        refine TextR.loadN (cs := [I x4.ID, .slv (x4.Need.map eI), I x4.State, I x4.Age]) tk41 rfl rfl ?_
        refine TextR.loadN (cs := [I x5.ID, .slv (x5.Need.map eI), I x5.State, I x5.Age]) tk41 rfl rfl ?_
        refine TextR.dcall rfl rfl (c_sess_Same_1 N x4 x5 y6 hy6 _) ?_
        refine TextR.not rfl ?_
        refine TextR.done (.cons rfl (.cons rfl (.cons rfl (.cons rfl (.cons rfl (.cons rfl .nil)))))) ?_
        refine Wp.condM h rfl (fun hc4 h => ?_) (fun hc4 h => ?_)
        · refine Wp.seq ?_
          refine Wp.text [6] rfl rfl ?_ -- region 8
          refine TextR.assign rfl ?_
          refine TextR.done (.cons rfl .nil) ?_
          refine Wp.ret ?_
          exact ⟨_, (Option.some.inj h).symm, Ret.one rfl (resV_tmp rfl) rfl⟩
        · refine Wp.skip ?_
          refine Wp.text [1, 2, 15, 16, 17] rfl rfl ?_ -- region 9
          refine TextR.int rfl rfl rfl ?_
          refine TextR.move rfl ?_
          refine TextR.done (.cons rfl (.cons rfl (.cons rfl (.cons rfl (.cons rfl .nil))))) ?_
          exact ⟨m1, Nat.lt_succ_self _, _, (St.Weak.trans (keepW (live := [1, 2, 15, 16, 17]) (.cons rfl (.cons rfl (.cons rfl (.cons rfl (.cons rfl .nil)))))) (pickT (e' := [(1, .c (.slv (a1.map eSess))), (2, .c (.clo 39 [])), (15, .c (.slv (a0.map eSess))), (16, .c (I (a0.length : Int))), (17, .c (I (w64 (s17_1 + 1))))]) (H' := []) [] [0, 0] 0 hok.len.symm rfl rfl (by decide) (by first | rfl | simp [-List.map_set]) (by first | rfl | simp [-List.map_set]) (by first | rfl | simp [-List.map_set]) (by first | rfl | simp [-List.map_set]))), _, h, rfl⟩
      · refine Wp.exit ?_
        exact ⟨_, (Option.some.inj h).symm, _, (keepW (live := []) .nil), rfl⟩
    · rintro _ ⟨z3, rfl, _, hw, rfl⟩
      dsimp only at h
      clear hz1
      refine Wp.weak hw ?_
      refine Wp.seq ?_
      refine Wp.text [6] rfl rfl ?_ -- region 10
      refine TextR.assign rfl ?_
      refine TextR.done (.cons rfl .nil) ?_
      refine Wp.ret ?_
      obtain rfl := Option.some.inj h
      exact Ret.one rfl (resV_tmp rfl) rfl
    · rintro S' ⟨r2, rfl, hR⟩
      dsimp only at h
      obtain rfl := Option.some.inj h
      exact hR
theorem c_slices_EqualFunc_Sess (N : Nat) (a0 : List TSess) (a1 : List TSess) (r : Bool) (h : slices_EqualFunc_Sess N a0 a1 = some r) (H : List Ob) : DCall Try.prog 38 [.c (.slv (a0.map eSess)), .c (.slv (a1.map eSess)), .c (.clo 39 [])] H (.c (B r)) := DCall.lift (by first | rfl | simp [-List.map_set]) (by first | rfl | simp [-List.map_set]) (fun _ => by simp [-List.map_set]) (w_slices_EqualFunc_Sess N a0 a1 r h) H
-- narthex/sess.Same
theorem w_sess_Same (N : Nat) (a0 : TBook) (a1 : TBook) (r : Bool) (h : sess_Same N a0 a1 = some r) : Nx.Call Try.prog 21 [.agg (eBook a0), .agg (eBook a1)] [] fun r' _ => r' = .c (B r) := by
  refine Nx.Call.of_body Try.func21 rfl en21 Try.ntmps21 rfl (fun Γ hok => ?_)
  unfold sess_Same at h
  refine Wp.seq ?_
  refine Wp.text [2, 3] rfl rfl ?_ -- region 0
  refine TextR.box (cs := [I a0.Last, .slv (a0.Sess.map eSess)]) 0 rfl rfl rfl rfl .nil ?_
  refine TextR.box (cs := [I a1.Last, .slv (a1.Sess.map eSess)]) 1 rfl rfl rfl rfl (.cons .nil) ?_
  refine TextR.assign rfl ?_
  refine TextR.done (.cons rfl (.cons rfl .nil)) ?_
  refine Wp.seq ?_
  obtain ⟨y1, hy1, h⟩ := bind_some h
  refine Wp.go false none [[], [], [], [], [], [], [(10, true)], [(10, true)], [(10, true)], [(10, true)], [(10, true)], [], []] [] [4] mixed rfl rfl (by kernel_rfl) ?_ -- region 1
  refine RunR.fieldAddr fo24_0 rfl rfl rfl rfl rfl ?_
  refine RunR.load1 tk3 rfl rfl rfl rfl ?_
  refine RunR.fieldAddr fo24_0 rfl rfl rfl rfl rfl ?_
  refine RunR.load1 tk3 rfl rfl rfl rfl ?_
  refine RunR.int rfl rfl rfl rfl rfl ?_
  refine RunR.move rfl rfl rfl ?_
  refine RunR.fieldAddr fo24_1 rfl rfl rfl rfl rfl ?_
  refine RunR.load1 tk22 rfl rfl rfl rfl ?_
  refine RunR.fieldAddr fo24_1 rfl rfl rfl rfl rfl ?_
  refine RunR.load1 tk22 rfl rfl rfl rfl ?_
  refine RunR.callG rfl rfl rfl (fun hb H => c_slices_EqualFunc_Sess N a0.Sess a1.Sess y1 (ifT hy1 gT hb) H) ?_
  refine RunR.pickAnd rfl rfl rfl rfl ?_
  refine RunR.assign rfl rfl rfl ?_
  refine RunR.doneQ (.cons rfl .nil) ?_
  refine Wp.ret ?_
  obtain rfl := Option.some.inj h
  exact Ret.one rfl (resV_tmp rfl) rfl
theorem c_sess_Same (N : Nat) (a0 : TBook) (a1 : TBook) (r : Bool) (h : sess_Same N a0 a1 = some r) (H : List Ob) : DCall Try.prog 21 [.agg (eBook a0), .agg (eBook a1)] H (.c (B r)) := DCall.lift (by first | rfl | simp [-List.map_set]) (by first | rfl | simp [-List.map_set]) (fun _ => by simp [-List.map_set]) (w_sess_Same N a0 a1 r h) H
-- narthex/narthexlaw17.awake
theorem w_narthexlaw17_awake (N : Nat) (r : Bool) (h : narthexlaw17_awake N = some r) : Nx.Call Try.prog 9 [] [] fun r' _ => r' = .c (B r) := by
  refine Nx.Call.of_body Try.func9 rfl en9 Try.ntmps9 rfl (fun Γ hok => ?_)
  unfold narthexlaw17_awake at h
  refine Wp.seq ?_
  refine Wp.text [] rfl rfl ?_ -- region 0
  refine TextR.assign rfl ?_
  refine TextR.done .nil ?_
  refine Wp.seq ?_
  obtain ⟨y1, hy1, h⟩ := bind_some h
  refine Wp.text [1, 2] rfl rfl ?_ -- region 1
  refine TextR.build cm24 rfl ?_
  refine TextR.buildSlice (rows := [1].map eI) 0 se25 rfl rfl rfl .nil ?_
  refine TextR.weak (keepW (F := ⟨Try.prog, 156, Γ⟩) (live := [23, 24]) (.cons rfl (.cons rfl .nil))) ?_
  refine TextR.weak (freezeW (F := ⟨Try.prog, 156, Γ⟩) (h := 0) (ver := 0) (rows := [1].map eI) (e' := [(23, .agg [I 0, nilS]), (24, .c (.slv ([1].map eI)))]) (H' := [.dead]) rfl (by first | rfl | simp [-List.map_set]) (by first | rfl | simp [-List.map_set])) ?_
  refine TextR.dcall rfl rfl (DCall.nz rfl (c_sess_Open N (⟨0, []⟩ : TBook) 3 [1] y1 hy1 _)) ?_
  refine TextR.move rfl ?_
  refine TextR.extract rfl rfl ?_
  refine TextR.extract rfl rfl ?_
  refine TextR.alloc 1 zc24 rfl rfl (.cons .nil) ?_
  refine TextR.store1 tk24 rfl rfl rfl rfl rfl rfl (.succ .zero) ?_
  refine TextR.assign rfl ?_
  refine TextR.done (.cons rfl (.cons rfl .nil)) ?_
  refine Wp.seq ?_
  obtain ⟨y2, hy2, h⟩ := bind_some h
  refine Wp.text [1, 2, 3] rfl rfl ?_ -- region 2
  refine TextR.loadN (cs := [I y1.1.Last, .slv (y1.1.Sess.map eSess)]) tk24 rfl rfl ?_
  refine TextR.buildSlice (rows := [2, 1, 2].map eI) 2 se25 rfl rfl rfl (.cons (.cons .nil)) ?_
  refine TextR.weak (keepW (F := ⟨Try.prog, 156, Γ⟩) (live := [1, 2, 29, 30]) (.cons rfl (.cons rfl (.cons rfl (.cons rfl .nil))))) ?_
  refine TextR.weak (freezeW (F := ⟨Try.prog, 156, Γ⟩) (h := 2) (ver := 0) (rows := [2, 1, 2].map eI) (e' := [(1, .c (.ptr 1 0 0 0)), (2, .c (I y1.2)), (29, .agg [I y1.1.Last, .slv (y1.1.Sess.map eSess)]), (30, .c (.slv ([2, 1, 2].map eI)))]) (H' := [.dead, .live 0 2 [[I y1.1.Last, .slv (y1.1.Sess.map eSess)]], .dead]) rfl (by first | rfl | simp [-List.map_set]) (by first | rfl | simp [-List.map_set])) ?_
  refine TextR.dcall rfl rfl (c_sess_Open N y1.1 5 [2, 1, 2] y2 hy2 _) ?_
  refine TextR.move rfl ?_
  refine TextR.extract rfl rfl ?_
  refine TextR.extract rfl rfl ?_
  refine TextR.store1 tk24 rfl rfl rfl rfl rfl rfl (.succ .zero) ?_
  refine TextR.assign rfl ?_
  refine TextR.done (.cons rfl (.cons rfl (.cons rfl .nil))) ?_
  refine Wp.seq ?_
  obtain ⟨y3, hy3, h⟩ := bind_some h
  refine Wp.text [2, 3, 4, 5, 6] rfl rfl ?_ -- region 3
  refine TextR.loadN (cs := [I y2.1.Last, .slv (y2.1.Sess.map eSess)]) tk24 rfl rfl ?_
  refine TextR.dcall rfl rfl (c_sess_Grant N y2.1 y3 hy3 _) ?_
  refine TextR.move rfl ?_
  refine TextR.extract rfl rfl ?_
  refine TextR.extract rfl rfl ?_
  refine TextR.extract rfl rfl ?_
  refine TextR.alloc 3 zc24 rfl rfl (.cons (.cons (.cons .nil))) ?_
  refine TextR.store1 tk24 rfl rfl rfl rfl rfl rfl (.succ (.succ (.succ .zero))) ?_
  refine TextR.assign rfl ?_
  refine TextR.assign rfl ?_
  refine TextR.done (.cons rfl (.cons rfl (.cons rfl (.cons rfl (.cons rfl .nil))))) ?_
  refine Wp.seq ?_
  obtain ⟨y4, hy4, h⟩ := bind_some h
  refine Wp.text [2, 3, 4, 5, 6, 7, 8] rfl rfl ?_ -- region 4
  refine TextR.loadN (cs := [I y3.1.Last, .slv (y3.1.Sess.map eSess)]) tk24 rfl rfl ?_
  refine TextR.dcall rfl rfl (c_sess_Poll N y3.1 3 y4 hy4 _) ?_
  refine TextR.move rfl ?_
  refine TextR.extract rfl rfl ?_
  refine TextR.extract rfl rfl ?_
  refine TextR.assign rfl ?_
  refine TextR.assign rfl ?_
  refine TextR.done (.cons rfl (.cons rfl (.cons rfl (.cons rfl (.cons rfl (.cons rfl (.cons rfl .nil))))))) ?_
  refine Wp.seq ?_
  obtain ⟨y5, hy5, h⟩ := bind_some h
  refine Wp.text [2, 3, 4, 5, 6, 7, 8, 9, 10] rfl rfl ?_ -- region 5
  refine TextR.loadN (cs := [I y3.1.Last, .slv (y3.1.Sess.map eSess)]) tk24 rfl rfl ?_
  refine TextR.dcall rfl rfl (c_sess_Release N y3.1 3 y5 hy5 _) ?_
  refine TextR.move rfl ?_
  refine TextR.extract rfl rfl ?_
  refine TextR.extract rfl rfl ?_
  refine TextR.alloc 4 zc24 rfl rfl (.cons (.cons (.cons (.cons .nil)))) ?_
  refine TextR.store1 tk24 rfl rfl rfl rfl rfl rfl (.succ (.succ (.succ (.succ .zero)))) ?_
  refine TextR.assign rfl ?_
  refine TextR.done (.cons rfl (.cons rfl (.cons rfl (.cons rfl (.cons rfl (.cons rfl (.cons rfl (.cons rfl (.cons rfl .nil))))))))) ?_
  refine Wp.seq ?_
  obtain ⟨y6, hy6, h⟩ := bind_some h
  refine Wp.text [2, 3, 4, 5, 6, 7, 8, 9, 10, 12, 13] rfl rfl ?_ -- region 6
  refine TextR.loadN (cs := [I y5.1.Last, .slv (y5.1.Sess.map eSess)]) tk24 rfl rfl ?_
  refine TextR.dcall rfl rfl (c_sess_Grant N y5.1 y6 hy6 _) ?_
  refine TextR.move rfl ?_
  refine TextR.extract rfl rfl ?_
  refine TextR.extract rfl rfl ?_
  refine TextR.extract rfl rfl ?_
  refine TextR.alloc 5 zc24 rfl rfl (.cons (.cons (.cons (.cons (.cons .nil))))) ?_
  refine TextR.store1 tk24 rfl rfl rfl rfl rfl rfl (.succ (.succ (.succ (.succ (.succ .zero))))) ?_
  refine TextR.assign rfl ?_
  refine TextR.assign rfl ?_
  refine TextR.done (.cons rfl (.cons rfl (.cons rfl (.cons rfl (.cons rfl (.cons rfl (.cons rfl (.cons rfl (.cons rfl (.cons rfl (.cons rfl .nil))))))))))) ?_
  refine Wp.seq ?_
  obtain ⟨y7, hy7, h⟩ := bind_some h
  refine Wp.text [2, 3, 4, 5, 6, 7, 8, 9, 10, 12, 13, 14, 15, 16] rfl rfl ?_ -- region 7
  refine TextR.loadN (cs := [I y3.1.Last, .slv (y3.1.Sess.map eSess)]) tk24 rfl rfl ?_
  refine TextR.dcall rfl rfl (c_sess_Tick N y3.1 1 y7 hy7 _) ?_
  refine TextR.move rfl ?_
  refine TextR.extract rfl rfl ?_
  refine TextR.extract rfl rfl ?_
  refine TextR.extract rfl rfl ?_
  refine TextR.alloc 6 zc24 rfl rfl (.cons (.cons (.cons (.cons (.cons (.cons .nil)))))) ?_
  refine TextR.store1 tk24 rfl rfl rfl rfl rfl rfl (.succ (.succ (.succ (.succ (.succ (.succ .zero)))))) ?_
  refine TextR.assign rfl ?_
  refine TextR.assign rfl ?_
  refine TextR.done (.cons rfl (.cons rfl (.cons rfl (.cons rfl (.cons rfl (.cons rfl (.cons rfl (.cons rfl (.cons rfl (.cons rfl (.cons rfl (.cons rfl (.cons rfl (.cons rfl .nil)))))))))))))) ?_
  refine Wp.seq ?_
  obtain ⟨y8, hy8, h⟩ := bind_some h
  refine Wp.text [2, 3, 4, 5, 6, 7, 8, 9, 10, 12, 13, 14, 15, 16, 17, 18, 19] rfl rfl ?_ -- region 8
  refine TextR.loadN (cs := [I y3.1.Last, .slv (y3.1.Sess.map eSess)]) tk24 rfl rfl ?_
  refine TextR.dcall rfl rfl (c_sess_Gone N y3.1 2 y8 hy8 _) ?_
  refine TextR.move rfl ?_
  refine TextR.extract rfl rfl ?_
  refine TextR.extract rfl rfl ?_
  refine TextR.extract rfl rfl ?_
  refine TextR.alloc 7 zc24 rfl rfl (.cons (.cons (.cons (.cons (.cons (.cons (.cons .nil))))))) ?_
  refine TextR.store1 tk24 rfl rfl rfl rfl rfl rfl (.succ (.succ (.succ (.succ (.succ (.succ (.succ .zero))))))) ?_
  refine TextR.assign rfl ?_
  refine TextR.assign rfl ?_
  refine TextR.done (.cons rfl (.cons rfl (.cons rfl (.cons rfl (.cons rfl (.cons rfl (.cons rfl (.cons rfl (.cons rfl (.cons rfl (.cons rfl (.cons rfl (.cons rfl (.cons rfl (.cons rfl (.cons rfl (.cons rfl .nil))))))))))))))))) ?_
  refine Wp.seq ?_
  obtain ⟨y9, hy9, h⟩ := bind_some h
  refine Wp.text [2, 3, 4, 5, 6, 7, 8, 9, 10, 12, 13, 14, 15, 16, 17, 18, 19, 21] rfl rfl ?_ -- region 9
  refine TextR.loadN (cs := [I y3.1.Last, .slv (y3.1.Sess.map eSess)]) tk24 rfl rfl ?_
  refine TextR.dcall rfl rfl (c_sess_Cancel N y3.1 3 y9 hy9 _) ?_
  refine TextR.move rfl ?_
  refine TextR.extract rfl rfl ?_
  refine TextR.extract rfl rfl ?_
  refine TextR.alloc 8 zc24 rfl rfl (.cons (.cons (.cons (.cons (.cons (.cons (.cons (.cons .nil)))))))) ?_
  refine TextR.store1 tk24 rfl rfl rfl rfl rfl rfl (.succ (.succ (.succ (.succ (.succ (.succ (.succ (.succ .zero)))))))) ?_
  refine TextR.assign rfl ?_
  refine TextR.done (.cons rfl (.cons rfl (.cons rfl (.cons rfl (.cons rfl (.cons rfl (.cons rfl (.cons rfl (.cons rfl (.cons rfl (.cons rfl (.cons rfl (.cons rfl (.cons rfl (.cons rfl (.cons rfl (.cons rfl (.cons rfl .nil)))))))))))))))))) ?_
  refine Wp.seq ?_
  refine Wp.text [0] rfl rfl ?_ -- region 10 SPLIT
  refine TextR.move rfl ?_
  refine TextR.int rfl rfl rfl ?_
  refine TextR.move rfl ?_
  refine TextR.byBool 75 rfl (fun hv => ?_) (fun hv => ?_)
  · rw [if_pos (by simpa using hv)] at h
    refine TextR.gmove rfl rfl ?_
    refine TextR.gint rfl rfl rfl rfl ?_
    refine TextR.pickAnd rfl rfl ?_
    refine TextR.move rfl ?_
    refine TextR.byBool 79 rfl (fun hv => ?_) (fun hv => ?_)
    · rw [if_pos (by simpa using hv)] at h
      refine TextR.gmove rfl rfl ?_
      refine TextR.gint rfl rfl rfl rfl ?_
      refine TextR.pickAnd rfl rfl ?_
      refine TextR.move rfl ?_
      refine TextR.byBool 83 rfl (fun hv => ?_) (fun hv => ?_)
      · rw [if_pos (by simpa using hv)] at h
        refine TextR.gmove rfl rfl ?_
        refine TextR.gint rfl rfl rfl rfl ?_
        refine TextR.pickAnd rfl rfl ?_
        refine TextR.move rfl ?_
        refine TextR.byBool 87 rfl (fun hv => ?_) (fun hv => ?_)
        · rw [if_pos (by simpa using hv)] at h
          refine TextR.gmove rfl rfl ?_
          refine TextR.gint rfl rfl rfl rfl ?_
          refine TextR.pickAnd rfl rfl ?_
          refine TextR.move rfl ?_
          refine TextR.byBool 91 rfl (fun hv => ?_) (fun hv => ?_)
          · rw [if_pos (by simpa using hv)] at h
            refine TextR.gmove rfl rfl ?_
            refine TextR.gint rfl rfl rfl rfl ?_
            refine TextR.pickAnd rfl rfl ?_
            refine TextR.move rfl ?_
            refine TextR.byBool 95 rfl (fun hv => ?_) (fun hv => ?_)
            · rw [if_pos (by simpa using hv)] at h
              refine TextR.gmove rfl rfl ?_
              refine TextR.gint rfl rfl rfl rfl ?_
              refine TextR.pickAnd rfl rfl ?_
              refine TextR.move rfl ?_
              refine TextR.byBool 99 rfl (fun hv => ?_) (fun hv => ?_)
              · rw [if_pos (by simpa using hv)] at h
                refine TextR.gmove rfl rfl ?_
                refine TextR.gint rfl rfl rfl rfl ?_
                refine TextR.pickAnd rfl rfl ?_
                refine TextR.move rfl ?_
                refine TextR.byBool 103 rfl (fun hv => ?_) (fun hv => ?_)
                · rw [if_pos (by simpa using hv)] at h
                  refine TextR.gmove rfl rfl ?_
                  refine TextR.gint rfl rfl rfl rfl ?_
                  refine TextR.pickAnd rfl rfl ?_
                  refine TextR.move rfl ?_
                  refine TextR.byBool 107 rfl (fun hv => ?_) (fun hv => ?_)
                  · rw [if_pos (by simpa using hv)] at h
                    refine TextR.gmove rfl rfl ?_
                    refine TextR.gint rfl rfl rfl rfl ?_
                    refine TextR.pickAnd rfl rfl ?_
                    refine TextR.move rfl ?_
                    refine TextR.byBool 111 rfl (fun hv => ?_) (fun hv => ?_)
                    · rw [if_pos (by simpa using hv)] at h
                      refine TextR.gmove rfl rfl ?_
                      refine TextR.gint rfl rfl rfl rfl ?_
                      refine TextR.pickAnd rfl rfl ?_
                      refine TextR.move rfl ?_
                      refine TextR.byBool 115 rfl (fun hv => ?_) (fun hv => ?_)
                      · rw [if_pos (by simpa using hv)] at h
                        refine TextR.gfieldAddr rfl fo24_1 rfl rfl rfl ?_
                        refine TextR.gload1 rfl tk22 rfl rfl ?_
                        refine TextR.glenM rfl us22 rfl rfl ?_
                        refine TextR.gint rfl rfl rfl rfl ?_
                        refine TextR.pickAnd rfl rfl ?_
                        refine TextR.move rfl ?_
                        refine TextR.byBool 121 rfl (fun hv => ?_) (fun hv => ?_)
                        · rw [if_pos (by simpa using hv)] at h
                          refine TextR.gmove rfl rfl ?_
                          refine TextR.gint rfl rfl rfl rfl ?_
                          refine TextR.pickAnd rfl rfl ?_
                          refine TextR.move rfl ?_
                          refine TextR.byBool 125 rfl (fun hv => ?_) (fun hv => ?_)
                          · rw [if_pos (by simpa using hv)] at h
                            refine TextR.gfieldAddr rfl fo24_1 rfl rfl rfl ?_
                            refine TextR.gload1 rfl tk22 rfl rfl ?_
                            refine TextR.glenM rfl us22 rfl rfl ?_
                            refine TextR.gint rfl rfl rfl rfl ?_
                            refine TextR.pickAnd rfl rfl ?_
                            refine TextR.move rfl ?_
                            refine TextR.byBool 131 rfl (fun hv => ?_) (fun hv => ?_)
                            · rw [if_pos (by simpa using hv)] at h
                              refine TextR.gmove rfl rfl ?_
                              refine TextR.gbuildSlice rfl (rows := [5].map eI) 9 se25 rfl rfl rfl (.cons (.cons (.cons (.cons (.cons (.cons (.cons (.cons (.cons .nil))))))))) ?_
                              obtain ⟨y10, hy10, h⟩ := bind_some h
                              refine TextR.dcallG rfl rfl rfl (DCall.borrow (fs := [.c (.slv (y8.2.1.map eI)), .c (.slv ([5].map eI))]) (by simp [-List.map_set, obj, List.take_of_length_le]) (by first | rfl | simp [-List.map_set]) rfl (w_narthexref01_Same N y8.2.1 [5] y10 hy10)) ?_
                              refine TextR.pickAnd rfl rfl ?_
                              refine TextR.move rfl ?_
                              refine TextR.byBool 136 rfl (fun hv => ?_) (fun hv => ?_)
                              · rw [if_pos (by simpa using hv)] at h
                                refine TextR.gmove rfl rfl ?_
                                refine TextR.gint rfl rfl rfl rfl ?_
                                refine TextR.pickAnd rfl rfl ?_
                                refine TextR.move rfl ?_
                                refine TextR.byBool 140 rfl (fun hv => ?_) (fun hv => ?_)
                                · rw [if_pos (by simpa using hv)] at h
                                  refine TextR.gloadN rfl (cs := [I y3.1.Last, .slv (y3.1.Sess.map eSess)]) tk24 rfl rfl ?_
                                  obtain ⟨y11, hy11, h⟩ := bind_some h
                                  refine TextR.dcallG rfl rfl rfl (c_sess_Check N y3.1 y11 hy11 _) ?_
                                  refine TextR.gint rfl rfl rfl rfl ?_
                                  refine TextR.pickAnd rfl rfl ?_
                                  refine TextR.move rfl ?_
                                  refine TextR.byBool 145 rfl (fun hv => ?_) (fun hv => ?_)
                                  · rw [if_pos (by simpa using hv)] at h
                                    refine TextR.gloadN rfl (cs := [I y3.1.Last, .slv (y3.1.Sess.map eSess)]) tk24 rfl rfl ?_
                                    refine TextR.gloadN rfl (cs := [I y3.1.Last, .slv (y3.1.Sess.map eSess)]) tk24 rfl rfl ?_
                                    obtain ⟨y12, hy12, h⟩ := bind_some h
                                    refine TextR.dcallG rfl rfl rfl (c_sess_Same N y3.1 y3.1 y12 hy12 _) ?_
                                    refine TextR.pickAnd rfl rfl ?_
                                    refine TextR.move rfl ?_
                                    refine TextR.byBool 150 rfl (fun hv => ?_) (fun hv => ?_)
                                    · rw [if_pos (by simpa using hv)] at h
                                      refine TextR.gloadN rfl (cs := [I y3.1.Last, .slv (y3.1.Sess.map eSess)]) tk24 rfl rfl ?_
                                      refine TextR.gloadN rfl (cs := [I y5.1.Last, .slv (y5.1.Sess.map eSess)]) tk24 rfl rfl ?_
                                      obtain ⟨y13, hy13, h⟩ := bind_some h
                                      refine TextR.dcallG rfl rfl rfl (c_sess_Same N y3.1 y5.1 y13 hy13 _) ?_
                                      refine TextR.gnot rfl rfl ?_
                                      refine TextR.pickAnd rfl rfl ?_
                                      refine TextR.assign rfl ?_
                                      refine TextR.done (.cons rfl .nil) ?_
                                      refine Wp.ret ?_
                                      obtain rfl := Option.some.inj h
                                      exact Ret.one rfl (resV_tmp rfl) rfl
                                    · rw [if_neg (by simpa using hv)] at h
                                      refine TextR.off rfl ?_
                                      refine TextR.off rfl ?_
                                      refine TextR.off rfl ?_
                                      refine TextR.off rfl ?_
                                      refine TextR.pickAnd0 rfl rfl ?_
                                      refine TextR.assign rfl ?_
                                      refine TextR.done (.cons rfl .nil) ?_
                                      refine Wp.ret ?_
                                      obtain rfl := Option.some.inj h
                                      exact Ret.one rfl (resV_tmp rfl) rfl
                                  · rw [if_neg (by simpa using hv)] at h
                                    refine TextR.off rfl ?_
                                    refine TextR.off rfl ?_
                                    refine TextR.off rfl ?_
                                    refine TextR.pickAnd0 rfl rfl ?_
                                    refine TextR.move rfl ?_
                                    refine TextR.off rfl ?_
                                    refine TextR.off rfl ?_
                                    refine TextR.off rfl ?_
                                    refine TextR.off rfl ?_
                                    refine TextR.pickAnd0 rfl rfl ?_
                                    refine TextR.assign rfl ?_
                                    refine TextR.done (.cons rfl .nil) ?_
                                    refine Wp.ret ?_
                                    obtain rfl := Option.some.inj h
                                    exact Ret.one rfl (resV_tmp rfl) rfl
                                · rw [if_neg (by simpa using hv)] at h
                                  refine TextR.off rfl ?_
                                  refine TextR.off rfl ?_
                                  refine TextR.off rfl ?_
                                  refine TextR.pickAnd0 rfl rfl ?_
                                  refine TextR.move rfl ?_
                                  refine TextR.off rfl ?_
                                  refine TextR.off rfl ?_
                                  refine TextR.off rfl ?_
                                  refine TextR.pickAnd0 rfl rfl ?_
                                  refine TextR.move rfl ?_
                                  refine TextR.off rfl ?_
                                  refine TextR.off rfl ?_
                                  refine TextR.off rfl ?_
                                  refine TextR.off rfl ?_
                                  refine TextR.pickAnd0 rfl rfl ?_
                                  refine TextR.assign rfl ?_
                                  refine TextR.done (.cons rfl .nil) ?_
                                  refine Wp.ret ?_
                                  obtain rfl := Option.some.inj h
                                  exact Ret.one rfl (resV_tmp rfl) rfl
                              · rw [if_neg (by simpa using hv)] at h
                                refine TextR.off rfl ?_
                                refine TextR.off rfl ?_
                                refine TextR.pickAnd0 rfl rfl ?_
                                refine TextR.move rfl ?_
                                refine TextR.off rfl ?_
                                refine TextR.off rfl ?_
                                refine TextR.off rfl ?_
                                refine TextR.pickAnd0 rfl rfl ?_
                                refine TextR.move rfl ?_
                                refine TextR.off rfl ?_
                                refine TextR.off rfl ?_
                                refine TextR.off rfl ?_
                                refine TextR.pickAnd0 rfl rfl ?_
                                refine TextR.move rfl ?_
                                refine TextR.off rfl ?_
                                refine TextR.off rfl ?_
                                refine TextR.off rfl ?_
                                refine TextR.off rfl ?_
                                refine TextR.pickAnd0 rfl rfl ?_
                                refine TextR.assign rfl ?_
                                refine TextR.done (.cons rfl .nil) ?_
                                refine Wp.ret ?_
                                obtain rfl := Option.some.inj h
                                exact Ret.one rfl (resV_tmp rfl) rfl
                            · rw [if_neg (by simpa using hv)] at h
                              refine TextR.off rfl ?_
                              refine TextR.off rfl ?_
                              refine TextR.off rfl ?_
                              refine TextR.pickAnd0 rfl rfl ?_
                              refine TextR.move rfl ?_
                              refine TextR.off rfl ?_
                              refine TextR.off rfl ?_
                              refine TextR.pickAnd0 rfl rfl ?_
                              refine TextR.move rfl ?_
                              refine TextR.off rfl ?_
                              refine TextR.off rfl ?_
                              refine TextR.off rfl ?_
                              refine TextR.pickAnd0 rfl rfl ?_
                              refine TextR.move rfl ?_
                              refine TextR.off rfl ?_
                              refine TextR.off rfl ?_
                              refine TextR.off rfl ?_
                              refine TextR.pickAnd0 rfl rfl ?_
                              refine TextR.move rfl ?_
                              refine TextR.off rfl ?_
                              refine TextR.off rfl ?_
                              refine TextR.off rfl ?_
                              refine TextR.off rfl ?_
                              refine TextR.pickAnd0 rfl rfl ?_
                              refine TextR.assign rfl ?_
                              refine TextR.done (.cons rfl .nil) ?_
                              refine Wp.ret ?_
                              obtain rfl := Option.some.inj h
                              exact Ret.one rfl (resV_tmp rfl) rfl
                          · rw [if_neg (by simpa using hv)] at h
                            refine TextR.off rfl ?_
                            refine TextR.off rfl ?_
                            refine TextR.off rfl ?_
                            refine TextR.off rfl ?_
                            refine TextR.pickAnd0 rfl rfl ?_
                            refine TextR.move rfl ?_
                            refine TextR.off rfl ?_
                            refine TextR.off rfl ?_
                            refine TextR.off rfl ?_
                            refine TextR.pickAnd0 rfl rfl ?_
                            refine TextR.move rfl ?_
                            refine TextR.off rfl ?_
                            refine TextR.off rfl ?_
                            refine TextR.pickAnd0 rfl rfl ?_
                            refine TextR.move rfl ?_
                            refine TextR.off rfl ?_
                            refine TextR.off rfl ?_
                            refine TextR.off rfl ?_
                            refine TextR.pickAnd0 rfl rfl ?_
                            refine TextR.move rfl ?_
                            refine TextR.off rfl ?_
                            refine TextR.off rfl ?_
                            refine TextR.off rfl ?_
                            refine TextR.pickAnd0 rfl rfl ?_
                            refine TextR.move rfl ?_
                            refine TextR.off rfl ?_
                            refine TextR.off rfl ?_
                            refine TextR.off rfl ?_
                            refine TextR.off rfl ?_
                            refine TextR.pickAnd0 rfl rfl ?_
                            refine TextR.assign rfl ?_
                            refine TextR.done (.cons rfl .nil) ?_
                            refine Wp.ret ?_
                            obtain rfl := Option.some.inj h
                            exact Ret.one rfl (resV_tmp rfl) rfl
                        · rw [if_neg (by simpa using hv)] at h
                          refine TextR.off rfl ?_
                          refine TextR.off rfl ?_
                          refine TextR.pickAnd0 rfl rfl ?_
                          refine TextR.move rfl ?_
                          refine TextR.off rfl ?_
                          refine TextR.off rfl ?_
                          refine TextR.off rfl ?_
                          refine TextR.off rfl ?_
                          refine TextR.pickAnd0 rfl rfl ?_
                          refine TextR.move rfl ?_
                          refine TextR.off rfl ?_
                          refine TextR.off rfl ?_
                          refine TextR.off rfl ?_
                          refine TextR.pickAnd0 rfl rfl ?_
                          refine TextR.move rfl ?_
                          refine TextR.off rfl ?_
                          refine TextR.off rfl ?_
                          refine TextR.pickAnd0 rfl rfl ?_
                          refine TextR.move rfl ?_
                          refine TextR.off rfl ?_
                          refine TextR.off rfl ?_
                          refine TextR.off rfl ?_
                          refine TextR.pickAnd0 rfl rfl ?_
                          refine TextR.move rfl ?_
                          refine TextR.off rfl ?_
                          refine TextR.off rfl ?_
                          refine TextR.off rfl ?_
                          refine TextR.pickAnd0 rfl rfl ?_
                          refine TextR.move rfl ?_
                          refine TextR.off rfl ?_
                          refine TextR.off rfl ?_
                          refine TextR.off rfl ?_
                          refine TextR.off rfl ?_
                          refine TextR.pickAnd0 rfl rfl ?_
                          refine TextR.assign rfl ?_
                          refine TextR.done (.cons rfl .nil) ?_
                          refine Wp.ret ?_
                          obtain rfl := Option.some.inj h
                          exact Ret.one rfl (resV_tmp rfl) rfl
                      · rw [if_neg (by simpa using hv)] at h
                        refine TextR.off rfl ?_
                        refine TextR.off rfl ?_
                        refine TextR.off rfl ?_
                        refine TextR.off rfl ?_
                        refine TextR.pickAnd0 rfl rfl ?_
                        refine TextR.move rfl ?_
                        refine TextR.off rfl ?_
                        refine TextR.off rfl ?_
                        refine TextR.pickAnd0 rfl rfl ?_
                        refine TextR.move rfl ?_
                        refine TextR.off rfl ?_
                        refine TextR.off rfl ?_
                        refine TextR.off rfl ?_
                        refine TextR.off rfl ?_
                        refine TextR.pickAnd0 rfl rfl ?_
                        refine TextR.move rfl ?_
                        refine TextR.off rfl ?_
                        refine TextR.off rfl ?_
                        refine TextR.off rfl ?_
                        refine TextR.pickAnd0 rfl rfl ?_
                        refine TextR.move rfl ?_
                        refine TextR.off rfl ?_
                        refine TextR.off rfl ?_
                        refine TextR.pickAnd0 rfl rfl ?_
                        refine TextR.move rfl ?_
                        refine TextR.off rfl ?_
                        refine TextR.off rfl ?_
                        refine TextR.off rfl ?_
                        refine TextR.pickAnd0 rfl rfl ?_
                        refine TextR.move rfl ?_
                        refine TextR.off rfl ?_
                        refine TextR.off rfl ?_
                        refine TextR.off rfl ?_
                        refine TextR.pickAnd0 rfl rfl ?_
                        refine TextR.move rfl ?_
                        refine TextR.off rfl ?_
                        refine TextR.off rfl ?_
                        refine TextR.off rfl ?_
                        refine TextR.off rfl ?_
                        refine TextR.pickAnd0 rfl rfl ?_
                        refine TextR.assign rfl ?_
                        refine TextR.done (.cons rfl .nil) ?_
                        refine Wp.ret ?_
                        obtain rfl := Option.some.inj h
                        exact Ret.one rfl (resV_tmp rfl) rfl
                    · rw [if_neg (by simpa using hv)] at h
                      refine TextR.off rfl ?_
                      refine TextR.off rfl ?_
                      refine TextR.pickAnd0 rfl rfl ?_
                      refine TextR.move rfl ?_
                      refine TextR.off rfl ?_
                      refine TextR.off rfl ?_
                      refine TextR.off rfl ?_
                      refine TextR.off rfl ?_
                      refine TextR.pickAnd0 rfl rfl ?_
                      refine TextR.move rfl ?_
                      refine TextR.off rfl ?_
                      refine TextR.off rfl ?_
                      refine TextR.pickAnd0 rfl rfl ?_
                      refine TextR.move rfl ?_
                      refine TextR.off rfl ?_
                      refine TextR.off rfl ?_
                      refine TextR.off rfl ?_
                      refine TextR.off rfl ?_
                      refine TextR.pickAnd0 rfl rfl ?_
                      refine TextR.move rfl ?_
                      refine TextR.off rfl ?_
                      refine TextR.off rfl ?_
                      refine TextR.off rfl ?_
                      refine TextR.pickAnd0 rfl rfl ?_
                      refine TextR.move rfl ?_
                      refine TextR.off rfl ?_
                      refine TextR.off rfl ?_
                      refine TextR.pickAnd0 rfl rfl ?_
                      refine TextR.move rfl ?_
                      refine TextR.off rfl ?_
                      refine TextR.off rfl ?_
                      refine TextR.off rfl ?_
                      refine TextR.pickAnd0 rfl rfl ?_
                      refine TextR.move rfl ?_
                      refine TextR.off rfl ?_
                      refine TextR.off rfl ?_
                      refine TextR.off rfl ?_
                      refine TextR.pickAnd0 rfl rfl ?_
                      refine TextR.move rfl ?_
                      refine TextR.off rfl ?_
                      refine TextR.off rfl ?_
                      refine TextR.off rfl ?_
                      refine TextR.off rfl ?_
                      refine TextR.pickAnd0 rfl rfl ?_
                      refine TextR.assign rfl ?_
                      refine TextR.done (.cons rfl .nil) ?_
                      refine Wp.ret ?_
                      obtain rfl := Option.some.inj h
                      exact Ret.one rfl (resV_tmp rfl) rfl
                  · rw [if_neg (by simpa using hv)] at h
                    refine TextR.off rfl ?_
                    refine TextR.off rfl ?_
                    refine TextR.pickAnd0 rfl rfl ?_
                    refine TextR.move rfl ?_
                    refine TextR.off rfl ?_
                    refine TextR.off rfl ?_
                    refine TextR.pickAnd0 rfl rfl ?_
                    refine TextR.move rfl ?_
                    refine TextR.off rfl ?_
                    refine TextR.off rfl ?_
                    refine TextR.off rfl ?_
                    refine TextR.off rfl ?_
                    refine TextR.pickAnd0 rfl rfl ?_
                    refine TextR.move rfl ?_
                    refine TextR.off rfl ?_
                    refine TextR.off rfl ?_
                    refine TextR.pickAnd0 rfl rfl ?_
                    refine TextR.move rfl ?_
                    refine TextR.off rfl ?_
                    refine TextR.off rfl ?_
                    refine TextR.off rfl ?_
                    refine TextR.off rfl ?_
                    refine TextR.pickAnd0 rfl rfl ?_
                    refine TextR.move rfl ?_
                    refine TextR.off rfl ?_
                    refine TextR.off rfl ?_
                    refine TextR.off rfl ?_
                    refine TextR.pickAnd0 rfl rfl ?_
                    refine TextR.move rfl ?_
                    refine TextR.off rfl ?_
                    refine TextR.off rfl ?_
                    refine TextR.pickAnd0 rfl rfl ?_
                    refine TextR.move rfl ?_
                    refine TextR.off rfl ?_
                    refine TextR.off rfl ?_
                    refine TextR.off rfl ?_
                    refine TextR.pickAnd0 rfl rfl ?_
                    refine TextR.move rfl ?_
                    refine TextR.off rfl ?_
                    refine TextR.off rfl ?_
                    refine TextR.off rfl ?_
                    refine TextR.pickAnd0 rfl rfl ?_
                    refine TextR.move rfl ?_
                    refine TextR.off rfl ?_
                    refine TextR.off rfl ?_
                    refine TextR.off rfl ?_
                    refine TextR.off rfl ?_
                    refine TextR.pickAnd0 rfl rfl ?_
                    refine TextR.assign rfl ?_
                    refine TextR.done (.cons rfl .nil) ?_
                    refine Wp.ret ?_
                    obtain rfl := Option.some.inj h
                    exact Ret.one rfl (resV_tmp rfl) rfl
                · rw [if_neg (by simpa using hv)] at h
                  refine TextR.off rfl ?_
                  refine TextR.off rfl ?_
                  refine TextR.pickAnd0 rfl rfl ?_
                  refine TextR.move rfl ?_
                  refine TextR.off rfl ?_
                  refine TextR.off rfl ?_
                  refine TextR.pickAnd0 rfl rfl ?_
                  refine TextR.move rfl ?_
                  refine TextR.off rfl ?_
                  refine TextR.off rfl ?_
                  refine TextR.pickAnd0 rfl rfl ?_
                  refine TextR.move rfl ?_
                  refine TextR.off rfl ?_
                  refine TextR.off rfl ?_
                  refine TextR.off rfl ?_
                  refine TextR.off rfl ?_
                  refine TextR.pickAnd0 rfl rfl ?_
                  refine TextR.move rfl ?_
                  refine TextR.off rfl ?_
                  refine TextR.off rfl ?_
                  refine TextR.pickAnd0 rfl rfl ?_
                  refine TextR.move rfl ?_
                  refine TextR.off rfl ?_
                  refine TextR.off rfl ?_
                  refine TextR.off rfl ?_
                  refine TextR.off rfl ?_
                  refine TextR.pickAnd0 rfl rfl ?_
                  refine TextR.move rfl ?_
                  refine TextR.off rfl ?_
                  refine TextR.off rfl ?_
                  refine TextR.off rfl ?_
                  refine TextR.pickAnd0 rfl rfl ?_
                  refine TextR.move rfl ?_
                  refine TextR.off rfl ?_
                  refine TextR.off rfl ?_
                  refine TextR.pickAnd0 rfl rfl ?_
                  refine TextR.move rfl ?_
                  refine TextR.off rfl ?_
                  refine TextR.off rfl ?_
                  refine TextR.off rfl ?_
                  refine TextR.pickAnd0 rfl rfl ?_
                  refine TextR.move rfl ?_
                  refine TextR.off rfl ?_
                  refine TextR.off rfl ?_
                  refine TextR.off rfl ?_
                  refine TextR.pickAnd0 rfl rfl ?_
                  refine TextR.move rfl ?_
                  refine TextR.off rfl ?_
                  refine TextR.off rfl ?_
                  refine TextR.off rfl ?_
                  refine TextR.off rfl ?_
                  refine TextR.pickAnd0 rfl rfl ?_
                  refine TextR.assign rfl ?_
                  refine TextR.done (.cons rfl .nil) ?_
                  refine Wp.ret ?_
                  obtain rfl := Option.some.inj h
                  exact Ret.one rfl (resV_tmp rfl) rfl
              · rw [if_neg (by simpa using hv)] at h
                refine TextR.off rfl ?_
                refine TextR.off rfl ?_
                refine TextR.pickAnd0 rfl rfl ?_
                refine TextR.move rfl ?_
                refine TextR.off rfl ?_
                refine TextR.off rfl ?_
                refine TextR.pickAnd0 rfl rfl ?_
                refine TextR.move rfl ?_
                refine TextR.off rfl ?_
                refine TextR.off rfl ?_
                refine TextR.pickAnd0 rfl rfl ?_
                refine TextR.move rfl ?_
                refine TextR.off rfl ?_
                refine TextR.off rfl ?_
                refine TextR.pickAnd0 rfl rfl ?_
                refine TextR.move rfl ?_
                refine TextR.off rfl ?_
                refine TextR.off rfl ?_
                refine TextR.off rfl ?_
                refine TextR.off rfl ?_
                refine TextR.pickAnd0 rfl rfl ?_
                refine TextR.move rfl ?_
                refine TextR.off rfl ?_
                refine TextR.off rfl ?_
                refine TextR.pickAnd0 rfl rfl ?_
                refine TextR.move rfl ?_
                refine TextR.off rfl ?_
                refine TextR.off rfl ?_
                refine TextR.off rfl ?_
                refine TextR.off rfl ?_
                refine TextR.pickAnd0 rfl rfl ?_
                refine TextR.move rfl ?_
                refine TextR.off rfl ?_
                refine TextR.off rfl ?_
                refine TextR.off rfl ?_
                refine TextR.pickAnd0 rfl rfl ?_
                refine TextR.move rfl ?_
                refine TextR.off rfl ?_
                refine TextR.off rfl ?_
                refine TextR.pickAnd0 rfl rfl ?_
                refine TextR.move rfl ?_
                refine TextR.off rfl ?_
                refine TextR.off rfl ?_
                refine TextR.off rfl ?_
                refine TextR.pickAnd0 rfl rfl ?_
                refine TextR.move rfl ?_
                refine TextR.off rfl ?_
                refine TextR.off rfl ?_
                refine TextR.off rfl ?_
                refine TextR.pickAnd0 rfl rfl ?_
                refine TextR.move rfl ?_
                refine TextR.off rfl ?_
                refine TextR.off rfl ?_
                refine TextR.off rfl ?_
                refine TextR.off rfl ?_
                refine TextR.pickAnd0 rfl rfl ?_
                refine TextR.assign rfl ?_
                refine TextR.done (.cons rfl .nil) ?_
                refine Wp.ret ?_
                obtain rfl := Option.some.inj h
                exact Ret.one rfl (resV_tmp rfl) rfl
            · rw [if_neg (by simpa using hv)] at h
              refine TextR.off rfl ?_
              refine TextR.off rfl ?_
              refine TextR.pickAnd0 rfl rfl ?_
              refine TextR.move rfl ?_
              refine TextR.off rfl ?_
              refine TextR.off rfl ?_
              refine TextR.pickAnd0 rfl rfl ?_
              refine TextR.move rfl ?_
              refine TextR.off rfl ?_
              refine TextR.off rfl ?_
              refine TextR.pickAnd0 rfl rfl ?_
              refine TextR.move rfl ?_
              refine TextR.off rfl ?_
              refine TextR.off rfl ?_
              refine TextR.pickAnd0 rfl rfl ?_
              refine TextR.move rfl ?_
              refine TextR.off rfl ?_
              refine TextR.off rfl ?_
              refine TextR.pickAnd0 rfl rfl ?_
              refine TextR.move rfl ?_
              refine TextR.off rfl ?_
              refine TextR.off rfl ?_
              refine TextR.off rfl ?_
              refine TextR.off rfl ?_
              refine TextR.pickAnd0 rfl rfl ?_
              refine TextR.move rfl ?_
              refine TextR.off rfl ?_
              refine TextR.off rfl ?_
              refine TextR.pickAnd0 rfl rfl ?_
              refine TextR.move rfl ?_
              refine TextR.off rfl ?_
              refine TextR.off rfl ?_
              refine TextR.off rfl ?_
              refine TextR.off rfl ?_
              refine TextR.pickAnd0 rfl rfl ?_
              refine TextR.move rfl ?_
              refine TextR.off rfl ?_
              refine TextR.off rfl ?_
              refine TextR.off rfl ?_
              refine TextR.pickAnd0 rfl rfl ?_
              refine TextR.move rfl ?_
              refine TextR.off rfl ?_
              refine TextR.off rfl ?_
              refine TextR.pickAnd0 rfl rfl ?_
              refine TextR.move rfl ?_
              refine TextR.off rfl ?_
              refine TextR.off rfl ?_
              refine TextR.off rfl ?_
              refine TextR.pickAnd0 rfl rfl ?_
              refine TextR.move rfl ?_
              refine TextR.off rfl ?_
              refine TextR.off rfl ?_
              refine TextR.off rfl ?_
              refine TextR.pickAnd0 rfl rfl ?_
              refine TextR.move rfl ?_
              refine TextR.off rfl ?_
              refine TextR.off rfl ?_
              refine TextR.off rfl ?_
              refine TextR.off rfl ?_
              refine TextR.pickAnd0 rfl rfl ?_
              refine TextR.assign rfl ?_
              refine TextR.done (.cons rfl .nil) ?_
              refine Wp.ret ?_
              obtain rfl := Option.some.inj h
              exact Ret.one rfl (resV_tmp rfl) rfl
          · rw [if_neg (by simpa using hv)] at h
            refine TextR.off rfl ?_
            refine TextR.off rfl ?_
            refine TextR.pickAnd0 rfl rfl ?_
            refine TextR.move rfl ?_
            refine TextR.off rfl ?_
            refine TextR.off rfl ?_
            refine TextR.pickAnd0 rfl rfl ?_
            refine TextR.move rfl ?_
            refine TextR.off rfl ?_
            refine TextR.off rfl ?_
            refine TextR.pickAnd0 rfl rfl ?_
            refine TextR.move rfl ?_
            refine TextR.off rfl ?_
            refine TextR.off rfl ?_
            refine TextR.pickAnd0 rfl rfl ?_
            refine TextR.move rfl ?_
            refine TextR.off rfl ?_
            refine TextR.off rfl ?_
            refine TextR.pickAnd0 rfl rfl ?_
            refine TextR.move rfl ?_
            refine TextR.off rfl ?_
            refine TextR.off rfl ?_
            refine TextR.pickAnd0 rfl rfl ?_
            refine TextR.move rfl ?_
            refine TextR.off rfl ?_
            refine TextR.off rfl ?_
            refine TextR.off rfl ?_
            refine TextR.off rfl ?_
            refine TextR.pickAnd0 rfl rfl ?_
            refine TextR.move rfl ?_
            refine TextR.off rfl ?_
            refine TextR.off rfl ?_
            refine TextR.pickAnd0 rfl rfl ?_
            refine TextR.move rfl ?_
            refine TextR.off rfl ?_
            refine TextR.off rfl ?_
            refine TextR.off rfl ?_
            refine TextR.off rfl ?_
            refine TextR.pickAnd0 rfl rfl ?_
            refine TextR.move rfl ?_
            refine TextR.off rfl ?_
            refine TextR.off rfl ?_
            refine TextR.off rfl ?_
            refine TextR.pickAnd0 rfl rfl ?_
            refine TextR.move rfl ?_
            refine TextR.off rfl ?_
            refine TextR.off rfl ?_
            refine TextR.pickAnd0 rfl rfl ?_
            refine TextR.move rfl ?_
            refine TextR.off rfl ?_
            refine TextR.off rfl ?_
            refine TextR.off rfl ?_
            refine TextR.pickAnd0 rfl rfl ?_
            refine TextR.move rfl ?_
            refine TextR.off rfl ?_
            refine TextR.off rfl ?_
            refine TextR.off rfl ?_
            refine TextR.pickAnd0 rfl rfl ?_
            refine TextR.move rfl ?_
            refine TextR.off rfl ?_
            refine TextR.off rfl ?_
            refine TextR.off rfl ?_
            refine TextR.off rfl ?_
            refine TextR.pickAnd0 rfl rfl ?_
            refine TextR.assign rfl ?_
            refine TextR.done (.cons rfl .nil) ?_
            refine Wp.ret ?_
            obtain rfl := Option.some.inj h
            exact Ret.one rfl (resV_tmp rfl) rfl
        · rw [if_neg (by simpa using hv)] at h
          refine TextR.off rfl ?_
          refine TextR.off rfl ?_
          refine TextR.pickAnd0 rfl rfl ?_
          refine TextR.move rfl ?_
          refine TextR.off rfl ?_
          refine TextR.off rfl ?_
          refine TextR.pickAnd0 rfl rfl ?_
          refine TextR.move rfl ?_
          refine TextR.off rfl ?_
          refine TextR.off rfl ?_
          refine TextR.pickAnd0 rfl rfl ?_
          refine TextR.move rfl ?_
          refine TextR.off rfl ?_
          refine TextR.off rfl ?_
          refine TextR.pickAnd0 rfl rfl ?_
          refine TextR.move rfl ?_
          refine TextR.off rfl ?_
          refine TextR.off rfl ?_
          refine TextR.pickAnd0 rfl rfl ?_
          refine TextR.move rfl ?_
          refine TextR.off rfl ?_
          refine TextR.off rfl ?_
          refine TextR.pickAnd0 rfl rfl ?_
          refine TextR.move rfl ?_
          refine TextR.off rfl ?_
          refine TextR.off rfl ?_
          refine TextR.pickAnd0 rfl rfl ?_
          refine TextR.move rfl ?_
          refine TextR.off rfl ?_
          refine TextR.off rfl ?_
          refine TextR.off rfl ?_
          refine TextR.off rfl ?_
          refine TextR.pickAnd0 rfl rfl ?_
          refine TextR.move rfl ?_
          refine TextR.off rfl ?_
          refine TextR.off rfl ?_
          refine TextR.pickAnd0 rfl rfl ?_
          refine TextR.move rfl ?_
          refine TextR.off rfl ?_
          refine TextR.off rfl ?_
          refine TextR.off rfl ?_
          refine TextR.off rfl ?_
          refine TextR.pickAnd0 rfl rfl ?_
          refine TextR.move rfl ?_
          refine TextR.off rfl ?_
          refine TextR.off rfl ?_
          refine TextR.off rfl ?_
          refine TextR.pickAnd0 rfl rfl ?_
          refine TextR.move rfl ?_
          refine TextR.off rfl ?_
          refine TextR.off rfl ?_
          refine TextR.pickAnd0 rfl rfl ?_
          refine TextR.move rfl ?_
          refine TextR.off rfl ?_
          refine TextR.off rfl ?_
          refine TextR.off rfl ?_
          refine TextR.pickAnd0 rfl rfl ?_
          refine TextR.move rfl ?_
          refine TextR.off rfl ?_
          refine TextR.off rfl ?_
          refine TextR.off rfl ?_
          refine TextR.pickAnd0 rfl rfl ?_
          refine TextR.move rfl ?_
          refine TextR.off rfl ?_
          refine TextR.off rfl ?_
          refine TextR.off rfl ?_
          refine TextR.off rfl ?_
          refine TextR.pickAnd0 rfl rfl ?_
          refine TextR.assign rfl ?_
          refine TextR.done (.cons rfl .nil) ?_
          refine Wp.ret ?_
          obtain rfl := Option.some.inj h
          exact Ret.one rfl (resV_tmp rfl) rfl
      · rw [if_neg (by simpa using hv)] at h
        refine TextR.off rfl ?_
        refine TextR.off rfl ?_
        refine TextR.pickAnd0 rfl rfl ?_
        refine TextR.move rfl ?_
        refine TextR.off rfl ?_
        refine TextR.off rfl ?_
        refine TextR.pickAnd0 rfl rfl ?_
        refine TextR.move rfl ?_
        refine TextR.off rfl ?_
        refine TextR.off rfl ?_
        refine TextR.pickAnd0 rfl rfl ?_
        refine TextR.move rfl ?_
        refine TextR.off rfl ?_
        refine TextR.off rfl ?_
        refine TextR.pickAnd0 rfl rfl ?_
        refine TextR.move rfl ?_
        refine TextR.off rfl ?_
        refine TextR.off rfl ?_
        refine TextR.pickAnd0 rfl rfl ?_
        refine TextR.move rfl ?_
        refine TextR.off rfl ?_
        refine TextR.off rfl ?_
        refine TextR.pickAnd0 rfl rfl ?_
        refine TextR.move rfl ?_
        refine TextR.off rfl ?_
        refine TextR.off rfl ?_
        refine TextR.pickAnd0 rfl rfl ?_
        refine TextR.move rfl ?_
        refine TextR.off rfl ?_
        refine TextR.off rfl ?_
        refine TextR.pickAnd0 rfl rfl ?_
        refine TextR.move rfl ?_
        refine TextR.off rfl ?_
        refine TextR.off rfl ?_
        refine TextR.off rfl ?_
        refine TextR.off rfl ?_
        refine TextR.pickAnd0 rfl rfl ?_
        refine TextR.move rfl ?_
        refine TextR.off rfl ?_
        refine TextR.off rfl ?_
        refine TextR.pickAnd0 rfl rfl ?_
        refine TextR.move rfl ?_
        refine TextR.off rfl ?_
        refine TextR.off rfl ?_
        refine TextR.off rfl ?_
        refine TextR.off rfl ?_
        refine TextR.pickAnd0 rfl rfl ?_
        refine TextR.move rfl ?_
        refine TextR.off rfl ?_
        refine TextR.off rfl ?_
        refine TextR.off rfl ?_
        refine TextR.pickAnd0 rfl rfl ?_
        refine TextR.move rfl ?_
        refine TextR.off rfl ?_
        refine TextR.off rfl ?_
        refine TextR.pickAnd0 rfl rfl ?_
        refine TextR.move rfl ?_
        refine TextR.off rfl ?_
        refine TextR.off rfl ?_
        refine TextR.off rfl ?_
        refine TextR.pickAnd0 rfl rfl ?_
        refine TextR.move rfl ?_
        refine TextR.off rfl ?_
        refine TextR.off rfl ?_
        refine TextR.off rfl ?_
        refine TextR.pickAnd0 rfl rfl ?_
        refine TextR.move rfl ?_
        refine TextR.off rfl ?_
        refine TextR.off rfl ?_
        refine TextR.off rfl ?_
        refine TextR.off rfl ?_
        refine TextR.pickAnd0 rfl rfl ?_
        refine TextR.assign rfl ?_
        refine TextR.done (.cons rfl .nil) ?_
        refine Wp.ret ?_
        obtain rfl := Option.some.inj h
        exact Ret.one rfl (resV_tmp rfl) rfl
    · rw [if_neg (by simpa using hv)] at h
      refine TextR.off rfl ?_
      refine TextR.off rfl ?_
      refine TextR.pickAnd0 rfl rfl ?_
      refine TextR.move rfl ?_
      refine TextR.off rfl ?_
      refine TextR.off rfl ?_
      refine TextR.pickAnd0 rfl rfl ?_
      refine TextR.move rfl ?_
      refine TextR.off rfl ?_
      refine TextR.off rfl ?_
      refine TextR.pickAnd0 rfl rfl ?_
      refine TextR.move rfl ?_
      refine TextR.off rfl ?_
      refine TextR.off rfl ?_
      refine TextR.pickAnd0 rfl rfl ?_
      refine TextR.move rfl ?_
      refine TextR.off rfl ?_
      refine TextR.off rfl ?_
      refine TextR.pickAnd0 rfl rfl ?_
      refine TextR.move rfl ?_
      refine TextR.off rfl ?_
      refine TextR.off rfl ?_
      refine TextR.pickAnd0 rfl rfl ?_
      refine TextR.move rfl ?_
      refine TextR.off rfl ?_
      refine TextR.off rfl ?_
      refine TextR.pickAnd0 rfl rfl ?_
      refine TextR.move rfl ?_
      refine TextR.off rfl ?_
      refine TextR.off rfl ?_
      refine TextR.pickAnd0 rfl rfl ?_
      refine TextR.move rfl ?_
      refine TextR.off rfl ?_
      refine TextR.off rfl ?_
      refine TextR.pickAnd0 rfl rfl ?_
      refine TextR.move rfl ?_
      refine TextR.off rfl ?_
      refine TextR.off rfl ?_
      refine TextR.off rfl ?_
      refine TextR.off rfl ?_
      refine TextR.pickAnd0 rfl rfl ?_
      refine TextR.move rfl ?_
      refine TextR.off rfl ?_
      refine TextR.off rfl ?_
      refine TextR.pickAnd0 rfl rfl ?_
      refine TextR.move rfl ?_
      refine TextR.off rfl ?_
      refine TextR.off rfl ?_
      refine TextR.off rfl ?_
      refine TextR.off rfl ?_
      refine TextR.pickAnd0 rfl rfl ?_
      refine TextR.move rfl ?_
      refine TextR.off rfl ?_
      refine TextR.off rfl ?_
      refine TextR.off rfl ?_
      refine TextR.pickAnd0 rfl rfl ?_
      refine TextR.move rfl ?_
      refine TextR.off rfl ?_
      refine TextR.off rfl ?_
      refine TextR.pickAnd0 rfl rfl ?_
      refine TextR.move rfl ?_
      refine TextR.off rfl ?_
      refine TextR.off rfl ?_
      refine TextR.off rfl ?_
      refine TextR.pickAnd0 rfl rfl ?_
      refine TextR.move rfl ?_
      refine TextR.off rfl ?_
      refine TextR.off rfl ?_
      refine TextR.off rfl ?_
      refine TextR.pickAnd0 rfl rfl ?_
      refine TextR.move rfl ?_
      refine TextR.off rfl ?_
      refine TextR.off rfl ?_
      refine TextR.off rfl ?_
      refine TextR.off rfl ?_
      refine TextR.pickAnd0 rfl rfl ?_
      refine TextR.assign rfl ?_
      refine TextR.done (.cons rfl .nil) ?_
      refine Wp.ret ?_
      obtain rfl := Option.some.inj h
      exact Ret.one rfl (resV_tmp rfl) rfl
  · rw [if_neg (by simpa using hv)] at h
    refine TextR.off rfl ?_
    refine TextR.off rfl ?_
    refine TextR.pickAnd0 rfl rfl ?_
    refine TextR.move rfl ?_
    refine TextR.off rfl ?_
    refine TextR.off rfl ?_
    refine TextR.pickAnd0 rfl rfl ?_
    refine TextR.move rfl ?_
    refine TextR.off rfl ?_
    refine TextR.off rfl ?_
    refine TextR.pickAnd0 rfl rfl ?_
    refine TextR.move rfl ?_
    refine TextR.off rfl ?_
    refine TextR.off rfl ?_
    refine TextR.pickAnd0 rfl rfl ?_
    refine TextR.move rfl ?_
    refine TextR.off rfl ?_
    refine TextR.off rfl ?_
    refine TextR.pickAnd0 rfl rfl ?_
    refine TextR.move rfl ?_
    refine TextR.off rfl ?_
    refine TextR.off rfl ?_
    refine TextR.pickAnd0 rfl rfl ?_
    refine TextR.move rfl ?_
    refine TextR.off rfl ?_
    refine TextR.off rfl ?_
    refine TextR.pickAnd0 rfl rfl ?_
    refine TextR.move rfl ?_
    refine TextR.off rfl ?_
    refine TextR.off rfl ?_
    refine TextR.pickAnd0 rfl rfl ?_
    refine TextR.move rfl ?_
    refine TextR.off rfl ?_
    refine TextR.off rfl ?_
    refine TextR.pickAnd0 rfl rfl ?_
    refine TextR.move rfl ?_
    refine TextR.off rfl ?_
    refine TextR.off rfl ?_
    refine TextR.pickAnd0 rfl rfl ?_
    refine TextR.move rfl ?_
    refine TextR.off rfl ?_
    refine TextR.off rfl ?_
    refine TextR.off rfl ?_
    refine TextR.off rfl ?_
    refine TextR.pickAnd0 rfl rfl ?_
    refine TextR.move rfl ?_
    refine TextR.off rfl ?_
    refine TextR.off rfl ?_
    refine TextR.pickAnd0 rfl rfl ?_
    refine TextR.move rfl ?_
    refine TextR.off rfl ?_
    refine TextR.off rfl ?_
    refine TextR.off rfl ?_
    refine TextR.off rfl ?_
    refine TextR.pickAnd0 rfl rfl ?_
    refine TextR.move rfl ?_
    refine TextR.off rfl ?_
    refine TextR.off rfl ?_
    refine TextR.off rfl ?_
    refine TextR.pickAnd0 rfl rfl ?_
    refine TextR.move rfl ?_
    refine TextR.off rfl ?_
    refine TextR.off rfl ?_
    refine TextR.pickAnd0 rfl rfl ?_
    refine TextR.move rfl ?_
    refine TextR.off rfl ?_
    refine TextR.off rfl ?_
    refine TextR.off rfl ?_
    refine TextR.pickAnd0 rfl rfl ?_
    refine TextR.move rfl ?_
    refine TextR.off rfl ?_
    refine TextR.off rfl ?_
    refine TextR.off rfl ?_
    refine TextR.pickAnd0 rfl rfl ?_
    refine TextR.move rfl ?_
    refine TextR.off rfl ?_
    refine TextR.off rfl ?_
    refine TextR.off rfl ?_
    refine TextR.off rfl ?_
    refine TextR.pickAnd0 rfl rfl ?_
    refine TextR.assign rfl ?_
    refine TextR.done (.cons rfl .nil) ?_
    refine Wp.ret ?_
    obtain rfl := Option.some.inj h
    exact Ret.one rfl (resV_tmp rfl) rfl
theorem c_narthexlaw17_awake (N : Nat) (r : Bool) (h : narthexlaw17_awake N = some r) (H : List Ob) : DCall Try.prog 9 [] H (.c (B r)) := DCall.lift (by first | rfl | simp [-List.map_set]) (by first | rfl | simp [-List.map_set]) (fun _ => by simp [-List.map_set]) (w_narthexlaw17_awake N r h) H
-- narthex/narthexref17.Few
theorem w_narthexref17_Few (N : Nat) (a0 : TBook) (r : Bool) (h : narthexref17_Few N a0 = some r) : Nx.Call Try.prog 10 [.agg (eBook a0)] [] fun r' _ => r' = .c (B r) := by
  refine Nx.Call.of_body Try.func10 rfl en10 Try.ntmps10 rfl (fun Γ hok => ?_)
  unfold narthexref17_Few at h
  refine Wp.seq ?_
  refine Wp.text [1] rfl rfl ?_ -- region 0
  refine TextR.box (cs := [I a0.Last, .slv (a0.Sess.map eSess)]) 0 rfl rfl rfl rfl .nil ?_
  refine TextR.assign rfl ?_
  refine TextR.done (.cons rfl .nil) ?_
  refine Wp.seq ?_
  refine Wp.seq ?_
  refine Wp.text [1, 3] rfl rfl ?_ -- region 1
  refine TextR.assign rfl ?_
  refine TextR.done (.cons rfl (.cons rfl .nil)) ?_
  obtain ⟨z1, hz1, h⟩ := bind_some h
  refine Wp.fragR (fun S => ∃ z3, z1 = .inr z3 ∧ ∃ S', St.Weak ⟨Try.prog, 27, Γ⟩ S S' ∧ S' = ⟨[(1, .c (.ptr 0 0 0 0))], [.live 0 2 [[I a0.Last, .slv (a0.Sess.map eSess)]]]⟩) (fun S => ∃ v, z1 = .inl v ∧ Ret Try.prog Try.f10 (fun r' _ => r' = .c (B v)) .ret S) ?_ ?_ ?_
  · replace h := hz1
    refine Wp.block ?_
    refine Wp.weak (keepW (live := [1, 3]) (.cons rfl (.cons rfl .nil))) ?_
    refine Wp.loop (fun m S => ∃ s3_1, narthexref17_Few_L1 N a0 m s3_1 = some z1 ∧ S = ⟨[(1, .c (.ptr 0 0 0 0)), (3, .c (I s3_1))], [.live 0 2 [[I a0.Last, .slv (a0.Sess.map eSess)]]]⟩) N ⟨_, h, rfl⟩ ?_
    rintro m1 _ ⟨s3_1, h, rfl⟩
    cases m1 with
    | zero => rw [narthexref17_Few_L1.eq_1] at h; cases h
    | succ m1 =>
    rw [narthexref17_Few_L1.eq_2] at h
    refine Wp.seq ?_
    refine Wp.seq ?_
    refine Wp.go false none [[], [], [], [], [], [], [(9, true)], [(9, true)], []] [] [1, 3, 12] mixed rfl rfl (by kernel_rfl) ?_ -- region 2
    refine RunR.move rfl rfl rfl ?_
    refine RunR.fieldAddr fo24_1 rfl rfl rfl rfl rfl ?_
    refine RunR.load1 tk22 rfl rfl rfl rfl ?_
    refine RunR.lenM us22 rfl rfl rfl rfl ?_
    refine RunR.int rfl rfl rfl rfl rfl ?_
    refine RunR.move rfl rfl rfl ?_
    refine RunR.move rfl rfl rfl ?_
    refine RunR.int rfl rfl rfl rfl rfl ?_
    refine RunR.pickAnd rfl rfl rfl rfl ?_
    refine RunR.doneQ (.cons rfl (.cons rfl (.cons rfl .nil))) ?_
    refine Wp.condM h rfl (fun hc2 h => ?_) (fun hc2 h => ?_)
    · refine Wp.skip ?_
      refine Wp.seq ?_
      refine Wp.block ?_
      refine Wp.seq ?_
      obtain ⟨x4, hx4, h⟩ := bind_some h
      refine Wp.text [1, 3, 22] rfl rfl ?_ -- region 4
      refine TextR.fieldAddr fo24_1 rfl rfl rfl ?_
      refine TextR.load1 tk22 rfl rfl ?_
      refine TextR.move rfl ?_
      refine TextR.indexA se22 rfl rfl rfl hx4 rfl ?_
      refine TextR.fieldAddr fo41_1 rfl rfl rfl ?_
      refine TextR.load1M tk25 rfl (at_get hx4) rfl ?_
      refine TextR.lenM us25 rfl rfl ?_
      refine TextR.int rfl rfl rfl ?_
      refine TextR.done (.cons rfl (.cons rfl (.cons rfl .nil))) ?_
      refine Wp.condM h rfl (fun hc3 h => ?_) (fun hc3 h => ?_)
      · refine Wp.seq ?_
        refine Wp.text [2] rfl rfl ?_ -- region 5
        refine TextR.assign rfl ?_
        refine TextR.done (.cons rfl .nil) ?_
        refine Wp.ret ?_
        exact ⟨_, (Option.some.inj h).symm, Ret.one rfl (resV_tmp rfl) rfl⟩
      · refine Wp.skip ?_
        refine Wp.text [1, 3] rfl rfl ?_ -- region 3
        refine TextR.move rfl ?_
        refine TextR.int rfl rfl rfl ?_
        refine TextR.assign rfl ?_
        refine TextR.done (.cons rfl (.cons rfl .nil)) ?_
        exact ⟨m1, Nat.lt_succ_self _, _, (keepW (live := [1, 3]) (.cons rfl (.cons rfl .nil))), _, h, rfl⟩
    · refine Wp.exit ?_
      exact ⟨_, (Option.some.inj h).symm, _, (keepW (live := [1]) (.cons rfl .nil)), rfl⟩
  · rintro _ ⟨z3, rfl, _, hw, rfl⟩
    dsimp only at h
    clear hz1
    refine Wp.weak hw ?_
    refine Wp.seq ?_
    refine Wp.text [2] rfl rfl ?_ -- region 6
    refine TextR.fieldAddr fo24_1 rfl rfl rfl ?_
    refine TextR.load1 tk22 rfl rfl ?_
    refine TextR.lenM us22 rfl rfl ?_
    refine TextR.int rfl rfl rfl ?_
    refine TextR.assign rfl ?_
    refine TextR.done (.cons rfl .nil) ?_
    refine Wp.ret ?_
    obtain rfl := Option.some.inj h
    exact Ret.one rfl (resV_tmp rfl) rfl
  · rintro S' ⟨r2, rfl, hR⟩
    dsimp only at h
    obtain rfl := Option.some.inj h
    exact hR
theorem c_narthexref17_Few (N : Nat) (a0 : TBook) (r : Bool) (h : narthexref17_Few N a0 = some r) (H : List Ob) : DCall Try.prog 10 [.agg (eBook a0)] H (.c (B r)) := DCall.lift (by first | rfl | simp [-List.map_set]) (by first | rfl | simp [-List.map_set]) (fun _ => by simp [-List.map_set]) (w_narthexref17_Few N a0 r h) H
end Go.Proofs.Ythlocamkdmaflaa
