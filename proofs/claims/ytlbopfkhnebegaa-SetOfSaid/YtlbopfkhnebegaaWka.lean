/- The functions do what their models say. -/
import Derived.Test.YtlbopfkhnebegaaEnc
import Derived.Test.YtlbopfkhnebegaaLaid
namespace Go.Proofs.Ytlbopfkhnebegaa
open Go Go.Nx
set_option linter.unusedVariables false
set_option linter.unusedSimpArgs false
set_option maxRecDepth 8000
-- slices.Clone
theorem bn_slices_Clone_int : Nx.Call Try.prog 28 [.c nilS] [] fun r' H' => r' = .c (.sl 0 1 0 0) ∧ ∃ junk, H' = [.live 1 1 []] ++ junk := by
  refine Nx.Call.of_body Try.func28 rfl en28 Try.ntmps28 rfl (fun Γ hok => ?_)
  refine Wp.seq ?_
  refine Wp.text [0] rfl rfl ?_ -- region 0
  refine TextR.assign rfl ?_
  refine TextR.done (.cons rfl .nil) ?_
  refine Wp.seq ?_
  refine Wp.seq ?_
  refine Wp.text [0, 4] rfl rfl ?_ -- region 1
  refine TextR.move rfl ?_
  refine TextR.eqNil us22 rfl rfl ?_
  refine TextR.done (.cons rfl (.cons rfl .nil)) ?_
  refine Wp.cond rfl (fun hc => ?_) (fun hc => ?_)
  · refine Wp.seq ?_
    refine Wp.text [2] rfl rfl ?_ -- region 2
    refine TextR.assign rfl ?_
    refine TextR.done (.cons rfl .nil) ?_
    refine Wp.weak (fun a w hs => nilV_sat (t := 2) 1 1 0 rfl rfl .nil hs) ?_
    refine Wp.ret ?_
    refine Ret.one rfl (resV_tmp rfl) ?_
    exact ⟨rfl, [], rfl⟩
  · cases hc
theorem bq_slices_Clone_int (xs : List Int) (hl : xs.length ≤ 10000000000) : Nx.Call Try.prog 28 [.c (.slq (xs.map eI))] [] fun r' H' => r' = .c (.sl 0 1 0 xs.length) ∧ ∃ junk, H' = [.live 1 1 (xs.map eI)] ++ junk := by
  refine Nx.Call.of_body Try.func28 rfl en28 Try.ntmps28 rfl (fun Γ hok => ?_)
  refine Wp.seq ?_
  refine Wp.text [0] rfl rfl ?_ -- region 0
  refine TextR.assign rfl ?_
  refine TextR.done (.cons rfl .nil) ?_
  refine Wp.seq ?_
  refine Wp.seq ?_
  refine Wp.text [0, 4] rfl rfl ?_ -- region 1
  refine TextR.move rfl ?_
  refine TextR.eqNil us22 rfl rfl ?_
  refine TextR.done (.cons rfl (.cons rfl .nil)) ?_
  refine Wp.cond rfl (fun hc => ?_) (fun hc => ?_)
  · cases hc
  · refine Wp.skip ?_
    refine Wp.seq ?_
    refine Wp.text [2] rfl rfl ?_ -- region 3
    refine TextR.buildSlice 0 se22 rfl rfl rfl .nil ?_
    refine TextR.move rfl ?_
    refine TextR.appendM eI [] xs xs rfl se22 rfl rfl rfl rfl (fun _ => rfl) rfl (by simp; omega) .zero ?_
    refine TextR.assign rfl ?_
    refine TextR.done (.cons rfl .nil) ?_
    refine Wp.ret ?_
    refine Ret.one rfl (resV_tmp rfl) ?_
    exact ⟨rfl, [], rfl⟩
theorem b_slices_Clone_int (xs : List Int) (hl : xs.length ≤ 10000000000) : Nx.Call Try.prog 28 [.c (.slv (xs.map eI))] [] fun r' H' => r' = .c (.sl 0 1 0 xs.length) ∧ ∃ junk, H' = [.live 1 1 (xs.map eI)] ++ junk :=
  .cases en28 fun Γ args' hok hc => by
    simp only [concVs] at hc
    obtain ⟨y, ys', h1, h2, h3⟩ := hc
    rcases conc_slv_nil h2 with ⟨h4, h5⟩ | h5
    · have h6 : xs = [] := by simpa using h4
      subst h6
      exact ⟨[.c nilS], bn_slices_Clone_int, by simp only [concVs]; exact ⟨y, ys', h1, h5, h3⟩⟩
    · exact ⟨[.c (.slq (xs.map eI))], bq_slices_Clone_int xs hl, by simp only [concVs]; exact ⟨y, ys', h1, h5, h3⟩⟩
theorem o_slices_Clone_int (N : Nat) (a0 r : List Int) (h : slices_Clone_int N a0 = some r) {H H1 : List Ob} (k : Nat) (hh : H.length = k) (hs : Snoc (.live 1 1 (r.map eI)) H H1) : Nx.Call Try.prog 28 [.c (.slv (a0.map eI))] H fun r' H' => r' = .c (.sl k 1 0 r.length) ∧ H' = H1 := by
  have he := app_eq h
  have hl := app_len h
  simp only [List.nil_append] at he
  subst he
  have hc := Call.lift (objs := [.live 1 1 (a0.map eI)]) (by simp [hfVs, hfV, hfL, hfRows_map h_I]) rfl (by have := okR_eI (p := mvL 1) a0; simpa [mvO] using this) (b_slices_Clone_int a0 (by simpa using hl)) H
  refine Call.mono hc fun r' H' ⟨h1, h2⟩ => ⟨by subst hh; simpa [shV, shL] using h1, ?_⟩
  rw [h2, ← hs.eq]
  simp [shO, fx_eI]
theorem w_slices_Clone_int (N : Nat) (a0 r : List Int) (h : slices_Clone_int N a0 = some r) : Nx.Call Try.prog 28 [.c (.slv (a0.map eI))] [] fun r' _ => r' = .c (.slv (r.map eI)) := by
  have he := app_eq h
  have hl := app_len h
  simp only [List.nil_append] at he
  subst he
  exact Call.frz (b_slices_Clone_int a0 (by simpa using hl))
theorem c_slices_Clone_int (N : Nat) (a0 r : List Int) (h : slices_Clone_int N a0 = some r) (H : List Ob) : DCall Try.prog 28 [.c (.slv (a0.map eI))] H (.c (.slv (r.map eI))) := DCall.lift (by simp [hfVs, hfV, hfL, hfRows_map h_I]) (by simp [mvV, mvL, hfL, hfRows_map h_I]) (fun _ => rfl) (w_slices_Clone_int N a0 r h) H

-- narthex/set.Of
theorem w_set_Of (N : Nat) (a0 : List Int) (r : (List Int)) (h : set_Of N a0 = some r) : Nx.Call Try.prog 12 [.c (.slv (a0.map eI))] [] fun r' _ => r' = .c (.slv (r.map eI)) := by
  refine Nx.Call.of_body Try.func12 rfl en12 Try.ntmps12 rfl (fun Γ hok => ?_)
  unfold set_Of at h
  refine Wp.seq ?_
  refine Wp.text [0] rfl rfl ?_ -- region 0
  refine TextR.assign rfl ?_
  refine TextR.done (.cons rfl .nil) ?_
  refine Wp.seq ?_
  obtain ⟨y1, hy1, h⟩ := bind_some h
  refine Wp.text [3] rfl rfl ?_ -- region 1
  refine TextR.move rfl ?_
  refine TextR.call rfl rfl (by exact o_slices_Clone_int N a0 y1 hy1 0 rfl .nil) (fun x H' hk => ?_)
  obtain ⟨rfl, rfl⟩ := hk
  refine TextR.assign rfl ?_
  refine TextR.done (.cons rfl .nil) ?_
  refine Wp.seq ?_
  obtain ⟨x2, hx2, h⟩ := bind_some h
  refine Wp.text [3] rfl rfl ?_ -- region 2
  refine TextR.move rfl ?_
  refine TextR.call rfl rfl (by exact call_sort lays189 rfl en29 hx2 rfl .zero) (fun x H' hk => ?_)
  obtain ⟨rfl, rfl⟩ := hk
  refine TextR.done (.cons rfl .nil) ?_
  refine Wp.weak (eqW (S' := ⟨[(3, .c (.sl 0 1 0 x2.length))], [.live 1 1 (x2.map eI)]⟩) (by have e0 := (length_sort hx2).symm; first | rfl | (simp only [List.length_set]; done) | (simp only [List.length_set]; rfl) | (simp only [List.length_set, e0]; done) | (simp only [List.length_set, e0]; rfl))) ?_
  refine Wp.seq ?_
  obtain ⟨x3, hx3, h⟩ := bind_some h
  refine Wp.text [2] rfl rfl ?_ -- region 3
  refine TextR.move rfl ?_
  refine TextR.call rfl rfl (by exact call_ded lays220 rfl en30 hx3 rfl .zero) (fun x H' hk => ?_)
  obtain ⟨rfl, rfl⟩ := hk
  refine TextR.assign rfl ?_
  refine TextR.done (.cons rfl .nil) ?_
  refine Wp.weak (keepW (live := [2] ) (.cons rfl .nil)) ?_
  refine Wp.weak (freezeW (h := 0) (ver := 2) (rows := x3.map eI) (e' := [(2, .c (.slv (x3.map eI)))]) (H' := [.dead]) rfl (by first | rfl | simp [List.map_take, List.map_drop, rvL, rvK, bwL, hfVs, hfV, hfL, hfAll, hfRows, mvV, mvL, mv0, sh0, mvO, mpE, mpV, mpVs, mpO, fzL, rnL, rn0, ok0, nzI, nzB, nzN, nzF, nzP, nzO, nzQ, nzC, shL, shV, shO, okV, okL, okO, List.take_of_length_le, h_I, hfRows_map h_I, ok_eI, okR_eI, fx_eI, fxR_eI, h_L_I, hfRows_map h_L_I, ok_eL_I, okR_eL_I, fx_eL_I, fxR_eL_I, -List.map_set]) (by first | rfl | simp [List.map_take, List.map_drop, rvL, rvK, bwL, hfVs, hfV, hfL, hfAll, hfRows, mvV, mvL, mv0, sh0, mvO, mpE, mpV, mpVs, mpO, fzL, rnL, rn0, ok0, nzI, nzB, nzN, nzF, nzP, nzO, nzQ, nzC, shL, shV, shO, okV, okL, okO, List.take_of_length_le, h_I, hfRows_map h_I, ok_eI, okR_eI, fx_eI, fxR_eI, h_L_I, hfRows_map h_L_I, ok_eL_I, okR_eL_I, fx_eL_I, fxR_eL_I, -List.map_set])) ?_
  refine Wp.ret ?_
  obtain rfl := Option.some.inj h
  exact Ret.one rfl (resV_tmp rfl) rfl
theorem c_set_Of (N : Nat) (a0 : List Int) (r : (List Int)) (h : set_Of N a0 = some r) (H : List Ob) : DCall Try.prog 12 [.c (.slv (a0.map eI))] H (.c (.slv (r.map eI))) := DCall.lift (by first | rfl | simp [List.map_take, List.map_drop, rvL, rvK, bwL, hfVs, hfV, hfL, hfAll, hfRows, mvV, mvL, mv0, sh0, mvO, mpE, mpV, mpVs, mpO, fzL, rnL, rn0, ok0, nzI, nzB, nzN, nzF, nzP, nzO, nzQ, nzC, shL, shV, shO, okV, okL, okO, List.take_of_length_le, h_I, hfRows_map h_I, ok_eI, okR_eI, fx_eI, fxR_eI, h_L_I, hfRows_map h_L_I, ok_eL_I, okR_eL_I, fx_eL_I, fxR_eL_I, -List.map_set]) (by first | rfl | simp [List.map_take, List.map_drop, rvL, rvK, bwL, hfVs, hfV, hfL, hfAll, hfRows, mvV, mvL, mv0, sh0, mvO, mpE, mpV, mpVs, mpO, fzL, rnL, rn0, ok0, nzI, nzB, nzN, nzF, nzP, nzO, nzQ, nzC, shL, shV, shO, okV, okL, okO, List.take_of_length_le, h_I, hfRows_map h_I, ok_eI, okR_eI, fx_eI, fxR_eI, h_L_I, hfRows_map h_L_I, ok_eL_I, okR_eL_I, fx_eL_I, fxR_eL_I, -List.map_set]) (fun _ => by simp [List.map_take, List.map_drop, rvL, rvK, bwL, hfVs, hfV, hfL, hfAll, hfRows, mvV, mvL, mv0, sh0, mvO, mpE, mpV, mpVs, mpO, fzL, rnL, rn0, ok0, nzI, nzB, nzN, nzF, nzP, nzO, nzQ, nzC, shL, shV, shO, okV, okL, okO, List.take_of_length_le, h_I, hfRows_map h_I, ok_eI, okR_eI, fx_eI, fxR_eI, h_L_I, hfRows_map h_L_I, ok_eL_I, okR_eL_I, fx_eL_I, fxR_eL_I, -List.map_set]) (w_set_Of N a0 r h) H
theorem b_set_Of (N : Nat) (a0 : List Int) (r : (List Int)) (h : set_Of N a0 = some r) : Nx.Call Try.prog 12 [.c (.slv (a0.map eI))] [] fun r' H' => r' = .c (.sl 0 0 0 r.length) ∧ ∃ junk, H' = [.live 0 1 (r.map eI)] ++ junk := by
  refine Nx.Call.of_body Try.func12 rfl en12 Try.ntmps12 rfl (fun Γ hok => ?_)
  unfold set_Of at h
  refine Wp.seq ?_
  refine Wp.text [0] rfl rfl ?_ -- region 0
  refine TextR.assign rfl ?_
  refine TextR.done (.cons rfl .nil) ?_
  refine Wp.seq ?_
  obtain ⟨y1, hy1, h⟩ := bind_some h
  refine Wp.text [3] rfl rfl ?_ -- region 1
  refine TextR.move rfl ?_
  refine TextR.call rfl rfl (by exact o_slices_Clone_int N a0 y1 hy1 0 rfl .nil) (fun x H' hk => ?_)
  obtain ⟨rfl, rfl⟩ := hk
  refine TextR.assign rfl ?_
  refine TextR.done (.cons rfl .nil) ?_
  refine Wp.seq ?_
  obtain ⟨x2, hx2, h⟩ := bind_some h
  refine Wp.text [3] rfl rfl ?_ -- region 2
  refine TextR.move rfl ?_
  refine TextR.call rfl rfl (by exact call_sort lays189 rfl en29 hx2 rfl .zero) (fun x H' hk => ?_)
  obtain ⟨rfl, rfl⟩ := hk
  refine TextR.done (.cons rfl .nil) ?_
  refine Wp.weak (eqW (S' := ⟨[(3, .c (.sl 0 1 0 x2.length))], [.live 1 1 (x2.map eI)]⟩) (by have e0 := (length_sort hx2).symm; first | rfl | (simp only [List.length_set]; done) | (simp only [List.length_set]; rfl) | (simp only [List.length_set, e0]; done) | (simp only [List.length_set, e0]; rfl))) ?_
  refine Wp.seq ?_
  obtain ⟨x3, hx3, h⟩ := bind_some h
  refine Wp.text [2] rfl rfl ?_ -- region 3
  refine TextR.move rfl ?_
  refine TextR.call rfl rfl (by exact call_ded lays220 rfl en30 hx3 rfl .zero) (fun x H' hk => ?_)
  obtain ⟨rfl, rfl⟩ := hk
  refine TextR.assign rfl ?_
  refine TextR.done (.cons rfl .nil) ?_
  refine Wp.weak (keepW (live := [2] ) (.cons rfl .nil)) ?_
  refine Wp.weak (reverW (h := 0) (ver := 2) (rows := x3.map eI) (e' := [(2, .c (.sl 0 0 0 x3.length))]) (H' := [.live 0 1 (x3.map eI)]) 0 hok.len.symm rfl rfl (rv_self ok_eI fx_eI _) (by simp [rvK, allVp, allO, List.map_take, List.map_drop, rvL, rvK, bwL, hfVs, hfV, hfL, hfAll, hfRows, mvV, mvL, mv0, sh0, mvO, mpE, mpV, mpVs, mpO, fzL, rnL, rn0, ok0, nzI, nzB, nzN, nzF, nzP, nzO, nzQ, nzC, shL, shV, shO, okV, okL, okO, List.take_of_length_le, h_I, hfRows_map h_I, ok_eI, okR_eI, fx_eI, fxR_eI, h_L_I, hfRows_map h_L_I, ok_eL_I, okR_eL_I, fx_eL_I, fxR_eL_I, -List.map_set]) (by simp [rvK, allVp, allO, List.map_take, List.map_drop, rvL, rvK, bwL, hfVs, hfV, hfL, hfAll, hfRows, mvV, mvL, mv0, sh0, mvO, mpE, mpV, mpVs, mpO, fzL, rnL, rn0, ok0, nzI, nzB, nzN, nzF, nzP, nzO, nzQ, nzC, shL, shV, shO, okV, okL, okO, List.take_of_length_le, h_I, hfRows_map h_I, ok_eI, okR_eI, fx_eI, fxR_eI, h_L_I, hfRows_map h_L_I, ok_eL_I, okR_eL_I, fx_eL_I, fxR_eL_I, -List.map_set]) (by first | rfl | simp [List.map_take, List.map_drop, rvL, rvK, bwL, hfVs, hfV, hfL, hfAll, hfRows, mvV, mvL, mv0, sh0, mvO, mpE, mpV, mpVs, mpO, fzL, rnL, rn0, ok0, nzI, nzB, nzN, nzF, nzP, nzO, nzQ, nzC, shL, shV, shO, okV, okL, okO, List.take_of_length_le, h_I, hfRows_map h_I, ok_eI, okR_eI, fx_eI, fxR_eI, h_L_I, hfRows_map h_L_I, ok_eL_I, okR_eL_I, fx_eL_I, fxR_eL_I, -List.map_set]) (by first | rfl | simp [List.map_take, List.map_drop, rvL, rvK, bwL, hfVs, hfV, hfL, hfAll, hfRows, mvV, mvL, mv0, sh0, mvO, mpE, mpV, mpVs, mpO, fzL, rnL, rn0, ok0, nzI, nzB, nzN, nzF, nzP, nzO, nzQ, nzC, shL, shV, shO, okV, okL, okO, List.take_of_length_le, h_I, hfRows_map h_I, ok_eI, okR_eI, fx_eI, fxR_eI, h_L_I, hfRows_map h_L_I, ok_eL_I, okR_eL_I, fx_eL_I, fxR_eL_I, -List.map_set])) ?_
  refine Wp.ret ?_
  obtain rfl := Option.some.inj h
  exact Ret.one rfl (resV_tmp rfl) ⟨rfl, _, rfl⟩
theorem o_set_Of (N : Nat) (a0 : List Int) (r : (List Int)) (h : set_Of N a0 = some r) {H H1 : List Ob} (k : Nat) (hh : H.length = k) (hs : Snoc (.live 0 1 (r.map eI)) H H1) : Nx.Call Try.prog 12 [.c (.slv (a0.map eI))] H fun r' H' => r' = .c (.sl k 0 0 r.length) ∧ H' = H1 := by
  have hc := Call.lift (objs := [.live 0 1 (r.map eI)]) (by first | rfl | simp [List.map_take, List.map_drop, rvL, rvK, bwL, hfVs, hfV, hfL, hfAll, hfRows, mvV, mvL, mv0, sh0, mvO, mpE, mpV, mpVs, mpO, fzL, rnL, rn0, ok0, nzI, nzB, nzN, nzF, nzP, nzO, nzQ, nzC, shL, shV, shO, okV, okL, okO, List.take_of_length_le, h_I, hfRows_map h_I, ok_eI, okR_eI, fx_eI, fxR_eI, h_L_I, hfRows_map h_L_I, ok_eL_I, okR_eL_I, fx_eL_I, fxR_eL_I, -List.map_set]) rfl (by have := okR_eI (p := mvL 1) r; simpa [mvO] using this) (b_set_Of N a0 r h) H
  refine Call.mono hc fun r' H' ⟨h1, h2⟩ => ⟨by subst hh; simpa [shV, shL] using h1, ?_⟩
  rw [h2, ← hs.eq]
  simp [shO, fx_eI]
-- narthex/narthexref01.Same
theorem w_narthexref01_Same (N : Nat) (a0 : List Int) (a1 : List Int) (r : Bool) (h : narthexref01_Same N a0 a1 = some r) : Nx.Call Try.prog 11 [.c (.slv (a0.map eI)), .c (.slv (a1.map eI))] [] fun r' _ => r' = .c (B r) := by
  refine Nx.Call.of_body Try.func11 rfl en11 Try.ntmps11 rfl (fun Γ hok => ?_)
  unfold narthexref01_Same at h
  refine Wp.seq ?_
  refine Wp.text [0, 1] rfl rfl ?_ -- region 0
  refine TextR.assign rfl ?_
  refine TextR.done (.cons rfl (.cons rfl .nil)) ?_
  refine Wp.seq ?_
  refine Wp.seq ?_
  refine Wp.text [0, 1, 10] rfl rfl ?_ -- region 1
  refine TextR.move rfl ?_
  refine TextR.lenM us22 rfl rfl ?_
  refine TextR.move rfl ?_
  refine TextR.lenM us22 rfl rfl ?_
  refine TextR.int rfl rfl rfl ?_
  refine TextR.done (.cons rfl (.cons rfl (.cons rfl .nil))) ?_
  refine Wp.condM h rfl (fun hc1 h => ?_) (fun hc1 h => ?_)
  · refine Wp.seq ?_
    refine Wp.text [4] rfl rfl ?_ -- region 2
    refine TextR.assign rfl ?_
    refine TextR.done (.cons rfl .nil) ?_
    refine Wp.ret ?_
    obtain rfl := Option.some.inj h
    exact Ret.one rfl (resV_tmp rfl) rfl
  · refine Wp.skip ?_
    refine Wp.seq ?_
    refine Wp.seq ?_
    refine Wp.text [0, 1, 5] rfl rfl ?_ -- region 3
    refine TextR.assign rfl ?_
    refine TextR.done (.cons rfl (.cons rfl (.cons rfl .nil))) ?_
    obtain ⟨z1, hz1, h⟩ := bind_some h
    refine Wp.fragR (fun S => ∃ z3, z1 = .inr z3 ∧ ∃ S', St.Weak ⟨Try.prog, 26, Γ⟩ S S' ∧ S' = ⟨[], []⟩) (fun S => ∃ v, z1 = .inl v ∧ Ret Try.prog Try.f11 (fun r' _ => r' = .c (B v)) .ret S) ?_ ?_ ?_
    · replace h := hz1
      refine Wp.block ?_
      refine Wp.weak (keepW (live := [0, 1, 5]) (.cons rfl (.cons rfl (.cons rfl .nil)))) ?_
      refine Wp.loop (fun m S => ∃ s5_1, narthexref01_Same_L1 N a0 a1 m s5_1 = some z1 ∧ S = ⟨[(0, .c (.slv (a0.map eI))), (1, .c (.slv (a1.map eI))), (5, .c (I s5_1))], []⟩) N ⟨_, h, rfl⟩ ?_
      rintro m1 _ ⟨s5_1, h, rfl⟩
      cases m1 with
      | zero => rw [narthexref01_Same_L1.eq_1] at h; cases h
      | succ m1 =>
      rw [narthexref01_Same_L1.eq_2] at h
      refine Wp.seq ?_
      refine Wp.seq ?_
      refine Wp.text [0, 1, 5, 14] rfl rfl ?_ -- region 4
      refine TextR.move rfl ?_
      refine TextR.move rfl ?_
      refine TextR.lenM us22 rfl rfl ?_
      refine TextR.int rfl rfl rfl ?_
      refine TextR.done (.cons rfl (.cons rfl (.cons rfl (.cons rfl .nil)))) ?_
      refine Wp.condM h rfl (fun hc3 h => ?_) (fun hc3 h => ?_)
      · refine Wp.skip ?_
        refine Wp.seq ?_
        refine Wp.block ?_
        refine Wp.seq ?_
        obtain ⟨x4, hx4, h⟩ := bind_some h
        obtain ⟨x5, hx5, h⟩ := bind_some h
        refine Wp.go true (some []) [] [] [0, 1, 5, 25] mixed rfl rfl (by kernel_rfl) ?_ -- region 6
        refine RunR.move rfl rfl rfl ?_
        refine RunR.move rfl rfl rfl ?_
        refine RunR.indexA se22 rfl rfl rfl rfl rfl hx4 rfl ?_
        refine RunR.load1M tk3 rfl rfl rfl (at_get hx4) rfl ?_
        refine RunR.move rfl rfl rfl ?_
        refine RunR.move rfl rfl rfl ?_
        refine RunR.indexA se22 rfl rfl rfl rfl rfl hx5 rfl ?_
        refine RunR.load1M tk3 rfl rfl rfl (at_get hx5) rfl ?_
        refine RunR.int rfl rfl rfl rfl rfl ?_
        refine RunR.doneQ (.cons rfl (.cons rfl (.cons rfl (.cons rfl .nil)))) ?_
        refine Wp.condM h rfl (fun hc4 h => ?_) (fun hc4 h => ?_)
        · refine Wp.seq ?_
          refine Wp.text [4] rfl rfl ?_ -- region 7
          refine TextR.assign rfl ?_
          refine TextR.done (.cons rfl .nil) ?_
          refine Wp.ret ?_
          exact ⟨_, (Option.some.inj h).symm, Ret.one rfl (resV_tmp rfl) rfl⟩
        · refine Wp.skip ?_
          refine Wp.text [0, 1, 5] rfl rfl ?_ -- region 5
          refine TextR.move rfl ?_
          refine TextR.int rfl rfl rfl ?_
          refine TextR.assign rfl ?_
          refine TextR.done (.cons rfl (.cons rfl (.cons rfl .nil))) ?_
          exact ⟨m1, Nat.lt_succ_self _, _, (keepW (live := [0, 1, 5]) (.cons rfl (.cons rfl (.cons rfl .nil)))), _, h, rfl⟩
      · refine Wp.exit ?_
        exact ⟨_, (Option.some.inj h).symm, _, (keepW (live := []) .nil), rfl⟩
    · rintro _ ⟨z3, rfl, _, hw, rfl⟩
      dsimp only at h
      clear hz1
      refine Wp.weak hw ?_
      refine Wp.seq ?_
      refine Wp.text [4] rfl rfl ?_ -- region 8
      refine TextR.assign rfl ?_
      refine TextR.done (.cons rfl .nil) ?_
      refine Wp.ret ?_
      obtain rfl := Option.some.inj h
      exact Ret.one rfl (resV_tmp rfl) rfl
    · rintro S' ⟨r2, rfl, hR⟩
      dsimp only at h
      obtain rfl := Option.some.inj h
      exact hR
theorem c_narthexref01_Same (N : Nat) (a0 : List Int) (a1 : List Int) (r : Bool) (h : narthexref01_Same N a0 a1 = some r) (H : List Ob) : DCall Try.prog 11 [.c (.slv (a0.map eI)), .c (.slv (a1.map eI))] H (.c (B r)) := DCall.lift (by first | rfl | simp [List.map_take, List.map_drop, rvL, rvK, bwL, hfVs, hfV, hfL, hfAll, hfRows, mvV, mvL, mv0, sh0, mvO, mpE, mpV, mpVs, mpO, fzL, rnL, rn0, ok0, nzI, nzB, nzN, nzF, nzP, nzO, nzQ, nzC, shL, shV, shO, okV, okL, okO, List.take_of_length_le, h_I, hfRows_map h_I, ok_eI, okR_eI, fx_eI, fxR_eI, h_L_I, hfRows_map h_L_I, ok_eL_I, okR_eL_I, fx_eL_I, fxR_eL_I, -List.map_set]) (by first | rfl | simp [List.map_take, List.map_drop, rvL, rvK, bwL, hfVs, hfV, hfL, hfAll, hfRows, mvV, mvL, mv0, sh0, mvO, mpE, mpV, mpVs, mpO, fzL, rnL, rn0, ok0, nzI, nzB, nzN, nzF, nzP, nzO, nzQ, nzC, shL, shV, shO, okV, okL, okO, List.take_of_length_le, h_I, hfRows_map h_I, ok_eI, okR_eI, fx_eI, fxR_eI, h_L_I, hfRows_map h_L_I, ok_eL_I, okR_eL_I, fx_eL_I, fxR_eL_I, -List.map_set]) (fun _ => by simp [List.map_take, List.map_drop, rvL, rvK, bwL, hfVs, hfV, hfL, hfAll, hfRows, mvV, mvL, mv0, sh0, mvO, mpE, mpV, mpVs, mpO, fzL, rnL, rn0, ok0, nzI, nzB, nzN, nzF, nzP, nzO, nzQ, nzC, shL, shV, shO, okV, okL, okO, List.take_of_length_le, h_I, hfRows_map h_I, ok_eI, okR_eI, fx_eI, fxR_eI, h_L_I, hfRows_map h_L_I, ok_eL_I, okR_eL_I, fx_eL_I, fxR_eL_I, -List.map_set]) (w_narthexref01_Same N a0 a1 r h) H
-- slices.Grow[[]int,int]
theorem w_slices_Grow_int (N : Nat) (a1 : Int) (r : (List Int)) (h : slices_Grow_int N a1 = some r) : Nx.Call Try.prog 42 [.c (nilS), .c (I a1)] [] fun r' _ => r' = .c (.slv (r.map eI)) := by
  refine Nx.Call.of_body Try.func42 rfl en42 Try.ntmps42 rfl (fun Γ hok => ?_)
  unfold slices_Grow_int at h
  refine Wp.seq ?_
  refine Wp.text [0, 1] rfl rfl ?_ -- region 0
  refine TextR.assign rfl ?_
  refine TextR.done (.cons rfl (.cons rfl .nil)) ?_
  refine Wp.seq ?_
  refine Wp.seq ?_
  refine Wp.text [0, 1, 6] rfl rfl ?_ -- region 1
  refine TextR.move rfl ?_
  refine TextR.int rfl rfl rfl ?_
  refine TextR.done (.cons rfl (.cons rfl (.cons rfl .nil))) ?_
  refine Wp.condM h rfl (fun hc1 h => ?_) (fun hc1 h => ?_)
  · cases h
  · refine Wp.skip ?_
    refine Wp.seq ?_
    refine Wp.seq ?_
    refine Wp.text [0, 1] rfl rfl ?_ -- region 3
    refine TextR.move rfl ?_
    refine TextR.move rfl ?_
    refine TextR.capN us22 rfl ?_
    refine TextR.move rfl ?_
    refine TextR.len us22 rfl rfl ?_
    refine TextR.int rfl rfl rfl ?_
    refine TextR.int rfl rfl rfl ?_
    refine TextR.assign rfl ?_
    refine TextR.done (.cons rfl (.cons rfl .nil)) ?_
    refine Wp.seq ?_
    refine Wp.text [0, 1, 16] rfl rfl ?_ -- region 4
    refine TextR.move rfl ?_
    refine TextR.int rfl rfl rfl ?_
    refine TextR.done (.cons rfl (.cons rfl (.cons rfl .nil))) ?_
    refine Wp.condM h rfl (fun hc2 h => ?_) (fun hc2 h => ?_)
    · obtain ⟨x1, hx1, h⟩ := bind_some h
      obtain ⟨x2, hx2, h⟩ := bind_some h
      refine Wp.text [0] rfl rfl ?_ -- region 5
      refine TextR.move rfl ?_
      refine TextR.move rfl ?_
      refine TextR.capN us22 rfl ?_
      refine TextR.sliceN se22 rfl rfl rfl rfl rfl ?_
      refine TextR.move rfl ?_
      refine TextR.appendZ 0 eI 0 x1 hx1 ik3 se22 rfl rfl rfl rfl rfl .nil ?_
      refine TextR.move rfl ?_
      refine TextR.len us22 rfl rfl ?_
      refine TextR.sliceOM se22 rfl rfl rfl rfl rfl rfl hx2 ?_
      refine TextR.assign rfl ?_
      refine TextR.done (.cons rfl .nil) ?_
      refine Wp.seq ?_
      refine Wp.text [4] rfl rfl ?_ -- region 6
      refine TextR.move rfl ?_
      refine TextR.assign rfl ?_
      refine TextR.done (.cons rfl .nil) ?_
      refine Wp.weak (keepW (live := [4] ) (.cons rfl .nil)) ?_
      refine Wp.weak (freezeW (h := 0) (ver := 0) (rows := x1.map eI) (e' := [(4, .c (.slv (x2.map eI)))]) (H' := [.dead]) rfl (by first | rfl | (have q0 := sub_rows (f := eI) hx2; have p0 := sub_le hx2; simp at q0 p0; simp [List.map_take, List.map_drop, rvL, rvK, bwL, hfVs, hfV, hfL, hfAll, hfRows, mvV, mvL, mv0, sh0, mvO, mpE, mpV, mpVs, mpO, fzL, rnL, rn0, ok0, nzI, nzB, nzN, nzF, nzP, nzO, nzQ, nzC, shL, shV, shO, okV, okL, okO, List.take_of_length_le, h_I, hfRows_map h_I, ok_eI, okR_eI, fx_eI, fxR_eI, h_L_I, hfRows_map h_L_I, ok_eL_I, okR_eL_I, fx_eL_I, fxR_eL_I, -List.map_set, q0, p0]; done)) (by first | rfl | (have q0 := sub_rows (f := eI) hx2; have p0 := sub_le hx2; simp at q0 p0; simp [List.map_take, List.map_drop, rvL, rvK, bwL, hfVs, hfV, hfL, hfAll, hfRows, mvV, mvL, mv0, sh0, mvO, mpE, mpV, mpVs, mpO, fzL, rnL, rn0, ok0, nzI, nzB, nzN, nzF, nzP, nzO, nzQ, nzC, shL, shV, shO, okV, okL, okO, List.take_of_length_le, h_I, hfRows_map h_I, ok_eI, okR_eI, fx_eI, fxR_eI, h_L_I, hfRows_map h_L_I, ok_eL_I, okR_eL_I, fx_eL_I, fxR_eL_I, -List.map_set, q0, p0]; done))) ?_
      refine Wp.ret ?_
      obtain rfl := Option.some.inj h
      exact Ret.one rfl (resV_tmp rfl) rfl
    · refine Wp.skip ?_
      refine Wp.seq ?_
      refine Wp.text [4] rfl rfl ?_ -- region 6
      refine TextR.move rfl ?_
      refine TextR.assign rfl ?_
      refine TextR.done (.cons rfl .nil) ?_
      refine Wp.weak (keepW (live := [4] ) (.cons rfl .nil)) ?_
      refine Wp.weak (nzT (e' := [(4, .c (.slv ([].map eI)))]) (H' := []) (by first | rfl | simp [List.map_take, List.map_drop, rvL, rvK, bwL, hfVs, hfV, hfL, hfAll, hfRows, mvV, mvL, mv0, sh0, mvO, mpE, mpV, mpVs, mpO, fzL, rnL, rn0, ok0, nzI, nzB, nzN, nzF, nzP, nzO, nzQ, nzC, shL, shV, shO, okV, okL, okO, List.take_of_length_le, h_I, hfRows_map h_I, ok_eI, okR_eI, fx_eI, fxR_eI, h_L_I, hfRows_map h_L_I, ok_eL_I, okR_eL_I, fx_eL_I, fxR_eL_I, -List.map_set]) (by first | rfl | simp [List.map_take, List.map_drop, rvL, rvK, bwL, hfVs, hfV, hfL, hfAll, hfRows, mvV, mvL, mv0, sh0, mvO, mpE, mpV, mpVs, mpO, fzL, rnL, rn0, ok0, nzI, nzB, nzN, nzF, nzP, nzO, nzQ, nzC, shL, shV, shO, okV, okL, okO, List.take_of_length_le, h_I, hfRows_map h_I, ok_eI, okR_eI, fx_eI, fxR_eI, h_L_I, hfRows_map h_L_I, ok_eL_I, okR_eL_I, fx_eL_I, fxR_eL_I, -List.map_set])) ?_
      refine Wp.ret ?_
      obtain rfl := Option.some.inj h
      exact Ret.one rfl (resV_tmp rfl) rfl
theorem c_slices_Grow_int (N : Nat) (a1 : Int) (r : (List Int)) (h : slices_Grow_int N a1 = some r) (H : List Ob) : DCall Try.prog 42 [.c (nilS), .c (I a1)] H (.c (.slv (r.map eI))) := DCall.lift (by first | rfl | simp [List.map_take, List.map_drop, rvL, rvK, bwL, hfVs, hfV, hfL, hfAll, hfRows, mvV, mvL, mv0, sh0, mvO, mpE, mpV, mpVs, mpO, fzL, rnL, rn0, ok0, nzI, nzB, nzN, nzF, nzP, nzO, nzQ, nzC, shL, shV, shO, okV, okL, okO, List.take_of_length_le, h_I, hfRows_map h_I, ok_eI, okR_eI, fx_eI, fxR_eI, h_L_I, hfRows_map h_L_I, ok_eL_I, okR_eL_I, fx_eL_I, fxR_eL_I, -List.map_set]) (by first | rfl | simp [List.map_take, List.map_drop, rvL, rvK, bwL, hfVs, hfV, hfL, hfAll, hfRows, mvV, mvL, mv0, sh0, mvO, mpE, mpV, mpVs, mpO, fzL, rnL, rn0, ok0, nzI, nzB, nzN, nzF, nzP, nzO, nzQ, nzC, shL, shV, shO, okV, okL, okO, List.take_of_length_le, h_I, hfRows_map h_I, ok_eI, okR_eI, fx_eI, fxR_eI, h_L_I, hfRows_map h_L_I, ok_eL_I, okR_eL_I, fx_eL_I, fxR_eL_I, -List.map_set]) (fun _ => by simp [List.map_take, List.map_drop, rvL, rvK, bwL, hfVs, hfV, hfL, hfAll, hfRows, mvV, mvL, mv0, sh0, mvO, mpE, mpV, mpVs, mpO, fzL, rnL, rn0, ok0, nzI, nzB, nzN, nzF, nzP, nzO, nzQ, nzC, shL, shV, shO, okV, okL, okO, List.take_of_length_le, h_I, hfRows_map h_I, ok_eI, okR_eI, fx_eI, fxR_eI, h_L_I, hfRows_map h_L_I, ok_eL_I, okR_eL_I, fx_eL_I, fxR_eL_I, -List.map_set]) (w_slices_Grow_int N a1 r h) H
theorem b_slices_Grow_int (N : Nat) (a1 : Int) (r : (List Int)) (h : slices_Grow_int_o N a1 = some r) : Nx.Call Try.prog 42 [.c (nilS), .c (I a1)] [] fun r' H' => r' = .c (.sl 0 0 0 r.length) ∧ ∃ junk, H' = [.live 0 1 (r.map eI)] ++ junk := by
  refine Nx.Call.of_body Try.func42 rfl en42 Try.ntmps42 rfl (fun Γ hok => ?_)
  unfold slices_Grow_int_o at h
  refine Wp.seq ?_
  refine Wp.text [0, 1] rfl rfl ?_ -- region 0
  refine TextR.assign rfl ?_
  refine TextR.done (.cons rfl (.cons rfl .nil)) ?_
  refine Wp.seq ?_
  refine Wp.seq ?_
  refine Wp.text [0, 1, 6] rfl rfl ?_ -- region 1
  refine TextR.move rfl ?_
  refine TextR.int rfl rfl rfl ?_
  refine TextR.done (.cons rfl (.cons rfl (.cons rfl .nil))) ?_
  refine Wp.condM h rfl (fun hc1 h => ?_) (fun hc1 h => ?_)
  · cases h
  · refine Wp.skip ?_
    refine Wp.seq ?_
    refine Wp.seq ?_
    refine Wp.text [0, 1] rfl rfl ?_ -- region 3
    refine TextR.move rfl ?_
    refine TextR.move rfl ?_
    refine TextR.capN us22 rfl ?_
    refine TextR.move rfl ?_
    refine TextR.len us22 rfl rfl ?_
    refine TextR.int rfl rfl rfl ?_
    refine TextR.int rfl rfl rfl ?_
    refine TextR.assign rfl ?_
    refine TextR.done (.cons rfl (.cons rfl .nil)) ?_
    refine Wp.seq ?_
    refine Wp.text [0, 1, 16] rfl rfl ?_ -- region 4
    refine TextR.move rfl ?_
    refine TextR.int rfl rfl rfl ?_
    refine TextR.done (.cons rfl (.cons rfl (.cons rfl .nil))) ?_
    refine Wp.condM h rfl (fun hc2 h => ?_) (fun hc2 h => ?_)
    · obtain ⟨x1, hx1, h⟩ := bind_some h
      obtain ⟨x2, hx2, h⟩ := bind_some h
      refine Wp.text [0] rfl rfl ?_ -- region 5
      refine TextR.move rfl ?_
      refine TextR.move rfl ?_
      refine TextR.capN us22 rfl ?_
      refine TextR.sliceN se22 rfl rfl rfl rfl rfl ?_
      refine TextR.move rfl ?_
      refine TextR.appendZ 0 eI 0 x1 hx1 ik3 se22 rfl rfl rfl rfl rfl .nil ?_
      refine TextR.move rfl ?_
      refine TextR.len us22 rfl rfl ?_
      refine TextR.sliceOM se22 rfl rfl rfl rfl rfl rfl hx2 ?_
      refine TextR.assign rfl ?_
      refine TextR.done (.cons rfl .nil) ?_
      refine Wp.seq ?_
      refine Wp.text [4] rfl rfl ?_ -- region 6
      refine TextR.move rfl ?_
      refine TextR.assign rfl ?_
      refine TextR.done (.cons rfl .nil) ?_
      refine Wp.weak (keepW (live := [4] ) (.cons rfl .nil)) ?_
      refine Wp.weak (narrowE (t := 4) (rows' := x2.map eI) rfl rfl (by have q := sub_le hx2; simp at q ⊢; omega) (sub_rows hx2) .zero) ?_
      refine Wp.weak (keepW (live := [4] ) (.cons rfl .nil)) ?_
      refine Wp.weak (reverW (h := 0) (ver := 1) (rows := x2.map eI) (e' := [(4, .c (.sl 0 0 0 x2.length))]) (H' := [.live 0 1 (x2.map eI)]) 0 hok.len.symm rfl rfl (rv_self ok_eI fx_eI _) (by simp [rvK, allVp, allO, List.map_take, List.map_drop, rvL, rvK, bwL, hfVs, hfV, hfL, hfAll, hfRows, mvV, mvL, mv0, sh0, mvO, mpE, mpV, mpVs, mpO, fzL, rnL, rn0, ok0, nzI, nzB, nzN, nzF, nzP, nzO, nzQ, nzC, shL, shV, shO, okV, okL, okO, List.take_of_length_le, h_I, hfRows_map h_I, ok_eI, okR_eI, fx_eI, fxR_eI, h_L_I, hfRows_map h_L_I, ok_eL_I, okR_eL_I, fx_eL_I, fxR_eL_I, -List.map_set]) (by simp [rvK, allVp, allO, List.map_take, List.map_drop, rvL, rvK, bwL, hfVs, hfV, hfL, hfAll, hfRows, mvV, mvL, mv0, sh0, mvO, mpE, mpV, mpVs, mpO, fzL, rnL, rn0, ok0, nzI, nzB, nzN, nzF, nzP, nzO, nzQ, nzC, shL, shV, shO, okV, okL, okO, List.take_of_length_le, h_I, hfRows_map h_I, ok_eI, okR_eI, fx_eI, fxR_eI, h_L_I, hfRows_map h_L_I, ok_eL_I, okR_eL_I, fx_eL_I, fxR_eL_I, -List.map_set]) (by first | rfl | simp [List.map_take, List.map_drop, rvL, rvK, bwL, hfVs, hfV, hfL, hfAll, hfRows, mvV, mvL, mv0, sh0, mvO, mpE, mpV, mpVs, mpO, fzL, rnL, rn0, ok0, nzI, nzB, nzN, nzF, nzP, nzO, nzQ, nzC, shL, shV, shO, okV, okL, okO, List.take_of_length_le, h_I, hfRows_map h_I, ok_eI, okR_eI, fx_eI, fxR_eI, h_L_I, hfRows_map h_L_I, ok_eL_I, okR_eL_I, fx_eL_I, fxR_eL_I, -List.map_set]) (by first | rfl | simp [List.map_take, List.map_drop, rvL, rvK, bwL, hfVs, hfV, hfL, hfAll, hfRows, mvV, mvL, mv0, sh0, mvO, mpE, mpV, mpVs, mpO, fzL, rnL, rn0, ok0, nzI, nzB, nzN, nzF, nzP, nzO, nzQ, nzC, shL, shV, shO, okV, okL, okO, List.take_of_length_le, h_I, hfRows_map h_I, ok_eI, okR_eI, fx_eI, fxR_eI, h_L_I, hfRows_map h_L_I, ok_eL_I, okR_eL_I, fx_eL_I, fxR_eL_I, -List.map_set])) ?_
      refine Wp.ret ?_
      obtain rfl := Option.some.inj h
      exact Ret.one rfl (resV_tmp rfl) ⟨rfl, _, rfl⟩
    · refine Wp.skip ?_
      refine Wp.seq ?_
      refine Wp.text [4] rfl rfl ?_ -- region 6
      refine TextR.move rfl ?_
      refine TextR.assign rfl ?_
      refine TextR.done (.cons rfl .nil) ?_
      refine Wp.weak (keepW (live := [4] ) (.cons rfl .nil)) ?_
      refine Wp.weak (nilW (e := [(4, .c (nilS))]) (H := []) (t := 4) 0 1 0 rfl rfl .nil) ?_
      refine Wp.weak (keepW (live := [4] ) (.cons rfl .nil)) ?_
      refine Wp.ret ?_
      obtain rfl := Option.some.inj h
      exact Ret.one rfl (resV_tmp rfl) ⟨rfl, _, rfl⟩
theorem o_slices_Grow_int (N : Nat) (a1 : Int) (r : (List Int)) (h : slices_Grow_int_o N a1 = some r) {H H1 : List Ob} (k : Nat) (hh : H.length = k) (hs : Snoc (.live 0 1 (r.map eI)) H H1) : Nx.Call Try.prog 42 [.c (nilS), .c (I a1)] H fun r' H' => r' = .c (.sl k 0 0 r.length) ∧ H' = H1 := by
  have hc := Call.lift (objs := [.live 0 1 (r.map eI)]) (by first | rfl | simp [List.map_take, List.map_drop, rvL, rvK, bwL, hfVs, hfV, hfL, hfAll, hfRows, mvV, mvL, mv0, sh0, mvO, mpE, mpV, mpVs, mpO, fzL, rnL, rn0, ok0, nzI, nzB, nzN, nzF, nzP, nzO, nzQ, nzC, shL, shV, shO, okV, okL, okO, List.take_of_length_le, h_I, hfRows_map h_I, ok_eI, okR_eI, fx_eI, fxR_eI, h_L_I, hfRows_map h_L_I, ok_eL_I, okR_eL_I, fx_eL_I, fxR_eL_I, -List.map_set]) rfl (by have := okR_eI (p := mvL 1) r; simpa [mvO] using this) (b_slices_Grow_int N a1 r h) H
  refine Call.mono hc fun r' H' ⟨h1, h2⟩ => ⟨by subst hh; simpa [shV, shL] using h1, ?_⟩
  rw [h2, ← hs.eq]
  simp [shO, fx_eI]
-- slices.Concat[[]int,int]
theorem w_slices_Concat_int (N : Nat) (a0 : List (List Int)) (r : (List Int)) (h : slices_Concat_int N a0 = some r) : Nx.Call Try.prog 33 [.c (.slv (a0.map eL_I))] [] fun r' _ => r' = .c (.slv (r.map eI)) := by
  refine Nx.Call.of_body Try.func33 rfl en33 Try.ntmps33 rfl (fun Γ hok => ?_)
  unfold slices_Concat_int at h
  refine Wp.seq ?_
  refine Wp.text [0] rfl rfl ?_ -- region 0
  refine TextR.assign rfl ?_
  refine TextR.done (.cons rfl .nil) ?_
  refine Wp.seq ?_
  refine Wp.text [0, 3] rfl rfl ?_ -- region 1
  refine TextR.assign rfl ?_
  refine TextR.done (.cons rfl (.cons rfl .nil)) ?_
  refine Wp.seq ?_
  refine Wp.seq ?_
  refine Wp.text [0, 3, 9, 10, 11] rfl rfl ?_ -- region 2
  refine TextR.move rfl ?_
  refine TextR.lenM us44 rfl rfl ?_
  refine TextR.move rfl ?_
  refine TextR.done (.cons rfl (.cons rfl (.cons rfl (.cons rfl (.cons rfl .nil))))) ?_
  obtain ⟨z1, hz1, h⟩ := bind_some h
  refine Wp.fragN (fun S => ∃ S', St.Weak ⟨Try.prog, 36, Γ⟩ S S' ∧ S' = ⟨[(0, .c (.slv (a0.map eL_I))), (3, .c (I z1))], []⟩) ?_ ?_
  · replace h := hz1
    refine Wp.block ?_
    refine Wp.weak (keepW (live := [0, 3, 9, 10, 11]) (.cons rfl (.cons rfl (.cons rfl (.cons rfl (.cons rfl .nil)))))) ?_
    refine Wp.loop (fun m S => ∃ s3_1, ∃ s11_1, slices_Concat_int_L1 N a0 m s3_1 s11_1 = some z1 ∧ S = ⟨[(0, .c (.slv (a0.map eL_I))), (3, .c (I s3_1)), (9, .c (.slv (a0.map eL_I))), (10, .c (I (a0.length : Int))), (11, .c (I s11_1))], []⟩) N ⟨_, _, h, rfl⟩ ?_
    rintro m1 _ ⟨s3_1, s11_1, h, rfl⟩
    cases m1 with
    | zero => rw [slices_Concat_int_L1.eq_1] at h; cases h
    | succ m1 =>
    rw [slices_Concat_int_L1.eq_2] at h
    refine Wp.seq ?_
    refine Wp.text [0, 3, 9, 10, 11, 12] rfl rfl ?_ -- region 3
    refine TextR.int rfl rfl rfl ?_
    refine TextR.done (.cons rfl (.cons rfl (.cons rfl (.cons rfl (.cons rfl (.cons rfl .nil)))))) ?_
    refine Wp.seq ?_
    refine Wp.condM h rfl (fun hc2 h => ?_) (fun hc2 h => ?_)
    · refine Wp.skip ?_
      refine Wp.seq ?_
      refine Wp.block ?_
      refine Wp.seq ?_
      obtain ⟨x2, hx2, h⟩ := bind_some h
      refine Wp.text [0, 3, 5, 9, 10, 11] rfl rfl ?_ -- region 4
      refine TextR.indexA se44 rfl rfl rfl hx2 rfl ?_
      refine TextR.load1M tk22 rfl (at_get hx2) rfl ?_
      refine TextR.assign rfl ?_
      refine TextR.done (.cons rfl (.cons rfl (.cons rfl (.cons rfl (.cons rfl (.cons rfl .nil)))))) ?_
      refine Wp.seq ?_
      refine Wp.text [0, 3, 9, 10, 11] rfl rfl ?_ -- region 5
      refine TextR.move rfl ?_
      refine TextR.move rfl ?_
      refine TextR.lenM us22 rfl rfl ?_
      refine TextR.int rfl rfl rfl ?_
      refine TextR.assign rfl ?_
      refine TextR.done (.cons rfl (.cons rfl (.cons rfl (.cons rfl (.cons rfl .nil))))) ?_
      refine Wp.seq ?_
      refine Wp.text [0, 3, 9, 10, 11, 20] rfl rfl ?_ -- region 6
      refine TextR.move rfl ?_
      refine TextR.int rfl rfl rfl ?_
      refine TextR.done (.cons rfl (.cons rfl (.cons rfl (.cons rfl (.cons rfl (.cons rfl .nil)))))) ?_
      refine Wp.condM h rfl (fun hc3 h => ?_) (fun hc3 h => ?_)
      · cases h
      · refine Wp.skip ?_
        refine Wp.text [0, 3, 9, 10, 11] rfl rfl ?_ -- region 8
        refine TextR.int rfl rfl rfl ?_
        refine TextR.move rfl ?_
        refine TextR.done (.cons rfl (.cons rfl (.cons rfl (.cons rfl (.cons rfl .nil))))) ?_
        exact ⟨m1, Nat.lt_succ_self _, _, (keepW (live := [0, 3, 9, 10, 11]) (.cons rfl (.cons rfl (.cons rfl (.cons rfl (.cons rfl .nil)))))), _, _, h, rfl⟩
    · refine Wp.exit ?_
      obtain rfl := Option.some.inj h
      exact ⟨_, (keepW (live := [0, 3]) (.cons rfl (.cons rfl .nil))), rfl⟩
  rintro _ ⟨S', hw, rfl⟩
  clear hz1
  refine Wp.weak hw ?_
  refine Wp.seq ?_
  obtain ⟨y3, hy3, h⟩ := bind_some h
  refine Wp.text [0, 6] rfl rfl ?_ -- region 9
  refine TextR.move rfl ?_
  refine TextR.call rfl rfl (by exact o_slices_Grow_int N z1 y3 hy3 0 rfl .nil) (fun x H' hk => ?_)
  obtain ⟨rfl, rfl⟩ := hk
  refine TextR.assign rfl ?_
  refine TextR.done (.cons rfl (.cons rfl .nil)) ?_
  refine Wp.seq ?_
  refine Wp.seq ?_
  refine Wp.text [6, 25, 26, 27] rfl rfl ?_ -- region 10
  refine TextR.move rfl ?_
  refine TextR.lenM us44 rfl rfl ?_
  refine TextR.move rfl ?_
  refine TextR.done (.cons rfl (.cons rfl (.cons rfl (.cons rfl .nil)))) ?_
  obtain ⟨z4, hz4, h⟩ := bind_some h
  refine Wp.fragN (fun S => ∃ wz4_0, ∃ S', St.Weak ⟨Try.prog, 36, Γ⟩ S S' ∧ S' = ⟨[(6, .c (.sl 0 wz4_0 0 z4.length))], [.live wz4_0 1 (z4.map eI)]⟩) ?_ ?_
  · replace h := hz4
    refine Wp.block ?_
    refine Wp.weak (keepW (live := [6, 25, 26, 27]) (.cons rfl (.cons rfl (.cons rfl (.cons rfl .nil))))) ?_
    refine Wp.loop (fun m S => ∃ l0_2, ∃ s27_2, ∃ wh0_2, slices_Concat_int_L2 N a0 m l0_2 s27_2 = some z4 ∧ S = ⟨[(6, .c (.sl 0 wh0_2 0 l0_2.length)), (25, .c (.slv (a0.map eL_I))), (26, .c (I (a0.length : Int))), (27, .c (I s27_2))], [.live wh0_2 1 (l0_2.map eI)]⟩) N ⟨_, _, _, h, rfl⟩ ?_
    rintro m2 _ ⟨l0_2, s27_2, wh0_2, h, rfl⟩
    cases m2 with
    | zero => rw [slices_Concat_int_L2.eq_1] at h; cases h
    | succ m2 =>
    rw [slices_Concat_int_L2.eq_2] at h
    refine Wp.seq ?_
    refine Wp.text [6, 25, 26, 27, 28] rfl rfl ?_ -- region 11
    refine TextR.int rfl rfl rfl ?_
    refine TextR.done (.cons rfl (.cons rfl (.cons rfl (.cons rfl (.cons rfl .nil))))) ?_
    refine Wp.seq ?_
    refine Wp.condM h rfl (fun hc2 h => ?_) (fun hc2 h => ?_)
    · refine Wp.skip ?_
      refine Wp.seq ?_
      refine Wp.block ?_
      refine Wp.seq ?_
      obtain ⟨x5, hx5, h⟩ := bind_some h
      refine Wp.text [6, 8, 25, 26, 27] rfl rfl ?_ -- region 12
      refine TextR.indexA se44 rfl rfl rfl hx5 rfl ?_
      refine TextR.load1M tk22 rfl (at_get hx5) rfl ?_
      refine TextR.assign rfl ?_
      refine TextR.done (.cons rfl (.cons rfl (.cons rfl (.cons rfl (.cons rfl .nil))))) ?_
      obtain ⟨x6, hx6, h⟩ := bind_some h
      refine Wp.text [6, 25, 26, 27] rfl rfl ?_ -- region 13
      refine TextR.move rfl ?_
      refine TextR.move rfl ?_
      refine TextR.appendM eI l0_2 x5 x6 (app_eq hx6) se22 rfl (obj_of rfl) rfl rfl (fun _ => rfl) rfl (app_len hx6) .zero ?_
      refine TextR.assign rfl ?_
      refine TextR.done (.cons rfl (.cons rfl (.cons rfl (.cons rfl .nil)))) ?_
      refine Wp.text [6, 25, 26, 27] rfl rfl ?_ -- region 14
      refine TextR.int rfl rfl rfl ?_
      refine TextR.move rfl ?_
      refine TextR.done (.cons rfl (.cons rfl (.cons rfl (.cons rfl .nil)))) ?_
      exact ⟨m2, Nat.lt_succ_self _, _, (keepW (live := [6, 25, 26, 27]) (.cons rfl (.cons rfl (.cons rfl (.cons rfl .nil))))), _, _, _, h, rfl⟩
    · refine Wp.exit ?_
      obtain rfl := Option.some.inj h
      exact ⟨_, _, (keepW (live := [6]) (.cons rfl .nil)), rfl⟩
  rintro _ ⟨wz4_0, S', hw, rfl⟩
  clear hz4
  refine Wp.weak hw ?_
  refine Wp.seq ?_
  refine Wp.text [2] rfl rfl ?_ -- region 15
  refine TextR.move rfl ?_
  refine TextR.assign rfl ?_
  refine TextR.done (.cons rfl .nil) ?_
  refine Wp.weak (keepW (live := [2] ) (.cons rfl .nil)) ?_
  refine Wp.weak (freezeW (h := 0) (ver := wz4_0) (rows := z4.map eI) (e' := [(2, .c (.slv (z4.map eI)))]) (H' := [.dead]) (obj_of rfl) (by first | rfl | simp [List.map_take, List.map_drop, rvL, rvK, bwL, hfVs, hfV, hfL, hfAll, hfRows, mvV, mvL, mv0, sh0, mvO, mpE, mpV, mpVs, mpO, fzL, rnL, rn0, ok0, nzI, nzB, nzN, nzF, nzP, nzO, nzQ, nzC, shL, shV, shO, okV, okL, okO, List.take_of_length_le, h_I, hfRows_map h_I, ok_eI, okR_eI, fx_eI, fxR_eI, h_L_I, hfRows_map h_L_I, ok_eL_I, okR_eL_I, fx_eL_I, fxR_eL_I, -List.map_set]) (by first | rfl | simp [List.map_take, List.map_drop, rvL, rvK, bwL, hfVs, hfV, hfL, hfAll, hfRows, mvV, mvL, mv0, sh0, mvO, mpE, mpV, mpVs, mpO, fzL, rnL, rn0, ok0, nzI, nzB, nzN, nzF, nzP, nzO, nzQ, nzC, shL, shV, shO, okV, okL, okO, List.take_of_length_le, h_I, hfRows_map h_I, ok_eI, okR_eI, fx_eI, fxR_eI, h_L_I, hfRows_map h_L_I, ok_eL_I, okR_eL_I, fx_eL_I, fxR_eL_I, -List.map_set])) ?_
  refine Wp.ret ?_
  obtain rfl := Option.some.inj h
  exact Ret.one rfl (resV_tmp rfl) rfl
theorem c_slices_Concat_int (N : Nat) (a0 : List (List Int)) (r : (List Int)) (h : slices_Concat_int N a0 = some r) (H : List Ob) : DCall Try.prog 33 [.c (.slv (a0.map eL_I))] H (.c (.slv (r.map eI))) := DCall.lift (by first | rfl | simp [List.map_take, List.map_drop, rvL, rvK, bwL, hfVs, hfV, hfL, hfAll, hfRows, mvV, mvL, mv0, sh0, mvO, mpE, mpV, mpVs, mpO, fzL, rnL, rn0, ok0, nzI, nzB, nzN, nzF, nzP, nzO, nzQ, nzC, shL, shV, shO, okV, okL, okO, List.take_of_length_le, h_I, hfRows_map h_I, ok_eI, okR_eI, fx_eI, fxR_eI, h_L_I, hfRows_map h_L_I, ok_eL_I, okR_eL_I, fx_eL_I, fxR_eL_I, -List.map_set]) (by first | rfl | simp [List.map_take, List.map_drop, rvL, rvK, bwL, hfVs, hfV, hfL, hfAll, hfRows, mvV, mvL, mv0, sh0, mvO, mpE, mpV, mpVs, mpO, fzL, rnL, rn0, ok0, nzI, nzB, nzN, nzF, nzP, nzO, nzQ, nzC, shL, shV, shO, okV, okL, okO, List.take_of_length_le, h_I, hfRows_map h_I, ok_eI, okR_eI, fx_eI, fxR_eI, h_L_I, hfRows_map h_L_I, ok_eL_I, okR_eL_I, fx_eL_I, fxR_eL_I, -List.map_set]) (fun _ => by simp [List.map_take, List.map_drop, rvL, rvK, bwL, hfVs, hfV, hfL, hfAll, hfRows, mvV, mvL, mv0, sh0, mvO, mpE, mpV, mpVs, mpO, fzL, rnL, rn0, ok0, nzI, nzB, nzN, nzF, nzP, nzO, nzQ, nzC, shL, shV, shO, okV, okL, okO, List.take_of_length_le, h_I, hfRows_map h_I, ok_eI, okR_eI, fx_eI, fxR_eI, h_L_I, hfRows_map h_L_I, ok_eL_I, okR_eL_I, fx_eL_I, fxR_eL_I, -List.map_set]) (w_slices_Concat_int N a0 r h) H
-- narthex/set.Union
theorem w_set_Union (N : Nat) (a0 : List Int) (a1 : List Int) (r : (List Int)) (h : set_Union N a0 a1 = some r) : Nx.Call Try.prog 24 [.c (.slv (a0.map eI)), .c (.slv (a1.map eI))] [] fun r' _ => r' = .c (.slv (r.map eI)) := by
  refine Nx.Call.of_body Try.func24 rfl en24 Try.ntmps24 rfl (fun Γ hok => ?_)
  unfold set_Union at h
  refine Wp.seq ?_
  refine Wp.text [0, 1] rfl rfl ?_ -- region 0
  refine TextR.assign rfl ?_
  refine TextR.done (.cons rfl (.cons rfl .nil)) ?_
  refine Wp.seq ?_
  obtain ⟨y1, hy1, h⟩ := bind_some h
  obtain ⟨y2, hy2, h⟩ := bind_some h
  refine Wp.text [4] rfl rfl ?_ -- region 1
  refine TextR.move rfl ?_
  refine TextR.move rfl ?_
  refine TextR.buildSlice (rows := [a0, a1].map eL_I) 0 se44 rfl rfl rfl .nil ?_
  refine TextR.weak (keepW (F := ⟨Try.prog, 10, Γ⟩) (live := [0, 1, 5, 6, 7]) (.cons rfl (.cons rfl (.cons rfl (.cons rfl (.cons rfl .nil)))))) ?_
  refine TextR.weak (freezeW (F := ⟨Try.prog, 10, Γ⟩) (h := 0) (ver := 0) (rows := [a0, a1].map eL_I) (e' := [(0, .c (.slv (a0.map eI))), (1, .c (.slv (a1.map eI))), (5, .c (.slv (a0.map eI))), (6, .c (.slv (a1.map eI))), (7, .c (.slv ([a0, a1].map eL_I)))]) (H' := [.dead]) rfl (by first | rfl | simp [List.map_take, List.map_drop, rvL, rvK, bwL, hfVs, hfV, hfL, hfAll, hfRows, mvV, mvL, mv0, sh0, mvO, mpE, mpV, mpVs, mpO, fzL, rnL, rn0, ok0, nzI, nzB, nzN, nzF, nzP, nzO, nzQ, nzC, shL, shV, shO, okV, okL, okO, List.take_of_length_le, h_I, hfRows_map h_I, ok_eI, okR_eI, fx_eI, fxR_eI, h_L_I, hfRows_map h_L_I, ok_eL_I, okR_eL_I, fx_eL_I, fxR_eL_I, -List.map_set]) (by first | rfl | simp [List.map_take, List.map_drop, rvL, rvK, bwL, hfVs, hfV, hfL, hfAll, hfRows, mvV, mvL, mv0, sh0, mvO, mpE, mpV, mpVs, mpO, fzL, rnL, rn0, ok0, nzI, nzB, nzN, nzF, nzP, nzO, nzQ, nzC, shL, shV, shO, okV, okL, okO, List.take_of_length_le, h_I, hfRows_map h_I, ok_eI, okR_eI, fx_eI, fxR_eI, h_L_I, hfRows_map h_L_I, ok_eL_I, okR_eL_I, fx_eL_I, fxR_eL_I, -List.map_set])) ?_
  refine TextR.dcall rfl rfl (c_slices_Concat_int N [a0, a1] y1 hy1 _) ?_
  refine TextR.dcall rfl rfl (c_set_Of N y1 y2 hy2 _) ?_
  refine TextR.assign rfl ?_
  refine TextR.done (.cons rfl .nil) ?_
  refine Wp.ret ?_
  obtain rfl := Option.some.inj h
  exact Ret.one rfl (resV_tmp rfl) rfl
theorem c_set_Union (N : Nat) (a0 : List Int) (a1 : List Int) (r : (List Int)) (h : set_Union N a0 a1 = some r) (H : List Ob) : DCall Try.prog 24 [.c (.slv (a0.map eI)), .c (.slv (a1.map eI))] H (.c (.slv (r.map eI))) := DCall.lift (by first | rfl | simp [List.map_take, List.map_drop, rvL, rvK, bwL, hfVs, hfV, hfL, hfAll, hfRows, mvV, mvL, mv0, sh0, mvO, mpE, mpV, mpVs, mpO, fzL, rnL, rn0, ok0, nzI, nzB, nzN, nzF, nzP, nzO, nzQ, nzC, shL, shV, shO, okV, okL, okO, List.take_of_length_le, h_I, hfRows_map h_I, ok_eI, okR_eI, fx_eI, fxR_eI, h_L_I, hfRows_map h_L_I, ok_eL_I, okR_eL_I, fx_eL_I, fxR_eL_I, -List.map_set]) (by first | rfl | simp [List.map_take, List.map_drop, rvL, rvK, bwL, hfVs, hfV, hfL, hfAll, hfRows, mvV, mvL, mv0, sh0, mvO, mpE, mpV, mpVs, mpO, fzL, rnL, rn0, ok0, nzI, nzB, nzN, nzF, nzP, nzO, nzQ, nzC, shL, shV, shO, okV, okL, okO, List.take_of_length_le, h_I, hfRows_map h_I, ok_eI, okR_eI, fx_eI, fxR_eI, h_L_I, hfRows_map h_L_I, ok_eL_I, okR_eL_I, fx_eL_I, fxR_eL_I, -List.map_set]) (fun _ => by simp [List.map_take, List.map_drop, rvL, rvK, bwL, hfVs, hfV, hfL, hfAll, hfRows, mvV, mvL, mv0, sh0, mvO, mpE, mpV, mpVs, mpO, fzL, rnL, rn0, ok0, nzI, nzB, nzN, nzF, nzP, nzO, nzQ, nzC, shL, shV, shO, okV, okL, okO, List.take_of_length_le, h_I, hfRows_map h_I, ok_eI, okR_eI, fx_eI, fxR_eI, h_L_I, hfRows_map h_L_I, ok_eL_I, okR_eL_I, fx_eL_I, fxR_eL_I, -List.map_set]) (w_set_Union N a0 a1 r h) H
-- narthex/set.Add
theorem w_set_Add (N : Nat) (a0 : List Int) (a1 : Int) (r : (List Int)) (h : set_Add N a0 a1 = some r) : Nx.Call Try.prog 20 [.c (.slv (a0.map eI)), .c (I a1)] [] fun r' _ => r' = .c (.slv (r.map eI)) := by
  refine Nx.Call.of_body Try.func20 rfl en20 Try.ntmps20 rfl (fun Γ hok => ?_)
  unfold set_Add at h
  refine Wp.seq ?_
  refine Wp.text [0, 1] rfl rfl ?_ -- region 0
  refine TextR.assign rfl ?_
  refine TextR.done (.cons rfl (.cons rfl .nil)) ?_
  refine Wp.seq ?_
  obtain ⟨y1, hy1, h⟩ := bind_some h
  refine Wp.text [4] rfl rfl ?_ -- region 1
  refine TextR.move rfl ?_
  refine TextR.move rfl ?_
  refine TextR.buildSlice (rows := [a1].map eI) 0 se22 rfl rfl rfl .nil ?_
  refine TextR.weak (keepW (F := ⟨Try.prog, 9, Γ⟩) (live := [0, 1, 5, 6, 7]) (.cons rfl (.cons rfl (.cons rfl (.cons rfl (.cons rfl .nil)))))) ?_
  refine TextR.weak (freezeW (F := ⟨Try.prog, 9, Γ⟩) (h := 0) (ver := 0) (rows := [a1].map eI) (e' := [(0, .c (.slv (a0.map eI))), (1, .c (I a1)), (5, .c (.slv (a0.map eI))), (6, .c (I a1)), (7, .c (.slv ([a1].map eI)))]) (H' := [.dead]) rfl (by first | rfl | simp [List.map_take, List.map_drop, rvL, rvK, bwL, hfVs, hfV, hfL, hfAll, hfRows, mvV, mvL, mv0, sh0, mvO, mpE, mpV, mpVs, mpO, fzL, rnL, rn0, ok0, nzI, nzB, nzN, nzF, nzP, nzO, nzQ, nzC, shL, shV, shO, okV, okL, okO, List.take_of_length_le, h_I, hfRows_map h_I, ok_eI, okR_eI, fx_eI, fxR_eI, h_L_I, hfRows_map h_L_I, ok_eL_I, okR_eL_I, fx_eL_I, fxR_eL_I, -List.map_set]) (by first | rfl | simp [List.map_take, List.map_drop, rvL, rvK, bwL, hfVs, hfV, hfL, hfAll, hfRows, mvV, mvL, mv0, sh0, mvO, mpE, mpV, mpVs, mpO, fzL, rnL, rn0, ok0, nzI, nzB, nzN, nzF, nzP, nzO, nzQ, nzC, shL, shV, shO, okV, okL, okO, List.take_of_length_le, h_I, hfRows_map h_I, ok_eI, okR_eI, fx_eI, fxR_eI, h_L_I, hfRows_map h_L_I, ok_eL_I, okR_eL_I, fx_eL_I, fxR_eL_I, -List.map_set])) ?_
  refine TextR.dcall rfl rfl (c_set_Union N a0 [a1] y1 hy1 _) ?_
  refine TextR.assign rfl ?_
  refine TextR.done (.cons rfl .nil) ?_
  refine Wp.ret ?_
  obtain rfl := Option.some.inj h
  exact Ret.one rfl (resV_tmp rfl) rfl
theorem c_set_Add (N : Nat) (a0 : List Int) (a1 : Int) (r : (List Int)) (h : set_Add N a0 a1 = some r) (H : List Ob) : DCall Try.prog 20 [.c (.slv (a0.map eI)), .c (I a1)] H (.c (.slv (r.map eI))) := DCall.lift (by first | rfl | simp [List.map_take, List.map_drop, rvL, rvK, bwL, hfVs, hfV, hfL, hfAll, hfRows, mvV, mvL, mv0, sh0, mvO, mpE, mpV, mpVs, mpO, fzL, rnL, rn0, ok0, nzI, nzB, nzN, nzF, nzP, nzO, nzQ, nzC, shL, shV, shO, okV, okL, okO, List.take_of_length_le, h_I, hfRows_map h_I, ok_eI, okR_eI, fx_eI, fxR_eI, h_L_I, hfRows_map h_L_I, ok_eL_I, okR_eL_I, fx_eL_I, fxR_eL_I, -List.map_set]) (by first | rfl | simp [List.map_take, List.map_drop, rvL, rvK, bwL, hfVs, hfV, hfL, hfAll, hfRows, mvV, mvL, mv0, sh0, mvO, mpE, mpV, mpVs, mpO, fzL, rnL, rn0, ok0, nzI, nzB, nzN, nzF, nzP, nzO, nzQ, nzC, shL, shV, shO, okV, okL, okO, List.take_of_length_le, h_I, hfRows_map h_I, ok_eI, okR_eI, fx_eI, fxR_eI, h_L_I, hfRows_map h_L_I, ok_eL_I, okR_eL_I, fx_eL_I, fxR_eL_I, -List.map_set]) (fun _ => by simp [List.map_take, List.map_drop, rvL, rvK, bwL, hfVs, hfV, hfL, hfAll, hfRows, mvV, mvL, mv0, sh0, mvO, mpE, mpV, mpVs, mpO, fzL, rnL, rn0, ok0, nzI, nzB, nzN, nzF, nzP, nzO, nzQ, nzC, shL, shV, shO, okV, okL, okO, List.take_of_length_le, h_I, hfRows_map h_I, ok_eI, okR_eI, fx_eI, fxR_eI, h_L_I, hfRows_map h_L_I, ok_eL_I, okR_eL_I, fx_eL_I, fxR_eL_I, -List.map_set]) (w_set_Add N a0 a1 r h) H
-- slices.Index[[]int,int]
theorem w_slices_Index_int (N : Nat) (a0 : List Int) (a1 : Int) (r : Int) (h : slices_Index_int N a0 a1 = some r) : Nx.Call Try.prog 39 [.c (.slv (a0.map eI)), .c (I a1)] [] fun r' _ => r' = .c (I r) := by
  refine Nx.Call.of_body Try.func39 rfl en39 Try.ntmps39 rfl (fun Γ hok => ?_)
  unfold slices_Index_int at h
  refine Wp.seq ?_
  refine Wp.text [0, 1] rfl rfl ?_ -- region 0
  refine TextR.assign rfl ?_
  refine TextR.done (.cons rfl (.cons rfl .nil)) ?_
  refine Wp.seq ?_
  refine Wp.seq ?_
  refine Wp.text [0, 1, 7, 8] rfl rfl ?_ -- region 1
  refine TextR.move rfl ?_
  refine TextR.lenM us22 rfl rfl ?_
  refine TextR.move rfl ?_
  refine TextR.done (.cons rfl (.cons rfl (.cons rfl (.cons rfl .nil)))) ?_
  obtain ⟨z1, hz1, h⟩ := bind_some h
  refine Wp.fragR (fun S => ∃ z3, z1 = .inr z3 ∧ ∃ S', St.Weak ⟨Try.prog, 19, Γ⟩ S S' ∧ S' = ⟨[], []⟩) (fun S => ∃ v, z1 = .inl v ∧ Ret Try.prog Try.f39 (fun r' _ => r' = .c (I v)) .ret S) ?_ ?_ ?_
  · replace h := hz1
    refine Wp.block ?_
    refine Wp.weak (keepW (live := [0, 1, 7, 8]) (.cons rfl (.cons rfl (.cons rfl (.cons rfl .nil))))) ?_
    refine Wp.loop (fun m S => ∃ s8_1, slices_Index_int_L1 N a0 a1 m s8_1 = some z1 ∧ S = ⟨[(0, .c (.slv (a0.map eI))), (1, .c (I a1)), (7, .c (I (a0.length : Int))), (8, .c (I s8_1))], []⟩) N ⟨_, h, rfl⟩ ?_
    rintro m1 _ ⟨s8_1, h, rfl⟩
    cases m1 with
    | zero => rw [slices_Index_int_L1.eq_1] at h; cases h
    | succ m1 =>
    rw [slices_Index_int_L1.eq_2] at h
    refine Wp.seq ?_
    refine Wp.text [0, 1, 7, 8, 9] rfl rfl ?_ -- region 2
    refine TextR.int rfl rfl rfl ?_
    refine TextR.done (.cons rfl (.cons rfl (.cons rfl (.cons rfl (.cons rfl .nil))))) ?_
    refine Wp.seq ?_
    refine Wp.condM h rfl (fun hc2 h => ?_) (fun hc2 h => ?_)
    · refine Wp.skip ?_
      refine Wp.seq ?_
      refine Wp.block ?_
      refine Wp.seq ?_
      refine Wp.text [0, 1, 5, 7, 8] rfl rfl ?_ -- region 3
      refine TextR.move rfl ?_
      refine TextR.assign rfl ?_
      refine TextR.done (.cons rfl (.cons rfl (.cons rfl (.cons rfl (.cons rfl .nil))))) ?_
      refine Wp.seq ?_
      obtain ⟨x4, hx4, h⟩ := bind_some h
      refine Wp.text [0, 1, 5, 7, 8, 16] rfl rfl ?_ -- region 4
      refine TextR.move rfl ?_
      refine TextR.move rfl ?_
      refine TextR.move rfl ?_
      refine TextR.indexA se22 rfl rfl rfl hx4 rfl ?_
      refine TextR.load1M tk3 rfl (at_get hx4) rfl ?_
      refine TextR.int rfl rfl rfl ?_
      refine TextR.done (.cons rfl (.cons rfl (.cons rfl (.cons rfl (.cons rfl (.cons rfl .nil)))))) ?_
      refine Wp.condM h rfl (fun hc3 h => ?_) (fun hc3 h => ?_)
      · refine Wp.seq ?_
        refine Wp.text [4] rfl rfl ?_ -- region 5
        refine TextR.move rfl ?_
        refine TextR.assign rfl ?_
        refine TextR.done (.cons rfl .nil) ?_
        refine Wp.ret ?_
        exact ⟨_, (Option.some.inj h).symm, Ret.one rfl (resV_tmp rfl) rfl⟩
      · refine Wp.skip ?_
        refine Wp.text [0, 1, 7, 8] rfl rfl ?_ -- region 6
        refine TextR.int rfl rfl rfl ?_
        refine TextR.move rfl ?_
        refine TextR.done (.cons rfl (.cons rfl (.cons rfl (.cons rfl .nil)))) ?_
        exact ⟨m1, Nat.lt_succ_self _, _, (keepW (live := [0, 1, 7, 8]) (.cons rfl (.cons rfl (.cons rfl (.cons rfl .nil))))), _, h, rfl⟩
    · refine Wp.exit ?_
      exact ⟨_, (Option.some.inj h).symm, _, (keepW (live := []) .nil), rfl⟩
  · rintro _ ⟨z3, rfl, _, hw, rfl⟩
    dsimp only at h
    clear hz1
    refine Wp.weak hw ?_
    refine Wp.seq ?_
    refine Wp.text [4] rfl rfl ?_ -- region 7
    refine TextR.assign rfl ?_
    refine TextR.done (.cons rfl .nil) ?_
    refine Wp.ret ?_
    obtain rfl := Option.some.inj h
    exact Ret.one rfl (resV_tmp rfl) rfl
  · rintro S' ⟨r2, rfl, hR⟩
    dsimp only at h
    obtain rfl := Option.some.inj h
    exact hR
theorem c_slices_Index_int (N : Nat) (a0 : List Int) (a1 : Int) (r : Int) (h : slices_Index_int N a0 a1 = some r) (H : List Ob) : DCall Try.prog 39 [.c (.slv (a0.map eI)), .c (I a1)] H (.c (I r)) := DCall.lift (by first | rfl | simp [List.map_take, List.map_drop, rvL, rvK, bwL, hfVs, hfV, hfL, hfAll, hfRows, mvV, mvL, mv0, sh0, mvO, mpE, mpV, mpVs, mpO, fzL, rnL, rn0, ok0, nzI, nzB, nzN, nzF, nzP, nzO, nzQ, nzC, shL, shV, shO, okV, okL, okO, List.take_of_length_le, h_I, hfRows_map h_I, ok_eI, okR_eI, fx_eI, fxR_eI, h_L_I, hfRows_map h_L_I, ok_eL_I, okR_eL_I, fx_eL_I, fxR_eL_I, -List.map_set]) (by first | rfl | simp [List.map_take, List.map_drop, rvL, rvK, bwL, hfVs, hfV, hfL, hfAll, hfRows, mvV, mvL, mv0, sh0, mvO, mpE, mpV, mpVs, mpO, fzL, rnL, rn0, ok0, nzI, nzB, nzN, nzF, nzP, nzO, nzQ, nzC, shL, shV, shO, okV, okL, okO, List.take_of_length_le, h_I, hfRows_map h_I, ok_eI, okR_eI, fx_eI, fxR_eI, h_L_I, hfRows_map h_L_I, ok_eL_I, okR_eL_I, fx_eL_I, fxR_eL_I, -List.map_set]) (fun _ => by simp [List.map_take, List.map_drop, rvL, rvK, bwL, hfVs, hfV, hfL, hfAll, hfRows, mvV, mvL, mv0, sh0, mvO, mpE, mpV, mpVs, mpO, fzL, rnL, rn0, ok0, nzI, nzB, nzN, nzF, nzP, nzO, nzQ, nzC, shL, shV, shO, okV, okL, okO, List.take_of_length_le, h_I, hfRows_map h_I, ok_eI, okR_eI, fx_eI, fxR_eI, h_L_I, hfRows_map h_L_I, ok_eL_I, okR_eL_I, fx_eL_I, fxR_eL_I, -List.map_set]) (w_slices_Index_int N a0 a1 r h) H
-- slices.Contains[[]int,int]
theorem w_slices_Contains_int (N : Nat) (a0 : List Int) (a1 : Int) (r : Bool) (h : slices_Contains_int N a0 a1 = some r) : Nx.Call Try.prog 31 [.c (.slv (a0.map eI)), .c (I a1)] [] fun r' _ => r' = .c (B r) := by
  refine Nx.Call.of_body Try.func31 rfl en31 Try.ntmps31 rfl (fun Γ hok => ?_)
  unfold slices_Contains_int at h
  refine Wp.seq ?_
  refine Wp.text [0, 1] rfl rfl ?_ -- region 0
  refine TextR.assign rfl ?_
  refine TextR.done (.cons rfl (.cons rfl .nil)) ?_
  refine Wp.seq ?_
  obtain ⟨y1, hy1, h⟩ := bind_some h
  refine Wp.text [4] rfl rfl ?_ -- region 1
  refine TextR.move rfl ?_
  refine TextR.move rfl ?_
  refine TextR.dcall rfl rfl (c_slices_Index_int N a0 a1 y1 hy1 _) ?_
  refine TextR.int rfl rfl rfl ?_
  refine TextR.assign rfl ?_
  refine TextR.done (.cons rfl .nil) ?_
  refine Wp.ret ?_
  obtain rfl := Option.some.inj h
  exact Ret.one rfl (resV_tmp rfl) rfl
theorem c_slices_Contains_int (N : Nat) (a0 : List Int) (a1 : Int) (r : Bool) (h : slices_Contains_int N a0 a1 = some r) (H : List Ob) : DCall Try.prog 31 [.c (.slv (a0.map eI)), .c (I a1)] H (.c (B r)) := DCall.lift (by first | rfl | simp [List.map_take, List.map_drop, rvL, rvK, bwL, hfVs, hfV, hfL, hfAll, hfRows, mvV, mvL, mv0, sh0, mvO, mpE, mpV, mpVs, mpO, fzL, rnL, rn0, ok0, nzI, nzB, nzN, nzF, nzP, nzO, nzQ, nzC, shL, shV, shO, okV, okL, okO, List.take_of_length_le, h_I, hfRows_map h_I, ok_eI, okR_eI, fx_eI, fxR_eI, h_L_I, hfRows_map h_L_I, ok_eL_I, okR_eL_I, fx_eL_I, fxR_eL_I, -List.map_set]) (by first | rfl | simp [List.map_take, List.map_drop, rvL, rvK, bwL, hfVs, hfV, hfL, hfAll, hfRows, mvV, mvL, mv0, sh0, mvO, mpE, mpV, mpVs, mpO, fzL, rnL, rn0, ok0, nzI, nzB, nzN, nzF, nzP, nzO, nzQ, nzC, shL, shV, shO, okV, okL, okO, List.take_of_length_le, h_I, hfRows_map h_I, ok_eI, okR_eI, fx_eI, fxR_eI, h_L_I, hfRows_map h_L_I, ok_eL_I, okR_eL_I, fx_eL_I, fxR_eL_I, -List.map_set]) (fun _ => by simp [List.map_take, List.map_drop, rvL, rvK, bwL, hfVs, hfV, hfL, hfAll, hfRows, mvV, mvL, mv0, sh0, mvO, mpE, mpV, mpVs, mpO, fzL, rnL, rn0, ok0, nzI, nzB, nzN, nzF, nzP, nzO, nzQ, nzC, shL, shV, shO, okV, okL, okO, List.take_of_length_le, h_I, hfRows_map h_I, ok_eI, okR_eI, fx_eI, fxR_eI, h_L_I, hfRows_map h_L_I, ok_eL_I, okR_eL_I, fx_eL_I, fxR_eL_I, -List.map_set]) (w_slices_Contains_int N a0 a1 r h) H
-- narthex/set.Has
theorem w_set_Has (N : Nat) (a0 : List Int) (a1 : Int) (r : Bool) (h : set_Has N a0 a1 = some r) : Nx.Call Try.prog 15 [.c (.slv (a0.map eI)), .c (I a1)] [] fun r' _ => r' = .c (B r) := by
  refine Nx.Call.of_body Try.func15 rfl en15 Try.ntmps15 rfl (fun Γ hok => ?_)
  unfold set_Has at h
  refine Wp.seq ?_
  refine Wp.text [0, 1] rfl rfl ?_ -- region 0
  refine TextR.assign rfl ?_
  refine TextR.done (.cons rfl (.cons rfl .nil)) ?_
  refine Wp.seq ?_
  obtain ⟨y1, hy1, h⟩ := bind_some h
  refine Wp.text [4] rfl rfl ?_ -- region 1
  refine TextR.move rfl ?_
  refine TextR.move rfl ?_
  refine TextR.dcall rfl rfl (c_slices_Contains_int N a0 a1 y1 hy1 _) ?_
  refine TextR.assign rfl ?_
  refine TextR.done (.cons rfl .nil) ?_
  refine Wp.ret ?_
  obtain rfl := Option.some.inj h
  exact Ret.one rfl (resV_tmp rfl) rfl
theorem c_set_Has (N : Nat) (a0 : List Int) (a1 : Int) (r : Bool) (h : set_Has N a0 a1 = some r) (H : List Ob) : DCall Try.prog 15 [.c (.slv (a0.map eI)), .c (I a1)] H (.c (B r)) := DCall.lift (by first | rfl | simp [List.map_take, List.map_drop, rvL, rvK, bwL, hfVs, hfV, hfL, hfAll, hfRows, mvV, mvL, mv0, sh0, mvO, mpE, mpV, mpVs, mpO, fzL, rnL, rn0, ok0, nzI, nzB, nzN, nzF, nzP, nzO, nzQ, nzC, shL, shV, shO, okV, okL, okO, List.take_of_length_le, h_I, hfRows_map h_I, ok_eI, okR_eI, fx_eI, fxR_eI, h_L_I, hfRows_map h_L_I, ok_eL_I, okR_eL_I, fx_eL_I, fxR_eL_I, -List.map_set]) (by first | rfl | simp [List.map_take, List.map_drop, rvL, rvK, bwL, hfVs, hfV, hfL, hfAll, hfRows, mvV, mvL, mv0, sh0, mvO, mpE, mpV, mpVs, mpO, fzL, rnL, rn0, ok0, nzI, nzB, nzN, nzF, nzP, nzO, nzQ, nzC, shL, shV, shO, okV, okL, okO, List.take_of_length_le, h_I, hfRows_map h_I, ok_eI, okR_eI, fx_eI, fxR_eI, h_L_I, hfRows_map h_L_I, ok_eL_I, okR_eL_I, fx_eL_I, fxR_eL_I, -List.map_set]) (fun _ => by simp [List.map_take, List.map_drop, rvL, rvK, bwL, hfVs, hfV, hfL, hfAll, hfRows, mvV, mvL, mv0, sh0, mvO, mpE, mpV, mpVs, mpO, fzL, rnL, rn0, ok0, nzI, nzB, nzN, nzF, nzP, nzO, nzQ, nzC, shL, shV, shO, okV, okL, okO, List.take_of_length_le, h_I, hfRows_map h_I, ok_eI, okR_eI, fx_eI, fxR_eI, h_L_I, hfRows_map h_L_I, ok_eL_I, okR_eL_I, fx_eL_I, fxR_eL_I, -List.map_set]) (w_set_Has N a0 a1 r h) H
-- narthex/set.Minus$1
theorem w_set_Minus_1 (N : Nat) (a0 : Int) (c0_0 : List Int) (l2 : List Int) {w2 : Nat} (r : Bool) (h : set_Minus_1 N a0 c0_0 l2 = some r) : Nx.Call Try.prog 36 [.c (I a0), .c (.ptr 0 0 0 0)] [.live 0 1 [[.slv (c0_0.map eI)]], .live 0 1 [[.clo 36 [.ptr 0 0 0 0]]], .live w2 1 (l2.map eI)] fun r' H' => r' = .c (B r) ∧ ∃ junk, H' = [.live 0 1 [[.slv (c0_0.map eI)]], .live 0 1 [[.clo 36 [.ptr 0 0 0 0]]], .live w2 1 (l2.map eI)] ++ junk := by
  refine Nx.Call.of_body Try.func36 rfl en36 Try.ntmps36 rfl (fun Γ hok => ?_)
  unfold set_Minus_1 at h
  refine Wp.seq ?_
  refine Wp.text [0, 1] rfl rfl ?_ -- region 0
  refine TextR.assign rfl ?_
  refine TextR.done (.cons rfl (.cons rfl .nil)) ?_
  refine Wp.seq ?_
  obtain ⟨y1, hy1, h⟩ := bind_some h
  refine Wp.text [3] rfl rfl ?_ -- region 1
  refine TextR.load1 tk22 rfl rfl ?_
  refine TextR.move rfl ?_
  refine TextR.dcall rfl rfl (c_set_Has N c0_0 a0 y1 hy1 _) ?_
  refine TextR.not rfl ?_
  refine TextR.assign rfl ?_
  refine TextR.done (.cons rfl .nil) ?_
  refine Wp.ret ?_
  obtain rfl := Option.some.inj h
  exact Ret.one rfl (resV_tmp rfl) ⟨rfl, _, rfl⟩
theorem c_set_Minus_1 (N : Nat) (a0 : Int) (c0_0 : List Int) (l2 : List Int) {w2 : Nat} (r : Bool) (h : set_Minus_1 N a0 c0_0 l2 = some r) : DCall Try.prog 36 [.c (I a0), .c (.ptr 0 0 0 0)] [.live 0 1 [[.slv (c0_0.map eI)]], .live 0 1 [[.clo 36 [.ptr 0 0 0 0]]], .live w2 1 (l2.map eI)] (.c (B r)) := Call.trim (by simp) (by first | rfl | simp [List.map_take, List.map_drop, rvL, rvK, bwL, hfVs, hfV, hfL, hfAll, hfRows, mvV, mvL, mv0, sh0, mvO, mpE, mpV, mpVs, mpO, fzL, rnL, rn0, ok0, nzI, nzB, nzN, nzF, nzP, nzO, nzQ, nzC, shL, shV, shO, okV, okL, okO, List.take_of_length_le, h_I, hfRows_map h_I, ok_eI, okR_eI, fx_eI, fxR_eI, h_L_I, hfRows_map h_L_I, ok_eL_I, okR_eL_I, fx_eL_I, fxR_eL_I, -List.map_set]) (by first | rfl | simp [List.map_take, List.map_drop, rvL, rvK, bwL, hfVs, hfV, hfL, hfAll, hfRows, mvV, mvL, mv0, sh0, mvO, mpE, mpV, mpVs, mpO, fzL, rnL, rn0, ok0, nzI, nzB, nzN, nzF, nzP, nzO, nzQ, nzC, shL, shV, shO, okV, okL, okO, List.take_of_length_le, h_I, hfRows_map h_I, ok_eI, okR_eI, fx_eI, fxR_eI, h_L_I, hfRows_map h_L_I, ok_eL_I, okR_eL_I, fx_eL_I, fxR_eL_I, -List.map_set]) (w_set_Minus_1 N a0 c0_0 l2 r h)
-- narthex/set.keep$1
theorem w_set_keep_1 (N : Nat) (a0 : Int) (c0_0 : List Int) (l2 : List Int) {w2 : Nat} (r : Bool) (h : set_keep_1 N a0 c0_0 l2 = some r) : Nx.Call Try.prog 44 [.c (I a0), .c (.ptr 1 0 0 0)] [.live 0 1 [[.slv (c0_0.map eI)]], .live 0 1 [[.clo 36 [.ptr 0 0 0 0]]], .live w2 1 (l2.map eI)] fun r' H' => r' = .c (B r) ∧ ∃ junk, H' = [.live 0 1 [[.slv (c0_0.map eI)]], .live 0 1 [[.clo 36 [.ptr 0 0 0 0]]], .live w2 1 (l2.map eI)] ++ junk := by
  refine Nx.Call.of_body Try.func44 rfl en44 Try.ntmps44 rfl (fun Γ hok => ?_)
  unfold set_keep_1 at h
  refine Wp.seq ?_
  refine Wp.text [0, 1] rfl rfl ?_ -- region 0
  refine TextR.assign rfl ?_
  refine TextR.done (.cons rfl (.cons rfl .nil)) ?_
  refine Wp.seq ?_
  obtain ⟨y1, hy1, h⟩ := bind_some h
  refine Wp.text [3] rfl rfl ?_ -- region 1
  refine TextR.load1 tk39 rfl rfl ?_
  refine TextR.move rfl ?_
  refine TextR.dcall rfl rfl (c_set_Minus_1 N a0 c0_0 l2 y1 hy1) ?_
  refine TextR.not rfl ?_
  refine TextR.assign rfl ?_
  refine TextR.done (.cons rfl .nil) ?_
  refine Wp.ret ?_
  obtain rfl := Option.some.inj h
  exact Ret.one rfl (resV_tmp rfl) ⟨rfl, _, rfl⟩
theorem c_set_keep_1 (N : Nat) (a0 : Int) (c0_0 : List Int) (l2 : List Int) {w2 : Nat} (r : Bool) (h : set_keep_1 N a0 c0_0 l2 = some r) : DCall Try.prog 44 [.c (I a0), .c (.ptr 1 0 0 0)] [.live 0 1 [[.slv (c0_0.map eI)]], .live 0 1 [[.clo 36 [.ptr 0 0 0 0]]], .live w2 1 (l2.map eI)] (.c (B r)) := Call.trim (by simp) (by first | rfl | simp [List.map_take, List.map_drop, rvL, rvK, bwL, hfVs, hfV, hfL, hfAll, hfRows, mvV, mvL, mv0, sh0, mvO, mpE, mpV, mpVs, mpO, fzL, rnL, rn0, ok0, nzI, nzB, nzN, nzF, nzP, nzO, nzQ, nzC, shL, shV, shO, okV, okL, okO, List.take_of_length_le, h_I, hfRows_map h_I, ok_eI, okR_eI, fx_eI, fxR_eI, h_L_I, hfRows_map h_L_I, ok_eL_I, okR_eL_I, fx_eL_I, fxR_eL_I, -List.map_set]) (by first | rfl | simp [List.map_take, List.map_drop, rvL, rvK, bwL, hfVs, hfV, hfL, hfAll, hfRows, mvV, mvL, mv0, sh0, mvO, mpE, mpV, mpVs, mpO, fzL, rnL, rn0, ok0, nzI, nzB, nzN, nzF, nzP, nzO, nzQ, nzC, shL, shV, shO, okV, okL, okO, List.take_of_length_le, h_I, hfRows_map h_I, ok_eI, okR_eI, fx_eI, fxR_eI, h_L_I, hfRows_map h_L_I, ok_eL_I, okR_eL_I, fx_eL_I, fxR_eL_I, -List.map_set]) (w_set_keep_1 N a0 c0_0 l2 r h)
-- slices.IndexFunc[[]int,int]
theorem w_slices_IndexFunc_int (N : Nat) (c0_0 : List Int) (l2 : List Int) {w2 : Nat} (r : Int) (h : slices_IndexFunc_int N c0_0 l2 = some r) : Nx.Call Try.prog 56 [.c (.sl 2 w2 0 l2.length), .c (.clo 44 [.ptr 1 0 0 0])] [.live 0 1 [[.slv (c0_0.map eI)]], .live 0 1 [[.clo 36 [.ptr 0 0 0 0]]], .live w2 1 (l2.map eI)] fun r' H' => r' = .c (I r) ∧ ∃ junk, H' = [.live 0 1 [[.slv (c0_0.map eI)]], .live 0 1 [[.clo 36 [.ptr 0 0 0 0]]], .live w2 1 (l2.map eI)] ++ junk := by
  refine Nx.Call.of_body Try.func56 rfl en56 Try.ntmps56 rfl (fun Γ hok => ?_)
  unfold slices_IndexFunc_int at h
  refine Wp.seq ?_
  refine Wp.text [0, 1] rfl rfl ?_ -- region 0
  refine TextR.assign rfl ?_
  refine TextR.done (.cons rfl (.cons rfl .nil)) ?_
  refine Wp.seq ?_
  refine Wp.seq ?_
  refine Wp.text [0, 1, 7, 8] rfl rfl ?_ -- region 1
  refine TextR.move rfl ?_
  refine TextR.len us22 rfl rfl ?_
  refine TextR.move rfl ?_
  refine TextR.done (.cons rfl (.cons rfl (.cons rfl (.cons rfl .nil)))) ?_
  obtain ⟨z1, hz1, h⟩ := bind_some h
  refine Wp.fragR (fun S => ∃ z3, z1 = .inr z3 ∧ ∃ S', St.Weak ⟨Try.prog, 19, Γ⟩ S S' ∧ S' = ⟨[], [.live 0 1 [[.slv (c0_0.map eI)]], .live 0 1 [[.clo 36 [.ptr 0 0 0 0]]], .live w2 1 (l2.map eI)]⟩) (fun S => ∃ v, z1 = .inl v ∧ Ret Try.prog Try.f56 (fun r' H' => r' = .c (I v) ∧ ∃ junk, H' = [.live 0 1 [[.slv (c0_0.map eI)]], .live 0 1 [[.clo 36 [.ptr 0 0 0 0]]], .live w2 1 (l2.map eI)] ++ junk) .ret S) ?_ ?_ ?_
  · replace h := hz1
    refine Wp.block ?_
    refine Wp.weak (keepW (live := [0, 1, 7, 8]) (.cons rfl (.cons rfl (.cons rfl (.cons rfl .nil))))) ?_
    refine Wp.loop (fun m S => ∃ s8_1, slices_IndexFunc_int_L1 N c0_0 l2 m s8_1 = some z1 ∧ S = ⟨[(0, .c (.sl 2 w2 0 l2.length)), (1, .c (.clo 44 [.ptr 1 0 0 0])), (7, .c (I (l2.length : Int))), (8, .c (I s8_1))], [.live 0 1 [[.slv (c0_0.map eI)]], .live 0 1 [[.clo 36 [.ptr 0 0 0 0]]], .live w2 1 (l2.map eI)]⟩) N ⟨_, h, rfl⟩ ?_
    rintro m1 _ ⟨s8_1, h, rfl⟩
    cases m1 with
    | zero => rw [slices_IndexFunc_int_L1.eq_1] at h; cases h
    | succ m1 =>
    rw [slices_IndexFunc_int_L1.eq_2] at h
    refine Wp.seq ?_
    refine Wp.text [0, 1, 7, 8, 9] rfl rfl ?_ -- region 2
    refine TextR.int rfl rfl rfl ?_
    refine TextR.done (.cons rfl (.cons rfl (.cons rfl (.cons rfl (.cons rfl .nil))))) ?_
    refine Wp.seq ?_
    refine Wp.condM h rfl (fun hc2 h => ?_) (fun hc2 h => ?_)
    · refine Wp.skip ?_
      refine Wp.seq ?_
      refine Wp.block ?_
      refine Wp.seq ?_
      refine Wp.text [0, 1, 5, 7, 8] rfl rfl ?_ -- region 3
      refine TextR.move rfl ?_
      refine TextR.assign rfl ?_
      refine TextR.done (.cons rfl (.cons rfl (.cons rfl (.cons rfl (.cons rfl .nil))))) ?_
      refine Wp.seq ?_
      obtain ⟨x4, hx4, h⟩ := bind_some h
      obtain ⟨y5, hy5, h⟩ := bind_some h
      refine Wp.text [0, 1, 5, 7, 8, 16] rfl rfl ?_ -- region 4
      refine TextR.move rfl ?_
      refine TextR.move rfl ?_
      refine TextR.move rfl ?_
      refine TextR.indexOA se22 rfl rfl (obj_of rfl) hx4 ?_
      refine TextR.load1O tk3 rfl (obj_of rfl) (at_get hx4) rfl ?_
      refine TextR.dcall rfl rfl (c_set_keep_1 N x4 c0_0 l2 y5 hy5) ?_
      refine TextR.done (.cons rfl (.cons rfl (.cons rfl (.cons rfl (.cons rfl (.cons rfl .nil)))))) ?_
      refine Wp.condM h rfl (fun hc3 h => ?_) (fun hc3 h => ?_)
      · refine Wp.seq ?_
        refine Wp.text [4] rfl rfl ?_ -- region 5
        refine TextR.move rfl ?_
        refine TextR.assign rfl ?_
        refine TextR.done (.cons rfl .nil) ?_
        refine Wp.ret ?_
        exact ⟨_, (Option.some.inj h).symm, Ret.one rfl (resV_tmp rfl) ⟨rfl, _, rfl⟩⟩
      · refine Wp.skip ?_
        refine Wp.text [0, 1, 7, 8] rfl rfl ?_ -- region 6
        refine TextR.int rfl rfl rfl ?_
        refine TextR.move rfl ?_
        refine TextR.done (.cons rfl (.cons rfl (.cons rfl (.cons rfl .nil)))) ?_
        exact ⟨m1, Nat.lt_succ_self _, _, (keepW (live := [0, 1, 7, 8]) (.cons rfl (.cons rfl (.cons rfl (.cons rfl .nil))))), _, h, rfl⟩
    · refine Wp.exit ?_
      exact ⟨_, (Option.some.inj h).symm, _, (keepW (live := []) .nil), rfl⟩
  · rintro _ ⟨z3, rfl, _, hw, rfl⟩
    dsimp only at h
    clear hz1
    refine Wp.weak hw ?_
    refine Wp.seq ?_
    refine Wp.text [4] rfl rfl ?_ -- region 7
    refine TextR.assign rfl ?_
    refine TextR.done (.cons rfl .nil) ?_
    refine Wp.ret ?_
    obtain rfl := Option.some.inj h
    exact Ret.one rfl (resV_tmp rfl) ⟨rfl, _, rfl⟩
  · rintro S' ⟨r2, rfl, hR⟩
    dsimp only at h
    obtain rfl := Option.some.inj h
    exact hR
theorem c_slices_IndexFunc_int (N : Nat) (c0_0 : List Int) (l2 : List Int) {w2 : Nat} (r : Int) (h : slices_IndexFunc_int N c0_0 l2 = some r) : DCall Try.prog 56 [.c (.sl 2 w2 0 l2.length), .c (.clo 44 [.ptr 1 0 0 0])] [.live 0 1 [[.slv (c0_0.map eI)]], .live 0 1 [[.clo 36 [.ptr 0 0 0 0]]], .live w2 1 (l2.map eI)] (.c (I r)) := Call.trim (by simp) (by first | rfl | simp [List.map_take, List.map_drop, rvL, rvK, bwL, hfVs, hfV, hfL, hfAll, hfRows, mvV, mvL, mv0, sh0, mvO, mpE, mpV, mpVs, mpO, fzL, rnL, rn0, ok0, nzI, nzB, nzN, nzF, nzP, nzO, nzQ, nzC, shL, shV, shO, okV, okL, okO, List.take_of_length_le, h_I, hfRows_map h_I, ok_eI, okR_eI, fx_eI, fxR_eI, h_L_I, hfRows_map h_L_I, ok_eL_I, okR_eL_I, fx_eL_I, fxR_eL_I, -List.map_set]) (by first | rfl | simp [List.map_take, List.map_drop, rvL, rvK, bwL, hfVs, hfV, hfL, hfAll, hfRows, mvV, mvL, mv0, sh0, mvO, mpE, mpV, mpVs, mpO, fzL, rnL, rn0, ok0, nzI, nzB, nzN, nzF, nzP, nzO, nzQ, nzC, shL, shV, shO, okV, okL, okO, List.take_of_length_le, h_I, hfRows_map h_I, ok_eI, okR_eI, fx_eI, fxR_eI, h_L_I, hfRows_map h_L_I, ok_eL_I, okR_eL_I, fx_eL_I, fxR_eL_I, -List.map_set]) (w_slices_IndexFunc_int N c0_0 l2 r h)
-- slices.DeleteFunc[[]int,int]
theorem w_slices_DeleteFunc_int (N : Nat) (c0_0 : List Int) (l2 : List Int) {w2 : Nat} (r : (List Int)) (h : slices_DeleteFunc_int N c0_0 l2 = some r) : Nx.Call Try.prog 43 [.c (.sl 2 w2 0 l2.length), .c (.clo 44 [.ptr 1 0 0 0])] [.live 0 1 [[.slv (c0_0.map eI)]], .live 0 1 [[.clo 36 [.ptr 0 0 0 0]]], .live w2 1 (l2.map eI)] fun r' H' => r' = .c (.sl 2 (w2 + 1) 0 r.length) ∧ ∃ junk, H' = [.live 0 1 [[.slv (c0_0.map eI)]], .live 0 1 [[.clo 36 [.ptr 0 0 0 0]]], .live (w2 + 1) 1 (r.map eI)] ++ junk := by
  refine Nx.Call.of_body Try.func43 rfl en43 Try.ntmps43 rfl (fun Γ hok => ?_)
  unfold slices_DeleteFunc_int at h
  refine Wp.seq ?_
  refine Wp.text [0, 1] rfl rfl ?_ -- region 0
  refine TextR.assign rfl ?_
  refine TextR.done (.cons rfl (.cons rfl .nil)) ?_
  refine Wp.seq ?_
  obtain ⟨y1, hy1, h⟩ := bind_some h
  refine Wp.text [0, 1, 5] rfl rfl ?_ -- region 1
  refine TextR.move rfl ?_
  refine TextR.move rfl ?_
  refine TextR.dcall rfl rfl (c_slices_IndexFunc_int N c0_0 l2 y1 hy1) ?_
  refine TextR.assign rfl ?_
  refine TextR.done (.cons rfl (.cons rfl (.cons rfl .nil))) ?_
  refine Wp.seq ?_
  refine Wp.seq ?_
  refine Wp.text [0, 1, 5, 12] rfl rfl ?_ -- region 2
  refine TextR.move rfl ?_
  refine TextR.int rfl rfl rfl ?_
  refine TextR.done (.cons rfl (.cons rfl (.cons rfl (.cons rfl .nil)))) ?_
  refine Wp.condM h rfl (fun hc1 h => ?_) (fun hc1 h => ?_)
  · refine Wp.seq ?_
    refine Wp.text [4] rfl rfl ?_ -- region 3
    refine TextR.move rfl ?_
    refine TextR.assign rfl ?_
    refine TextR.done (.cons rfl .nil) ?_
    refine Wp.weak (keepW (live := [4] ) (.cons rfl .nil)) ?_
    refine Wp.weak (narrowE (t := 4) (rows' := l2.map eI) rfl (obj_of rfl) (by simp) (by simp [List.take_of_length_le]) (.succ (.succ .zero))) ?_
    refine Wp.weak (keepW (live := [4]) (.cons rfl .nil)) ?_
    refine Wp.ret ?_
    obtain rfl := Option.some.inj h
    exact Ret.one rfl (resV_tmp rfl) ⟨rfl, _, rfl⟩
  · refine Wp.skip ?_
    refine Wp.seq ?_
    refine Wp.seq ?_
    refine Wp.text [0, 1, 5, 6] rfl rfl ?_ -- region 4
    refine TextR.move rfl ?_
    refine TextR.int rfl rfl rfl ?_
    refine TextR.assign rfl ?_
    refine TextR.done (.cons rfl (.cons rfl (.cons rfl (.cons rfl .nil)))) ?_
    obtain ⟨z2, hz2, h⟩ := bind_some h
    refine Wp.fragN (fun S => ∃ S', St.Weak ⟨Try.prog, 42, Γ⟩ S S' ∧ S' = ⟨[(0, .c (.sl 2 w2 0 z2.1.length)), (5, .c (I z2.2))], [.live 0 1 [[.slv (c0_0.map eI)]], .live 0 1 [[.clo 36 [.ptr 0 0 0 0]]], .live w2 1 (z2.1.map eI)]⟩) ?_ ?_
    · replace h := hz2
      refine Wp.block ?_
      refine Wp.weak (keepW (live := [0, 1, 5, 6]) (.cons rfl (.cons rfl (.cons rfl (.cons rfl .nil))))) ?_
      refine Wp.loop (fun m S => ∃ l2_1, ∃ s5_1, ∃ s6_1, slices_DeleteFunc_int_L1 N c0_0 m l2_1 s5_1 s6_1 = some z2 ∧ S = ⟨[(0, .c (.sl 2 w2 0 l2_1.length)), (1, .c (.clo 44 [.ptr 1 0 0 0])), (5, .c (I s5_1)), (6, .c (I s6_1))], [.live 0 1 [[.slv (c0_0.map eI)]], .live 0 1 [[.clo 36 [.ptr 0 0 0 0]]], .live w2 1 (l2_1.map eI)]⟩) N ⟨_, _, _, h, rfl⟩ ?_
      rintro m1 _ ⟨l2_1, s5_1, s6_1, h, rfl⟩
      cases m1 with
      | zero => rw [slices_DeleteFunc_int_L1.eq_1] at h; cases h
      | succ m1 =>
      rw [slices_DeleteFunc_int_L1.eq_2] at h
      refine Wp.seq ?_
      refine Wp.seq ?_
      refine Wp.text [0, 1, 5, 6, 19] rfl rfl ?_ -- region 5
      refine TextR.move rfl ?_
      refine TextR.move rfl ?_
      refine TextR.len us22 rfl rfl ?_
      refine TextR.int rfl rfl rfl ?_
      refine TextR.done (.cons rfl (.cons rfl (.cons rfl (.cons rfl (.cons rfl .nil))))) ?_
      refine Wp.condM h rfl (fun hc3 h => ?_) (fun hc3 h => ?_)
      · refine Wp.skip ?_
        refine Wp.seq ?_
        refine Wp.block ?_
        refine Wp.seq ?_
        obtain ⟨x3, hx3, h⟩ := bind_some h
        refine Wp.text [0, 1, 5, 6, 7] rfl rfl ?_ -- region 7
        refine TextR.move rfl ?_
        refine TextR.move rfl ?_
        refine TextR.indexOA se22 rfl rfl (obj_of rfl) hx3 ?_
        refine TextR.load1O tk3 rfl (obj_of rfl) (at_get hx3) rfl ?_
        refine TextR.assign rfl ?_
        refine TextR.done (.cons rfl (.cons rfl (.cons rfl (.cons rfl (.cons rfl .nil))))) ?_
        refine Wp.seq ?_
        obtain ⟨y4, hy4, h⟩ := bind_some h
        refine Wp.text [0, 1, 5, 6, 7, 29] rfl rfl ?_ -- region 8
        refine TextR.move rfl ?_
        refine TextR.move rfl ?_
        refine TextR.dcall rfl rfl (c_set_keep_1 N x3 c0_0 l2_1 y4 hy4) ?_
        refine TextR.not rfl ?_
        refine TextR.done (.cons rfl (.cons rfl (.cons rfl (.cons rfl (.cons rfl (.cons rfl .nil)))))) ?_
        refine Wp.condM h rfl (fun hc4 h => ?_) (fun hc4 h => ?_)
        · refine Wp.seq ?_
          obtain ⟨x5, hx5, h⟩ := bind_some h
          refine Wp.text [0, 1, 5, 6] rfl rfl ?_ -- region 9
          refine TextR.move rfl ?_
          refine TextR.move rfl ?_
          refine TextR.move rfl ?_
          refine TextR.indexOA se22 rfl rfl (obj_of rfl) hx5 ?_
          refine TextR.storeO x3 tk3 rfl rfl rfl (obj_of rfl) rfl (at_get hx5) rfl rfl (.succ (.succ .zero)) ?_
          refine TextR.done (.cons rfl (.cons rfl (.cons rfl (.cons rfl .nil)))) ?_
          refine Wp.weak (eqW (S' := ⟨[(0, .c (.sl 2 w2 0 (l2_1.set s5_1.toNat x3).length)), (1, .c (.clo 44 [.ptr 1 0 0 0])), (5, .c (I s5_1)), (6, .c (I s6_1))], [.live 0 1 [[.slv (c0_0.map eI)]], .live 0 1 [[.clo 36 [.ptr 0 0 0 0]]], .live w2 1 ((l2_1.set s5_1.toNat x3).map eI)]⟩) (by first | rfl | (simp only [List.length_set]; done) | (simp only [List.length_set]; rfl))) ?_
          refine Wp.text [0, 1, 5, 6] rfl rfl ?_ -- region 10
          refine TextR.move rfl ?_
          refine TextR.int rfl rfl rfl ?_
          refine TextR.assign rfl ?_
          refine TextR.done (.cons rfl (.cons rfl (.cons rfl (.cons rfl .nil)))) ?_
          refine Wp.text [0, 1, 5, 6] rfl rfl ?_ -- region 6
          refine TextR.move rfl ?_
          refine TextR.int rfl rfl rfl ?_
          refine TextR.assign rfl ?_
          refine TextR.done (.cons rfl (.cons rfl (.cons rfl (.cons rfl .nil)))) ?_
          exact ⟨m1, Nat.lt_succ_self _, _, (keepW (live := [0, 1, 5, 6]) (.cons rfl (.cons rfl (.cons rfl (.cons rfl .nil))))), _, _, _, h, rfl⟩
        · refine Wp.skip ?_
          refine Wp.text [0, 1, 5, 6] rfl rfl ?_ -- region 6
          refine TextR.move rfl ?_
          refine TextR.int rfl rfl rfl ?_
          refine TextR.assign rfl ?_
          refine TextR.done (.cons rfl (.cons rfl (.cons rfl (.cons rfl .nil)))) ?_
          exact ⟨m1, Nat.lt_succ_self _, _, (keepW (live := [0, 1, 5, 6]) (.cons rfl (.cons rfl (.cons rfl (.cons rfl .nil))))), _, _, _, h, rfl⟩
      · refine Wp.exit ?_
        obtain rfl := Option.some.inj h
        exact ⟨_, (keepW (live := [0, 5]) (.cons rfl (.cons rfl .nil))), rfl⟩
    rintro _ ⟨S', hw, rfl⟩
    clear hz2
    refine Wp.weak hw ?_
    refine Wp.seq ?_
    obtain ⟨x6, hx6, h⟩ := bind_some h
    refine Wp.text [0, 5] rfl rfl ?_ -- region 11
    refine TextR.move rfl ?_
    refine TextR.move rfl ?_
    refine TextR.sliceOM se22 rfl rfl rfl (obj_of rfl) rfl rfl hx6 ?_
    refine TextR.clearM eI z2.1 0 se22 rfl (obj_of rfl) (by have q0 := sub_le hx6; first | exact q0 | (simp only [List.length_set, List.length_take, List.length_drop, length_cpy, length_clr] at *; omega)) rfl (fun _ => rfl) (.succ (.succ .zero)) ?_
    refine TextR.done (.cons rfl (.cons rfl .nil)) ?_
    refine Wp.weak (eqW (S' := ⟨[(0, .c (.sl 2 w2 0 (clr z2.1 (Int.toNat z2.2) x6.length 0).length)), (5, .c (I z2.2))], [.live 0 1 [[.slv (c0_0.map eI)]], .live 0 1 [[.clo 36 [.ptr 0 0 0 0]]], .live w2 1 ((clr z2.1 (Int.toNat z2.2) x6.length 0).map eI)]⟩) (by have e0 := length_clr z2.1 (Int.toNat z2.2) x6.length 0 (by have q0 := sub_le hx6; first | exact q0 | (simp only [List.length_set, List.length_take, List.length_drop, length_cpy, length_clr] at *; omega)); first | rfl | (simp only [List.length_set]; done) | (simp only [List.length_set]; rfl) | (simp only [List.length_set, e0]; done) | (simp only [List.length_set, e0]; rfl))) ?_
    refine Wp.seq ?_
    obtain ⟨x7, hx7, h⟩ := bind_some h
    refine Wp.text [4] rfl rfl ?_ -- region 12
    refine TextR.move rfl ?_
    refine TextR.move rfl ?_
    refine TextR.sliceOM se22 rfl rfl rfl (obj_of rfl) rfl rfl hx7 ?_
    refine TextR.assign rfl ?_
    refine TextR.done (.cons rfl .nil) ?_
    refine Wp.weak (keepW (live := [4] ) (.cons rfl .nil)) ?_
    refine Wp.weak (narrowE (t := 4) (rows' := x7.map eI) rfl (obj_of rfl) (by have q := sub_le hx7; simp at q ⊢; omega) (sub_rows hx7) (.succ (.succ .zero))) ?_
    refine Wp.weak (keepW (live := [4]) (.cons rfl .nil)) ?_
    refine Wp.ret ?_
    obtain rfl := Option.some.inj h
    exact Ret.one rfl (resV_tmp rfl) ⟨rfl, _, rfl⟩
theorem c_slices_DeleteFunc_int (N : Nat) (c0_0 : List Int) (l2 : List Int) {w2 : Nat} (r : (List Int)) (h : slices_DeleteFunc_int N c0_0 l2 = some r) : Nx.Call Try.prog 43 [.c (.sl 2 w2 0 l2.length), .c (.clo 44 [.ptr 1 0 0 0])] [.live 0 1 [[.slv (c0_0.map eI)]], .live 0 1 [[.clo 36 [.ptr 0 0 0 0]]], .live w2 1 (l2.map eI)] fun r' H' => r' = .c (.sl 2 (w2 + 1) 0 r.length) ∧ H' = [.live 0 1 [[.slv (c0_0.map eI)]], .live 0 1 [[.clo 36 [.ptr 0 0 0 0]]], .live (w2 + 1) 1 (r.map eI)] := Call.trim (by simp) (by first | rfl | simp [List.map_take, List.map_drop, rvL, rvK, bwL, hfVs, hfV, hfL, hfAll, hfRows, mvV, mvL, mv0, sh0, mvO, mpE, mpV, mpVs, mpO, fzL, rnL, rn0, ok0, nzI, nzB, nzN, nzF, nzP, nzO, nzQ, nzC, shL, shV, shO, okV, okL, okO, List.take_of_length_le, h_I, hfRows_map h_I, ok_eI, okR_eI, fx_eI, fxR_eI, h_L_I, hfRows_map h_L_I, ok_eL_I, okR_eL_I, fx_eL_I, fxR_eL_I, -List.map_set]) (by first | rfl | simp [List.map_take, List.map_drop, rvL, rvK, bwL, hfVs, hfV, hfL, hfAll, hfRows, mvV, mvL, mv0, sh0, mvO, mpE, mpV, mpVs, mpO, fzL, rnL, rn0, ok0, nzI, nzB, nzN, nzF, nzP, nzO, nzQ, nzC, shL, shV, shO, okV, okL, okO, List.take_of_length_le, h_I, hfRows_map h_I, ok_eI, okR_eI, fx_eI, fxR_eI, h_L_I, hfRows_map h_L_I, ok_eL_I, okR_eL_I, fx_eL_I, fxR_eL_I, -List.map_set]) (w_slices_DeleteFunc_int N c0_0 l2 r h)
-- narthex/set.keep
theorem w_set_keep (N : Nat) (a0 : List Int) (c0_0 : List Int) (r : (List Int)) (h : set_keep N a0 c0_0 = some r) : Nx.Call Try.prog 34 [.c (.slv (a0.map eI)), .c (.clo 36 [.ptr 0 0 0 0])] [.live 0 1 [[.slv (c0_0.map eI)]]] fun r' H' => r' = .c (.slv (r.map eI)) ∧ ∃ junk, H' = [.live 0 1 [[.slv (c0_0.map eI)]]] ++ junk := by
  refine Nx.Call.of_body Try.func34 rfl en34 Try.ntmps34 rfl (fun Γ hok => ?_)
  unfold set_keep at h
  refine Wp.seq ?_
  refine Wp.text [0, 3] rfl rfl ?_ -- region 0
  refine TextR.box (cs := [.clo 36 [.ptr 0 0 0 0]]) 1 rfl rfl rfl rfl (.cons .nil) ?_
  refine TextR.assign rfl ?_
  refine TextR.done (.cons rfl (.cons rfl .nil)) ?_
  refine Wp.seq ?_
  obtain ⟨y1, hy1, h⟩ := bind_some h
  obtain ⟨y2, hy2, h⟩ := bind_some h
  refine Wp.text [4] rfl rfl ?_ -- region 1
  refine TextR.move rfl ?_
  refine TextR.call rfl rfl (by exact o_set_Of N a0 y1 hy1 2 rfl (.cons (.cons .nil))) (fun x H' hk => ?_)
  obtain ⟨rfl, rfl⟩ := hk
  refine TextR.makeFunc rfl ?_
  refine TextR.call rfl rfl (by exact c_slices_DeleteFunc_int N c0_0 y1 y2 hy2) (fun x H' hk => ?_)
  obtain ⟨rfl, rfl⟩ := hk
  refine TextR.assign rfl ?_
  refine TextR.done (.cons rfl .nil) ?_
  refine Wp.weak (keepW (live := [4] ) (.cons rfl .nil)) ?_
  refine Wp.weak (freezeW (h := 2) (ver := 1) (rows := y2.map eI) (e' := [(4, .c (.slv (y2.map eI)))]) (H' := [.live 0 1 [[.slv (c0_0.map eI)]], .live 0 1 [[.clo 36 [.ptr 0 0 0 0]]], .dead]) rfl (by first | rfl | simp [List.map_take, List.map_drop, rvL, rvK, bwL, hfVs, hfV, hfL, hfAll, hfRows, mvV, mvL, mv0, sh0, mvO, mpE, mpV, mpVs, mpO, fzL, rnL, rn0, ok0, nzI, nzB, nzN, nzF, nzP, nzO, nzQ, nzC, shL, shV, shO, okV, okL, okO, List.take_of_length_le, h_I, hfRows_map h_I, ok_eI, okR_eI, fx_eI, fxR_eI, h_L_I, hfRows_map h_L_I, ok_eL_I, okR_eL_I, fx_eL_I, fxR_eL_I, -List.map_set]) (by first | rfl | simp [List.map_take, List.map_drop, rvL, rvK, bwL, hfVs, hfV, hfL, hfAll, hfRows, mvV, mvL, mv0, sh0, mvO, mpE, mpV, mpVs, mpO, fzL, rnL, rn0, ok0, nzI, nzB, nzN, nzF, nzP, nzO, nzQ, nzC, shL, shV, shO, okV, okL, okO, List.take_of_length_le, h_I, hfRows_map h_I, ok_eI, okR_eI, fx_eI, fxR_eI, h_L_I, hfRows_map h_L_I, ok_eL_I, okR_eL_I, fx_eL_I, fxR_eL_I, -List.map_set])) ?_
  refine Wp.ret ?_
  obtain rfl := Option.some.inj h
  exact Ret.one rfl (resV_tmp rfl) ⟨rfl, _, rfl⟩
theorem c_set_keep (N : Nat) (a0 : List Int) (c0_0 : List Int) (r : (List Int)) (h : set_keep N a0 c0_0 = some r) : DCall Try.prog 34 [.c (.slv (a0.map eI)), .c (.clo 36 [.ptr 0 0 0 0])] [.live 0 1 [[.slv (c0_0.map eI)]]] (.c (.slv (r.map eI))) := Call.trim (by simp) (by first | rfl | simp [List.map_take, List.map_drop, rvL, rvK, bwL, hfVs, hfV, hfL, hfAll, hfRows, mvV, mvL, mv0, sh0, mvO, mpE, mpV, mpVs, mpO, fzL, rnL, rn0, ok0, nzI, nzB, nzN, nzF, nzP, nzO, nzQ, nzC, shL, shV, shO, okV, okL, okO, List.take_of_length_le, h_I, hfRows_map h_I, ok_eI, okR_eI, fx_eI, fxR_eI, h_L_I, hfRows_map h_L_I, ok_eL_I, okR_eL_I, fx_eL_I, fxR_eL_I, -List.map_set]) (by first | rfl | simp [List.map_take, List.map_drop, rvL, rvK, bwL, hfVs, hfV, hfL, hfAll, hfRows, mvV, mvL, mv0, sh0, mvO, mpE, mpV, mpVs, mpO, fzL, rnL, rn0, ok0, nzI, nzB, nzN, nzF, nzP, nzO, nzQ, nzC, shL, shV, shO, okV, okL, okO, List.take_of_length_le, h_I, hfRows_map h_I, ok_eI, okR_eI, fx_eI, fxR_eI, h_L_I, hfRows_map h_L_I, ok_eL_I, okR_eL_I, fx_eL_I, fxR_eL_I, -List.map_set]) (w_set_keep N a0 c0_0 r h)
-- narthex/set.Minus
theorem w_set_Minus (N : Nat) (a0 : List Int) (a1 : List Int) (r : (List Int)) (h : set_Minus N a0 a1 = some r) : Nx.Call Try.prog 26 [.c (.slv (a0.map eI)), .c (.slv (a1.map eI))] [] fun r' _ => r' = .c (.slv (r.map eI)) := by
  refine Nx.Call.of_body Try.func26 rfl en26 Try.ntmps26 rfl (fun Γ hok => ?_)
  unfold set_Minus at h
  refine Wp.seq ?_
  refine Wp.text [0, 3] rfl rfl ?_ -- region 0
  refine TextR.box (cs := [.slv (a1.map eI)]) 0 rfl rfl rfl rfl .nil ?_
  refine TextR.assign rfl ?_
  refine TextR.done (.cons rfl (.cons rfl .nil)) ?_
  refine Wp.seq ?_
  obtain ⟨y1, hy1, h⟩ := bind_some h
  refine Wp.text [4] rfl rfl ?_ -- region 1
  refine TextR.move rfl ?_
  refine TextR.makeFunc rfl ?_
  refine TextR.dcall rfl rfl (c_set_keep N a0 a1 y1 hy1) ?_
  refine TextR.assign rfl ?_
  refine TextR.done (.cons rfl .nil) ?_
  refine Wp.ret ?_
  obtain rfl := Option.some.inj h
  exact Ret.one rfl (resV_tmp rfl) rfl
theorem c_set_Minus (N : Nat) (a0 : List Int) (a1 : List Int) (r : (List Int)) (h : set_Minus N a0 a1 = some r) (H : List Ob) : DCall Try.prog 26 [.c (.slv (a0.map eI)), .c (.slv (a1.map eI))] H (.c (.slv (r.map eI))) := DCall.lift (by first | rfl | simp [List.map_take, List.map_drop, rvL, rvK, bwL, hfVs, hfV, hfL, hfAll, hfRows, mvV, mvL, mv0, sh0, mvO, mpE, mpV, mpVs, mpO, fzL, rnL, rn0, ok0, nzI, nzB, nzN, nzF, nzP, nzO, nzQ, nzC, shL, shV, shO, okV, okL, okO, List.take_of_length_le, h_I, hfRows_map h_I, ok_eI, okR_eI, fx_eI, fxR_eI, h_L_I, hfRows_map h_L_I, ok_eL_I, okR_eL_I, fx_eL_I, fxR_eL_I, -List.map_set]) (by first | rfl | simp [List.map_take, List.map_drop, rvL, rvK, bwL, hfVs, hfV, hfL, hfAll, hfRows, mvV, mvL, mv0, sh0, mvO, mpE, mpV, mpVs, mpO, fzL, rnL, rn0, ok0, nzI, nzB, nzN, nzF, nzP, nzO, nzQ, nzC, shL, shV, shO, okV, okL, okO, List.take_of_length_le, h_I, hfRows_map h_I, ok_eI, okR_eI, fx_eI, fxR_eI, h_L_I, hfRows_map h_L_I, ok_eL_I, okR_eL_I, fx_eL_I, fxR_eL_I, -List.map_set]) (fun _ => by simp [List.map_take, List.map_drop, rvL, rvK, bwL, hfVs, hfV, hfL, hfAll, hfRows, mvV, mvL, mv0, sh0, mvO, mpE, mpV, mpVs, mpO, fzL, rnL, rn0, ok0, nzI, nzB, nzN, nzF, nzP, nzO, nzQ, nzC, shL, shV, shO, okV, okL, okO, List.take_of_length_le, h_I, hfRows_map h_I, ok_eI, okR_eI, fx_eI, fxR_eI, h_L_I, hfRows_map h_L_I, ok_eL_I, okR_eL_I, fx_eL_I, fxR_eL_I, -List.map_set]) (w_set_Minus N a0 a1 r h) H
-- narthex/set.Del
theorem w_set_Del (N : Nat) (a0 : List Int) (a1 : Int) (r : (List Int)) (h : set_Del N a0 a1 = some r) : Nx.Call Try.prog 22 [.c (.slv (a0.map eI)), .c (I a1)] [] fun r' _ => r' = .c (.slv (r.map eI)) := by
  refine Nx.Call.of_body Try.func22 rfl en22 Try.ntmps22 rfl (fun Γ hok => ?_)
  unfold set_Del at h
  refine Wp.seq ?_
  refine Wp.text [0, 1] rfl rfl ?_ -- region 0
  refine TextR.assign rfl ?_
  refine TextR.done (.cons rfl (.cons rfl .nil)) ?_
  refine Wp.seq ?_
  obtain ⟨y1, hy1, h⟩ := bind_some h
  refine Wp.text [4] rfl rfl ?_ -- region 1
  refine TextR.move rfl ?_
  refine TextR.move rfl ?_
  refine TextR.buildSlice (rows := [a1].map eI) 0 se22 rfl rfl rfl .nil ?_
  refine TextR.weak (keepW (F := ⟨Try.prog, 9, Γ⟩) (live := [0, 1, 5, 6, 7]) (.cons rfl (.cons rfl (.cons rfl (.cons rfl (.cons rfl .nil)))))) ?_
  refine TextR.weak (freezeW (F := ⟨Try.prog, 9, Γ⟩) (h := 0) (ver := 0) (rows := [a1].map eI) (e' := [(0, .c (.slv (a0.map eI))), (1, .c (I a1)), (5, .c (.slv (a0.map eI))), (6, .c (I a1)), (7, .c (.slv ([a1].map eI)))]) (H' := [.dead]) rfl (by first | rfl | simp [List.map_take, List.map_drop, rvL, rvK, bwL, hfVs, hfV, hfL, hfAll, hfRows, mvV, mvL, mv0, sh0, mvO, mpE, mpV, mpVs, mpO, fzL, rnL, rn0, ok0, nzI, nzB, nzN, nzF, nzP, nzO, nzQ, nzC, shL, shV, shO, okV, okL, okO, List.take_of_length_le, h_I, hfRows_map h_I, ok_eI, okR_eI, fx_eI, fxR_eI, h_L_I, hfRows_map h_L_I, ok_eL_I, okR_eL_I, fx_eL_I, fxR_eL_I, -List.map_set]) (by first | rfl | simp [List.map_take, List.map_drop, rvL, rvK, bwL, hfVs, hfV, hfL, hfAll, hfRows, mvV, mvL, mv0, sh0, mvO, mpE, mpV, mpVs, mpO, fzL, rnL, rn0, ok0, nzI, nzB, nzN, nzF, nzP, nzO, nzQ, nzC, shL, shV, shO, okV, okL, okO, List.take_of_length_le, h_I, hfRows_map h_I, ok_eI, okR_eI, fx_eI, fxR_eI, h_L_I, hfRows_map h_L_I, ok_eL_I, okR_eL_I, fx_eL_I, fxR_eL_I, -List.map_set])) ?_
  refine TextR.dcall rfl rfl (c_set_Minus N a0 [a1] y1 hy1 _) ?_
  refine TextR.assign rfl ?_
  refine TextR.done (.cons rfl .nil) ?_
  refine Wp.ret ?_
  obtain rfl := Option.some.inj h
  exact Ret.one rfl (resV_tmp rfl) rfl
theorem c_set_Del (N : Nat) (a0 : List Int) (a1 : Int) (r : (List Int)) (h : set_Del N a0 a1 = some r) (H : List Ob) : DCall Try.prog 22 [.c (.slv (a0.map eI)), .c (I a1)] H (.c (.slv (r.map eI))) := DCall.lift (by first | rfl | simp [List.map_take, List.map_drop, rvL, rvK, bwL, hfVs, hfV, hfL, hfAll, hfRows, mvV, mvL, mv0, sh0, mvO, mpE, mpV, mpVs, mpO, fzL, rnL, rn0, ok0, nzI, nzB, nzN, nzF, nzP, nzO, nzQ, nzC, shL, shV, shO, okV, okL, okO, List.take_of_length_le, h_I, hfRows_map h_I, ok_eI, okR_eI, fx_eI, fxR_eI, h_L_I, hfRows_map h_L_I, ok_eL_I, okR_eL_I, fx_eL_I, fxR_eL_I, -List.map_set]) (by first | rfl | simp [List.map_take, List.map_drop, rvL, rvK, bwL, hfVs, hfV, hfL, hfAll, hfRows, mvV, mvL, mv0, sh0, mvO, mpE, mpV, mpVs, mpO, fzL, rnL, rn0, ok0, nzI, nzB, nzN, nzF, nzP, nzO, nzQ, nzC, shL, shV, shO, okV, okL, okO, List.take_of_length_le, h_I, hfRows_map h_I, ok_eI, okR_eI, fx_eI, fxR_eI, h_L_I, hfRows_map h_L_I, ok_eL_I, okR_eL_I, fx_eL_I, fxR_eL_I, -List.map_set]) (fun _ => by simp [List.map_take, List.map_drop, rvL, rvK, bwL, hfVs, hfV, hfL, hfAll, hfRows, mvV, mvL, mv0, sh0, mvO, mpE, mpV, mpVs, mpO, fzL, rnL, rn0, ok0, nzI, nzB, nzN, nzF, nzP, nzO, nzQ, nzC, shL, shV, shO, okV, okL, okO, List.take_of_length_le, h_I, hfRows_map h_I, ok_eI, okR_eI, fx_eI, fxR_eI, h_L_I, hfRows_map h_L_I, ok_eL_I, okR_eL_I, fx_eL_I, fxR_eL_I, -List.map_set]) (w_set_Del N a0 a1 r h) H
-- narthex/set.Valid
theorem w_set_Valid (N : Nat) (a0 : List Int) (r : Bool) (h : set_Valid N a0 = some r) : Nx.Call Try.prog 19 [.c (.slv (a0.map eI))] [] fun r' _ => r' = .c (B r) := by
  refine Nx.Call.of_body Try.func19 rfl en19 Try.ntmps19 rfl (fun Γ hok => ?_)
  unfold set_Valid at h
  refine Wp.seq ?_
  refine Wp.text [0] rfl rfl ?_ -- region 0
  refine TextR.assign rfl ?_
  refine TextR.done (.cons rfl .nil) ?_
  refine Wp.seq ?_
  refine Wp.seq ?_
  refine Wp.text [0, 5, 6] rfl rfl ?_ -- region 1
  refine TextR.move rfl ?_
  refine TextR.lenM us22 rfl rfl ?_
  refine TextR.move rfl ?_
  refine TextR.done (.cons rfl (.cons rfl (.cons rfl .nil))) ?_
  obtain ⟨z1, hz1, h⟩ := bind_some h
  refine Wp.fragR (fun S => ∃ z3, z1 = .inr z3 ∧ ∃ S', St.Weak ⟨Try.prog, 24, Γ⟩ S S' ∧ S' = ⟨[], []⟩) (fun S => ∃ v, z1 = .inl v ∧ Ret Try.prog Try.f19 (fun r' _ => r' = .c (B v)) .ret S) ?_ ?_ ?_
  · replace h := hz1
    refine Wp.block ?_
    refine Wp.weak (keepW (live := [0, 5, 6]) (.cons rfl (.cons rfl (.cons rfl .nil)))) ?_
    refine Wp.loop (fun m S => ∃ s6_1, set_Valid_L1 N a0 m s6_1 = some z1 ∧ S = ⟨[(0, .c (.slv (a0.map eI))), (5, .c (I (a0.length : Int))), (6, .c (I s6_1))], []⟩) N ⟨_, h, rfl⟩ ?_
    rintro m1 _ ⟨s6_1, h, rfl⟩
    cases m1 with
    | zero => rw [set_Valid_L1.eq_1] at h; cases h
    | succ m1 =>
    rw [set_Valid_L1.eq_2] at h
    refine Wp.seq ?_
    refine Wp.text [0, 5, 6, 7] rfl rfl ?_ -- region 2
    refine TextR.int rfl rfl rfl ?_
    refine TextR.done (.cons rfl (.cons rfl (.cons rfl (.cons rfl .nil)))) ?_
    refine Wp.seq ?_
    refine Wp.condM h rfl (fun hc2 h => ?_) (fun hc2 h => ?_)
    · refine Wp.skip ?_
      refine Wp.seq ?_
      refine Wp.block ?_
      refine Wp.seq ?_
      refine Wp.text [0, 3, 5, 6] rfl rfl ?_ -- region 3
      refine TextR.move rfl ?_
      refine TextR.assign rfl ?_
      refine TextR.done (.cons rfl (.cons rfl (.cons rfl (.cons rfl .nil)))) ?_
      refine Wp.seq ?_
      obtain ⟨x4, hx4, h⟩ := bind_some h
      obtain ⟨x5, hx5, h⟩ := bind_some h
      refine Wp.go true (some []) [[], [], [], [(11, true)], [(11, true)], [(11, true)], [(11, true)], [(11, true)], [(11, true)], [(11, true)], [(11, true)], [(11, true)], [(11, true)], []] [] [0, 5, 6, 22] mixed rfl rfl (by kernel_rfl) ?_ -- region 4
      refine RunR.move rfl rfl rfl ?_
      refine RunR.int rfl rfl rfl rfl rfl ?_
      refine RunR.move rfl rfl rfl ?_
      refine RunR.move rfl rfl rfl ?_
      refine RunR.move rfl rfl rfl ?_
      refine RunR.int rfl rfl rfl rfl rfl ?_
      refine RunR.indexAG se22 rfl rfl rfl rfl rfl (ifPos hx4 gT) (ifAt hx4 gT) rfl ?_
      refine RunR.load1G tk3 rfl rfl rfl (ifAt hx4 gT) rfl ?_
      refine RunR.move rfl rfl rfl ?_
      refine RunR.move rfl rfl rfl ?_
      refine RunR.indexAG se22 rfl rfl rfl rfl rfl (ifPos hx5 gT) (ifAt hx5 gT) rfl ?_
      refine RunR.load1G tk3 rfl rfl rfl (ifAt hx5 gT) rfl ?_
      refine RunR.int rfl rfl rfl rfl rfl ?_
      refine RunR.pickAnd rfl rfl rfl rfl ?_
      refine RunR.doneQ (.cons rfl (.cons rfl (.cons rfl (.cons rfl .nil)))) ?_
      refine Wp.condM h rfl (fun hc3 h => ?_) (fun hc3 h => ?_)
      · refine Wp.seq ?_
        refine Wp.text [2] rfl rfl ?_ -- region 5
        refine TextR.assign rfl ?_
        refine TextR.done (.cons rfl .nil) ?_
        refine Wp.ret ?_
        exact ⟨_, (Option.some.inj h).symm, Ret.one rfl (resV_tmp rfl) rfl⟩
      · refine Wp.skip ?_
        refine Wp.text [0, 5, 6] rfl rfl ?_ -- region 6
        refine TextR.int rfl rfl rfl ?_
        refine TextR.move rfl ?_
        refine TextR.done (.cons rfl (.cons rfl (.cons rfl .nil))) ?_
        exact ⟨m1, Nat.lt_succ_self _, _, (keepW (live := [0, 5, 6]) (.cons rfl (.cons rfl (.cons rfl .nil)))), _, h, rfl⟩
    · refine Wp.exit ?_
      exact ⟨_, (Option.some.inj h).symm, _, (keepW (live := []) .nil), rfl⟩
  · rintro _ ⟨z3, rfl, _, hw, rfl⟩
    dsimp only at h
    clear hz1
    refine Wp.weak hw ?_
    refine Wp.seq ?_
    refine Wp.text [2] rfl rfl ?_ -- region 7
    refine TextR.assign rfl ?_
    refine TextR.done (.cons rfl .nil) ?_
    refine Wp.ret ?_
    obtain rfl := Option.some.inj h
    exact Ret.one rfl (resV_tmp rfl) rfl
  · rintro S' ⟨r2, rfl, hR⟩
    dsimp only at h
    obtain rfl := Option.some.inj h
    exact hR
theorem c_set_Valid (N : Nat) (a0 : List Int) (r : Bool) (h : set_Valid N a0 = some r) (H : List Ob) : DCall Try.prog 19 [.c (.slv (a0.map eI))] H (.c (B r)) := DCall.lift (by first | rfl | simp [List.map_take, List.map_drop, rvL, rvK, bwL, hfVs, hfV, hfL, hfAll, hfRows, mvV, mvL, mv0, sh0, mvO, mpE, mpV, mpVs, mpO, fzL, rnL, rn0, ok0, nzI, nzB, nzN, nzF, nzP, nzO, nzQ, nzC, shL, shV, shO, okV, okL, okO, List.take_of_length_le, h_I, hfRows_map h_I, ok_eI, okR_eI, fx_eI, fxR_eI, h_L_I, hfRows_map h_L_I, ok_eL_I, okR_eL_I, fx_eL_I, fxR_eL_I, -List.map_set]) (by first | rfl | simp [List.map_take, List.map_drop, rvL, rvK, bwL, hfVs, hfV, hfL, hfAll, hfRows, mvV, mvL, mv0, sh0, mvO, mpE, mpV, mpVs, mpO, fzL, rnL, rn0, ok0, nzI, nzB, nzN, nzF, nzP, nzO, nzQ, nzC, shL, shV, shO, okV, okL, okO, List.take_of_length_le, h_I, hfRows_map h_I, ok_eI, okR_eI, fx_eI, fxR_eI, h_L_I, hfRows_map h_L_I, ok_eL_I, okR_eL_I, fx_eL_I, fxR_eL_I, -List.map_set]) (fun _ => by simp [List.map_take, List.map_drop, rvL, rvK, bwL, hfVs, hfV, hfL, hfAll, hfRows, mvV, mvL, mv0, sh0, mvO, mpE, mpV, mpVs, mpO, fzL, rnL, rn0, ok0, nzI, nzB, nzN, nzF, nzP, nzO, nzQ, nzC, shL, shV, shO, okV, okL, okO, List.take_of_length_le, h_I, hfRows_map h_I, ok_eI, okR_eI, fx_eI, fxR_eI, h_L_I, hfRows_map h_L_I, ok_eL_I, okR_eL_I, fx_eL_I, fxR_eL_I, -List.map_set]) (w_set_Valid N a0 r h) H
-- cmp.isNaN[int]
theorem w_cmp_isNaN_int (N : Nat) (a0 : Int) (r : Bool) (h : cmp_isNaN_int N a0 = some r) : Nx.Call Try.prog 55 [.c (I a0)] [] fun r' _ => r' = .c (B r) := by
  refine Nx.Call.of_body Try.func55 rfl en55 Try.ntmps55 rfl (fun Γ hok => ?_)
  unfold cmp_isNaN_int at h
  refine Wp.seq ?_
  refine Wp.text [0] rfl rfl ?_ -- region 0
  refine TextR.assign rfl ?_
  refine TextR.done (.cons rfl .nil) ?_
  refine Wp.seq ?_
  refine Wp.text [2] rfl rfl ?_ -- region 1
  refine TextR.move rfl ?_
  refine TextR.move rfl ?_
  refine TextR.int rfl rfl rfl ?_
  refine TextR.assign rfl ?_
  refine TextR.done (.cons rfl .nil) ?_
  refine Wp.ret ?_
  obtain rfl := Option.some.inj h
  exact Ret.one rfl (resV_tmp rfl) rfl
theorem c_cmp_isNaN_int (N : Nat) (a0 : Int) (r : Bool) (h : cmp_isNaN_int N a0 = some r) (H : List Ob) : DCall Try.prog 55 [.c (I a0)] H (.c (B r)) := DCall.lift (by first | rfl | simp [List.map_take, List.map_drop, rvL, rvK, bwL, hfVs, hfV, hfL, hfAll, hfRows, mvV, mvL, mv0, sh0, mvO, mpE, mpV, mpVs, mpO, fzL, rnL, rn0, ok0, nzI, nzB, nzN, nzF, nzP, nzO, nzQ, nzC, shL, shV, shO, okV, okL, okO, List.take_of_length_le, h_I, hfRows_map h_I, ok_eI, okR_eI, fx_eI, fxR_eI, h_L_I, hfRows_map h_L_I, ok_eL_I, okR_eL_I, fx_eL_I, fxR_eL_I, -List.map_set]) (by first | rfl | simp [List.map_take, List.map_drop, rvL, rvK, bwL, hfVs, hfV, hfL, hfAll, hfRows, mvV, mvL, mv0, sh0, mvO, mpE, mpV, mpVs, mpO, fzL, rnL, rn0, ok0, nzI, nzB, nzN, nzF, nzP, nzO, nzQ, nzC, shL, shV, shO, okV, okL, okO, List.take_of_length_le, h_I, hfRows_map h_I, ok_eI, okR_eI, fx_eI, fxR_eI, h_L_I, hfRows_map h_L_I, ok_eL_I, okR_eL_I, fx_eL_I, fxR_eL_I, -List.map_set]) (fun _ => by simp [List.map_take, List.map_drop, rvL, rvK, bwL, hfVs, hfV, hfL, hfAll, hfRows, mvV, mvL, mv0, sh0, mvO, mpE, mpV, mpVs, mpO, fzL, rnL, rn0, ok0, nzI, nzB, nzN, nzF, nzP, nzO, nzQ, nzC, shL, shV, shO, okV, okL, okO, List.take_of_length_le, h_I, hfRows_map h_I, ok_eI, okR_eI, fx_eI, fxR_eI, h_L_I, hfRows_map h_L_I, ok_eL_I, okR_eL_I, fx_eL_I, fxR_eL_I, -List.map_set]) (w_cmp_isNaN_int N a0 r h) H
-- cmp.Less[int]
theorem w_cmp_Less_int (N : Nat) (a0 : Int) (a1 : Int) (r : Bool) (h : cmp_Less_int N a0 a1 = some r) : Nx.Call Try.prog 40 [.c (I a0), .c (I a1)] [] fun r' _ => r' = .c (B r) := by
  refine Nx.Call.of_body Try.func40 rfl en40 Try.ntmps40 rfl (fun Γ hok => ?_)
  unfold cmp_Less_int at h
  refine Wp.seq ?_
  refine Wp.text [0, 1] rfl rfl ?_ -- region 0
  refine TextR.assign rfl ?_
  refine TextR.done (.cons rfl (.cons rfl .nil)) ?_
  refine Wp.seq ?_
  obtain ⟨y1, hy1, h⟩ := bind_some h
  obtain ⟨y2, hy2, h⟩ := bind_some h
  refine Wp.go false none [[], [], [], [(7, true)], [(7, true)], [(7, true)], [], [], [(12, false)], [(12, false)], [(12, false)], [], []] [] [4] mixed rfl rfl (by kernel_rfl) ?_ -- region 1
  refine RunR.move rfl rfl rfl ?_
  refine RunR.call rfl rfl rfl (fun H => c_cmp_isNaN_int N a0 y1 hy1 H) ?_
  refine RunR.move rfl rfl rfl ?_
  refine RunR.move rfl rfl rfl ?_
  refine RunR.callG rfl rfl rfl (fun hb H => c_cmp_isNaN_int N a1 y2 (ifT hy2 gT hb) H) ?_
  refine RunR.not rfl rfl rfl ?_
  refine RunR.pickAnd rfl rfl rfl rfl ?_
  refine RunR.move rfl rfl rfl ?_
  refine RunR.move rfl rfl rfl ?_
  refine RunR.move rfl rfl rfl ?_
  refine RunR.int rfl rfl rfl rfl rfl ?_
  refine RunR.pickOr rfl rfl rfl rfl ?_
  refine RunR.assign rfl rfl rfl ?_
  refine RunR.doneQ (.cons rfl .nil) ?_
  refine Wp.ret ?_
  obtain rfl := Option.some.inj h
  exact Ret.one rfl (resV_tmp rfl) rfl
theorem c_cmp_Less_int (N : Nat) (a0 : Int) (a1 : Int) (r : Bool) (h : cmp_Less_int N a0 a1 = some r) (H : List Ob) : DCall Try.prog 40 [.c (I a0), .c (I a1)] H (.c (B r)) := DCall.lift (by first | rfl | simp [List.map_take, List.map_drop, rvL, rvK, bwL, hfVs, hfV, hfL, hfAll, hfRows, mvV, mvL, mv0, sh0, mvO, mpE, mpV, mpVs, mpO, fzL, rnL, rn0, ok0, nzI, nzB, nzN, nzF, nzP, nzO, nzQ, nzC, shL, shV, shO, okV, okL, okO, List.take_of_length_le, h_I, hfRows_map h_I, ok_eI, okR_eI, fx_eI, fxR_eI, h_L_I, hfRows_map h_L_I, ok_eL_I, okR_eL_I, fx_eL_I, fxR_eL_I, -List.map_set]) (by first | rfl | simp [List.map_take, List.map_drop, rvL, rvK, bwL, hfVs, hfV, hfL, hfAll, hfRows, mvV, mvL, mv0, sh0, mvO, mpE, mpV, mpVs, mpO, fzL, rnL, rn0, ok0, nzI, nzB, nzN, nzF, nzP, nzO, nzQ, nzC, shL, shV, shO, okV, okL, okO, List.take_of_length_le, h_I, hfRows_map h_I, ok_eI, okR_eI, fx_eI, fxR_eI, h_L_I, hfRows_map h_L_I, ok_eL_I, okR_eL_I, fx_eL_I, fxR_eL_I, -List.map_set]) (fun _ => by simp [List.map_take, List.map_drop, rvL, rvK, bwL, hfVs, hfV, hfL, hfAll, hfRows, mvV, mvL, mv0, sh0, mvO, mpE, mpV, mpVs, mpO, fzL, rnL, rn0, ok0, nzI, nzB, nzN, nzF, nzP, nzO, nzQ, nzC, shL, shV, shO, okV, okL, okO, List.take_of_length_le, h_I, hfRows_map h_I, ok_eI, okR_eI, fx_eI, fxR_eI, h_L_I, hfRows_map h_L_I, ok_eL_I, okR_eL_I, fx_eL_I, fxR_eL_I, -List.map_set]) (w_cmp_Less_int N a0 a1 r h) H
-- slices.isNaN[int]
theorem w_slices_isNaN_int (N : Nat) (a0 : Int) (r : Bool) (h : slices_isNaN_int N a0 = some r) : Nx.Call Try.prog 41 [.c (I a0)] [] fun r' _ => r' = .c (B r) := by
  refine Nx.Call.of_body Try.func41 rfl en41 Try.ntmps41 rfl (fun Γ hok => ?_)
  unfold slices_isNaN_int at h
  refine Wp.seq ?_
  refine Wp.text [0] rfl rfl ?_ -- region 0
  refine TextR.assign rfl ?_
  refine TextR.done (.cons rfl .nil) ?_
  refine Wp.seq ?_
  refine Wp.text [2] rfl rfl ?_ -- region 1
  refine TextR.move rfl ?_
  refine TextR.move rfl ?_
  refine TextR.int rfl rfl rfl ?_
  refine TextR.assign rfl ?_
  refine TextR.done (.cons rfl .nil) ?_
  refine Wp.ret ?_
  obtain rfl := Option.some.inj h
  exact Ret.one rfl (resV_tmp rfl) rfl
theorem c_slices_isNaN_int (N : Nat) (a0 : Int) (r : Bool) (h : slices_isNaN_int N a0 = some r) (H : List Ob) : DCall Try.prog 41 [.c (I a0)] H (.c (B r)) := DCall.lift (by first | rfl | simp [List.map_take, List.map_drop, rvL, rvK, bwL, hfVs, hfV, hfL, hfAll, hfRows, mvV, mvL, mv0, sh0, mvO, mpE, mpV, mpVs, mpO, fzL, rnL, rn0, ok0, nzI, nzB, nzN, nzF, nzP, nzO, nzQ, nzC, shL, shV, shO, okV, okL, okO, List.take_of_length_le, h_I, hfRows_map h_I, ok_eI, okR_eI, fx_eI, fxR_eI, h_L_I, hfRows_map h_L_I, ok_eL_I, okR_eL_I, fx_eL_I, fxR_eL_I, -List.map_set]) (by first | rfl | simp [List.map_take, List.map_drop, rvL, rvK, bwL, hfVs, hfV, hfL, hfAll, hfRows, mvV, mvL, mv0, sh0, mvO, mpE, mpV, mpVs, mpO, fzL, rnL, rn0, ok0, nzI, nzB, nzN, nzF, nzP, nzO, nzQ, nzC, shL, shV, shO, okV, okL, okO, List.take_of_length_le, h_I, hfRows_map h_I, ok_eI, okR_eI, fx_eI, fxR_eI, h_L_I, hfRows_map h_L_I, ok_eL_I, okR_eL_I, fx_eL_I, fxR_eL_I, -List.map_set]) (fun _ => by simp [List.map_take, List.map_drop, rvL, rvK, bwL, hfVs, hfV, hfL, hfAll, hfRows, mvV, mvL, mv0, sh0, mvO, mpE, mpV, mpVs, mpO, fzL, rnL, rn0, ok0, nzI, nzB, nzN, nzF, nzP, nzO, nzQ, nzC, shL, shV, shO, okV, okL, okO, List.take_of_length_le, h_I, hfRows_map h_I, ok_eI, okR_eI, fx_eI, fxR_eI, h_L_I, hfRows_map h_L_I, ok_eL_I, okR_eL_I, fx_eL_I, fxR_eL_I, -List.map_set]) (w_slices_isNaN_int N a0 r h) H
-- slices.BinarySearch[[]int,int]
theorem w_slices_BinarySearch_int (N : Nat) (a0 : List Int) (a1 : Int) (r : Int × Bool) (h : slices_BinarySearch_int N a0 a1 = some r) : Nx.Call Try.prog 32 [.c (.slv (a0.map eI)), .c (I a1)] [] fun r' _ => r' = .tup [.c (I r.1), .c (B r.2)] := by
  refine Nx.Call.of_body Try.func32 rfl en32 Try.ntmps32 rfl (fun Γ hok => ?_)
  unfold slices_BinarySearch_int at h
  refine Wp.seq ?_
  refine Wp.text [0, 1] rfl rfl ?_ -- region 0
  refine TextR.assign rfl ?_
  refine TextR.assign rfl ?_
  refine TextR.done (.cons rfl (.cons rfl .nil)) ?_
  refine Wp.seq ?_
  refine Wp.text [0, 1, 6] rfl rfl ?_ -- region 1
  refine TextR.move rfl ?_
  refine TextR.lenM us22 rfl rfl ?_
  refine TextR.assign rfl ?_
  refine TextR.done (.cons rfl (.cons rfl (.cons rfl .nil))) ?_
  refine Wp.seq ?_
  refine Wp.text [0, 1, 6, 7, 8] rfl rfl ?_ -- region 2
  refine TextR.move rfl ?_
  refine TextR.assign rfl ?_
  refine TextR.assign rfl ?_
  refine TextR.done (.cons rfl (.cons rfl (.cons rfl (.cons rfl (.cons rfl .nil))))) ?_
  refine Wp.seq ?_
  obtain ⟨z1, hz1, h⟩ := bind_some h
  refine Wp.fragN (fun S => ∃ S', St.Weak ⟨Try.prog, 54, Γ⟩ S S' ∧ S' = ⟨[(0, .c (.slv (a0.map eI))), (1, .c (I a1)), (6, .c (I (a0.length : Int))), (7, .c (I z1))], []⟩) ?_ ?_
  · replace h := hz1
    refine Wp.block ?_
    refine Wp.weak (keepW (live := [0, 1, 6, 7, 8]) (.cons rfl (.cons rfl (.cons rfl (.cons rfl (.cons rfl .nil)))))) ?_
    refine Wp.loop (fun m S => ∃ s7_1, ∃ s8_1, slices_BinarySearch_int_L1 N a0 a1 m s7_1 s8_1 = some z1 ∧ S = ⟨[(0, .c (.slv (a0.map eI))), (1, .c (I a1)), (6, .c (I (a0.length : Int))), (7, .c (I s7_1)), (8, .c (I s8_1))], []⟩) N ⟨_, _, h, rfl⟩ ?_
    rintro m1 _ ⟨s7_1, s8_1, h, rfl⟩
    cases m1 with
    | zero => rw [slices_BinarySearch_int_L1.eq_1] at h; cases h
    | succ m1 =>
    rw [slices_BinarySearch_int_L1.eq_2] at h
    refine Wp.seq ?_
    refine Wp.seq ?_
    refine Wp.text [0, 1, 6, 7, 8, 15] rfl rfl ?_ -- region 3
    refine TextR.move rfl ?_
    refine TextR.move rfl ?_
    refine TextR.int rfl rfl rfl ?_
    refine TextR.done (.cons rfl (.cons rfl (.cons rfl (.cons rfl (.cons rfl (.cons rfl .nil)))))) ?_
    refine Wp.condM h rfl (fun hc2 h => ?_) (fun hc2 h => ?_)
    · refine Wp.skip ?_
      refine Wp.block ?_
      refine Wp.seq ?_
      refine Wp.text [0, 1, 6, 7, 8, 9] rfl rfl ?_ -- region 4
      refine TextR.move rfl ?_
      refine TextR.move rfl ?_
      refine TextR.int rfl rfl rfl ?_
      refine TextR.convert ik3 ik42 rfl ?_
      refine TextR.int rfl rfl rfl ?_
      refine TextR.convert ik42 ik3 rfl ?_
      refine TextR.assign rfl ?_
      refine TextR.done (.cons rfl (.cons rfl (.cons rfl (.cons rfl (.cons rfl (.cons rfl .nil)))))) ?_
      refine Wp.seq ?_
      obtain ⟨x2, hx2, h⟩ := bind_some h
      obtain ⟨y3, hy3, h⟩ := bind_some h
      refine Wp.text [0, 1, 6, 7, 8, 9, 27] rfl rfl ?_ -- region 5
      refine TextR.move rfl ?_
      refine TextR.move rfl ?_
      refine TextR.indexA se22 rfl rfl rfl hx2 rfl ?_
      refine TextR.load1M tk3 rfl (at_get hx2) rfl ?_
      refine TextR.move rfl ?_
      refine TextR.dcall rfl rfl (c_cmp_Less_int N x2 a1 y3 hy3 _) ?_
      refine TextR.done (.cons rfl (.cons rfl (.cons rfl (.cons rfl (.cons rfl (.cons rfl (.cons rfl .nil))))))) ?_
      refine Wp.condM h rfl (fun hc3 h => ?_) (fun hc3 h => ?_)
      · refine Wp.text [0, 1, 6, 7, 8] rfl rfl ?_ -- region 6
        refine TextR.move rfl ?_
        refine TextR.int rfl rfl rfl ?_
        refine TextR.assign rfl ?_
        refine TextR.done (.cons rfl (.cons rfl (.cons rfl (.cons rfl (.cons rfl .nil))))) ?_
        exact ⟨m1, Nat.lt_succ_self _, _, (keepW (live := [0, 1, 6, 7, 8]) (.cons rfl (.cons rfl (.cons rfl (.cons rfl (.cons rfl .nil)))))), _, _, h, rfl⟩
      · refine Wp.text [0, 1, 6, 7, 8] rfl rfl ?_ -- region 7
        refine TextR.move rfl ?_
        refine TextR.assign rfl ?_
        refine TextR.done (.cons rfl (.cons rfl (.cons rfl (.cons rfl (.cons rfl .nil))))) ?_
        exact ⟨m1, Nat.lt_succ_self _, _, (keepW (live := [0, 1, 6, 7, 8]) (.cons rfl (.cons rfl (.cons rfl (.cons rfl (.cons rfl .nil)))))), _, _, h, rfl⟩
    · refine Wp.exit ?_
      obtain rfl := Option.some.inj h
      exact ⟨_, (keepW (live := [0, 1, 6, 7]) (.cons rfl (.cons rfl (.cons rfl (.cons rfl .nil))))), rfl⟩
  rintro _ ⟨S', hw, rfl⟩
  clear hz1
  refine Wp.weak hw ?_
  refine Wp.seq ?_
  obtain ⟨x4, hx4, h⟩ := bind_some h
  obtain ⟨x5, hx5, h⟩ := bind_some h
  obtain ⟨y6, hy6, h⟩ := bind_some h
  obtain ⟨y7, hy7, h⟩ := bind_some h
  refine Wp.go false none [[], [], [], [], [], [(35, true)], [(35, true)], [(35, true)], [(35, true)], [(35, true)], [(35, true)], [(35, true)], [(42, false), (35, true)], [(42, false), (35, true)], [(42, false), (35, true)], [(42, false), (35, true)], [(42, false), (35, true)], [(42, false), (35, true)], [(48, true), (42, false), (35, true)], [(48, true), (42, false), (35, true)], [(42, false), (35, true)], [(35, true)], [], [], []] [] [4, 5] mixed rfl rfl (by kernel_rfl) ?_ -- region 8
  refine RunR.move rfl rfl rfl ?_
  refine RunR.move rfl rfl rfl ?_
  refine RunR.move rfl rfl rfl ?_
  refine RunR.int rfl rfl rfl rfl rfl ?_
  refine RunR.move rfl rfl rfl ?_
  refine RunR.move rfl rfl rfl ?_
  refine RunR.move rfl rfl rfl ?_
  refine RunR.indexAG se22 rfl rfl rfl rfl rfl (ifPos hx4 gT) (ifAt hx4 gT) rfl ?_
  refine RunR.load1G tk3 rfl rfl rfl (ifAt hx4 gT) rfl ?_
  refine RunR.move rfl rfl rfl ?_
  refine RunR.int rfl rfl rfl rfl rfl ?_
  refine RunR.move rfl rfl rfl ?_
  refine RunR.move rfl rfl rfl ?_
  refine RunR.move rfl rfl rfl ?_
  refine RunR.indexAG se22 rfl rfl rfl rfl rfl (ifPos hx5 (fun hb => (gAnd (gT (gN hb)) (gF hb)))) (ifAt hx5 (fun hb => (gAnd (gT (gN hb)) (gF hb)))) rfl ?_
  refine RunR.load1G tk3 rfl rfl rfl (ifAt hx5 (fun hb => (gAnd (gT (gN hb)) (gF hb)))) rfl ?_
  refine RunR.callG rfl rfl rfl (fun hb H => c_slices_isNaN_int N x5 y6 (ifT hy6 (fun hb => (gAnd (gT (gN hb)) (gF hb))) hb) H) ?_
  refine RunR.move rfl rfl rfl ?_
  refine RunR.move rfl rfl rfl ?_
  refine RunR.callG rfl rfl rfl (fun hb H => c_slices_isNaN_int N a1 y7 (ifT hy7 (fun hb => (gAnd (gAnd (gT (gN (gN hb))) (gF (gN hb))) (gT hb))) hb) H) ?_
  refine RunR.pickAnd rfl rfl rfl rfl ?_
  refine RunR.pickOr rfl rfl rfl rfl ?_
  refine RunR.pickAnd rfl rfl rfl rfl ?_
  refine RunR.assign rfl rfl rfl ?_
  refine RunR.assign rfl rfl rfl ?_
  refine RunR.doneQ (.cons rfl (.cons rfl .nil)) ?_
  refine Wp.ret ?_
  obtain rfl := Option.some.inj h
  exact Ret.two rfl (resV_tmp rfl) (resV_tmp rfl) rfl
theorem c_slices_BinarySearch_int (N : Nat) (a0 : List Int) (a1 : Int) (r : Int × Bool) (h : slices_BinarySearch_int N a0 a1 = some r) (H : List Ob) : DCall Try.prog 32 [.c (.slv (a0.map eI)), .c (I a1)] H (.tup [.c (I r.1), .c (B r.2)]) := DCall.lift (by first | rfl | simp [List.map_take, List.map_drop, rvL, rvK, bwL, hfVs, hfV, hfL, hfAll, hfRows, mvV, mvL, mv0, sh0, mvO, mpE, mpV, mpVs, mpO, fzL, rnL, rn0, ok0, nzI, nzB, nzN, nzF, nzP, nzO, nzQ, nzC, shL, shV, shO, okV, okL, okO, List.take_of_length_le, h_I, hfRows_map h_I, ok_eI, okR_eI, fx_eI, fxR_eI, h_L_I, hfRows_map h_L_I, ok_eL_I, okR_eL_I, fx_eL_I, fxR_eL_I, -List.map_set]) (by first | rfl | simp [List.map_take, List.map_drop, rvL, rvK, bwL, hfVs, hfV, hfL, hfAll, hfRows, mvV, mvL, mv0, sh0, mvO, mpE, mpV, mpVs, mpO, fzL, rnL, rn0, ok0, nzI, nzB, nzN, nzF, nzP, nzO, nzQ, nzC, shL, shV, shO, okV, okL, okO, List.take_of_length_le, h_I, hfRows_map h_I, ok_eI, okR_eI, fx_eI, fxR_eI, h_L_I, hfRows_map h_L_I, ok_eL_I, okR_eL_I, fx_eL_I, fxR_eL_I, -List.map_set]) (fun _ => by simp [List.map_take, List.map_drop, rvL, rvK, bwL, hfVs, hfV, hfL, hfAll, hfRows, mvV, mvL, mv0, sh0, mvO, mpE, mpV, mpVs, mpO, fzL, rnL, rn0, ok0, nzI, nzB, nzN, nzF, nzP, nzO, nzQ, nzC, shL, shV, shO, okV, okL, okO, List.take_of_length_le, h_I, hfRows_map h_I, ok_eI, okR_eI, fx_eI, fxR_eI, h_L_I, hfRows_map h_L_I, ok_eL_I, okR_eL_I, fx_eL_I, fxR_eL_I, -List.map_set]) (w_slices_BinarySearch_int N a0 a1 r h) H
-- narthex/set.Place
theorem w_set_Place (N : Nat) (a0 : List Int) (a1 : Int) (r : Int) (h : set_Place N a0 a1 = some r) : Nx.Call Try.prog 17 [.c (.slv (a0.map eI)), .c (I a1)] [] fun r' _ => r' = .c (I r) := by
  refine Nx.Call.of_body Try.func17 rfl en17 Try.ntmps17 rfl (fun Γ hok => ?_)
  unfold set_Place at h
  refine Wp.seq ?_
  refine Wp.text [0, 1] rfl rfl ?_ -- region 0
  refine TextR.assign rfl ?_
  refine TextR.done (.cons rfl (.cons rfl .nil)) ?_
  refine Wp.seq ?_
  obtain ⟨y1, hy1, h⟩ := bind_some h
  obtain ⟨y2, hy2, h⟩ := bind_some h
  refine Wp.text [5] rfl rfl ?_ -- region 1
  refine TextR.move rfl ?_
  refine TextR.dcall rfl rfl (c_set_Of N a0 y1 hy1 _) ?_
  refine TextR.move rfl ?_
  refine TextR.dcall rfl rfl (c_slices_BinarySearch_int N y1 a1 y2 hy2 _) ?_
  refine TextR.move rfl ?_
  refine TextR.extract rfl rfl ?_
  refine TextR.extract rfl rfl ?_
  refine TextR.assign rfl ?_
  refine TextR.assign rfl ?_
  refine TextR.done (.cons rfl .nil) ?_
  refine Wp.seq ?_
  refine Wp.text [4] rfl rfl ?_ -- region 2
  refine TextR.move rfl ?_
  refine TextR.assign rfl ?_
  refine TextR.done (.cons rfl .nil) ?_
  refine Wp.ret ?_
  obtain rfl := Option.some.inj h
  exact Ret.one rfl (resV_tmp rfl) rfl
theorem c_set_Place (N : Nat) (a0 : List Int) (a1 : Int) (r : Int) (h : set_Place N a0 a1 = some r) (H : List Ob) : DCall Try.prog 17 [.c (.slv (a0.map eI)), .c (I a1)] H (.c (I r)) := DCall.lift (by first | rfl | simp [List.map_take, List.map_drop, rvL, rvK, bwL, hfVs, hfV, hfL, hfAll, hfRows, mvV, mvL, mv0, sh0, mvO, mpE, mpV, mpVs, mpO, fzL, rnL, rn0, ok0, nzI, nzB, nzN, nzF, nzP, nzO, nzQ, nzC, shL, shV, shO, okV, okL, okO, List.take_of_length_le, h_I, hfRows_map h_I, ok_eI, okR_eI, fx_eI, fxR_eI, h_L_I, hfRows_map h_L_I, ok_eL_I, okR_eL_I, fx_eL_I, fxR_eL_I, -List.map_set]) (by first | rfl | simp [List.map_take, List.map_drop, rvL, rvK, bwL, hfVs, hfV, hfL, hfAll, hfRows, mvV, mvL, mv0, sh0, mvO, mpE, mpV, mpVs, mpO, fzL, rnL, rn0, ok0, nzI, nzB, nzN, nzF, nzP, nzO, nzQ, nzC, shL, shV, shO, okV, okL, okO, List.take_of_length_le, h_I, hfRows_map h_I, ok_eI, okR_eI, fx_eI, fxR_eI, h_L_I, hfRows_map h_L_I, ok_eL_I, okR_eL_I, fx_eL_I, fxR_eL_I, -List.map_set]) (fun _ => by simp [List.map_take, List.map_drop, rvL, rvK, bwL, hfVs, hfV, hfL, hfAll, hfRows, mvV, mvL, mv0, sh0, mvO, mpE, mpV, mpVs, mpO, fzL, rnL, rn0, ok0, nzI, nzB, nzN, nzF, nzP, nzO, nzQ, nzC, shL, shV, shO, okV, okL, okO, List.take_of_length_le, h_I, hfRows_map h_I, ok_eI, okR_eI, fx_eI, fxR_eI, h_L_I, hfRows_map h_L_I, ok_eL_I, okR_eL_I, fx_eL_I, fxR_eL_I, -List.map_set]) (w_set_Place N a0 a1 r h) H
-- narthex/set.Within
theorem w_set_Within (N : Nat) (a0 : List Int) (a1 : List Int) (r : Bool) (h : set_Within N a0 a1 = some r) : Nx.Call Try.prog 27 [.c (.slv (a0.map eI)), .c (.slv (a1.map eI))] [] fun r' _ => r' = .c (B r) := by
  refine Nx.Call.of_body Try.func27 rfl en27 Try.ntmps27 rfl (fun Γ hok => ?_)
  unfold set_Within at h
  refine Wp.seq ?_
  refine Wp.text [0, 1] rfl rfl ?_ -- region 0
  refine TextR.assign rfl ?_
  refine TextR.done (.cons rfl (.cons rfl .nil)) ?_
  refine Wp.seq ?_
  obtain ⟨y1, hy1, h⟩ := bind_some h
  refine Wp.text [4] rfl rfl ?_ -- region 1
  refine TextR.move rfl ?_
  refine TextR.move rfl ?_
  refine TextR.dcall rfl rfl (c_set_Minus N a0 a1 y1 hy1 _) ?_
  refine TextR.lenM us22 rfl rfl ?_
  refine TextR.int rfl rfl rfl ?_
  refine TextR.assign rfl ?_
  refine TextR.done (.cons rfl .nil) ?_
  refine Wp.ret ?_
  obtain rfl := Option.some.inj h
  exact Ret.one rfl (resV_tmp rfl) rfl
theorem c_set_Within (N : Nat) (a0 : List Int) (a1 : List Int) (r : Bool) (h : set_Within N a0 a1 = some r) (H : List Ob) : DCall Try.prog 27 [.c (.slv (a0.map eI)), .c (.slv (a1.map eI))] H (.c (B r)) := DCall.lift (by first | rfl | simp [List.map_take, List.map_drop, rvL, rvK, bwL, hfVs, hfV, hfL, hfAll, hfRows, mvV, mvL, mv0, sh0, mvO, mpE, mpV, mpVs, mpO, fzL, rnL, rn0, ok0, nzI, nzB, nzN, nzF, nzP, nzO, nzQ, nzC, shL, shV, shO, okV, okL, okO, List.take_of_length_le, h_I, hfRows_map h_I, ok_eI, okR_eI, fx_eI, fxR_eI, h_L_I, hfRows_map h_L_I, ok_eL_I, okR_eL_I, fx_eL_I, fxR_eL_I, -List.map_set]) (by first | rfl | simp [List.map_take, List.map_drop, rvL, rvK, bwL, hfVs, hfV, hfL, hfAll, hfRows, mvV, mvL, mv0, sh0, mvO, mpE, mpV, mpVs, mpO, fzL, rnL, rn0, ok0, nzI, nzB, nzN, nzF, nzP, nzO, nzQ, nzC, shL, shV, shO, okV, okL, okO, List.take_of_length_le, h_I, hfRows_map h_I, ok_eI, okR_eI, fx_eI, fxR_eI, h_L_I, hfRows_map h_L_I, ok_eL_I, okR_eL_I, fx_eL_I, fxR_eL_I, -List.map_set]) (fun _ => by simp [List.map_take, List.map_drop, rvL, rvK, bwL, hfVs, hfV, hfL, hfAll, hfRows, mvV, mvL, mv0, sh0, mvO, mpE, mpV, mpVs, mpO, fzL, rnL, rn0, ok0, nzI, nzB, nzN, nzF, nzP, nzO, nzQ, nzC, shL, shV, shO, okV, okL, okO, List.take_of_length_le, h_I, hfRows_map h_I, ok_eI, okR_eI, fx_eI, fxR_eI, h_L_I, hfRows_map h_L_I, ok_eL_I, okR_eL_I, fx_eL_I, fxR_eL_I, -List.map_set]) (w_set_Within N a0 a1 r h) H
-- narthex/set.Both$1
theorem w_set_Both_1 (N : Nat) (a0 : Int) (c0_0 : List Int) (l2 : List Int) {w2 : Nat} (r : Bool) (h : set_Both_1 N a0 c0_0 l2 = some r) : Nx.Call Try.prog 35 [.c (I a0), .c (.ptr 0 0 0 0)] [.live 0 1 [[.slv (c0_0.map eI)]], .live 0 1 [[.clo 35 [.ptr 0 0 0 0]]], .live w2 1 (l2.map eI)] fun r' H' => r' = .c (B r) ∧ ∃ junk, H' = [.live 0 1 [[.slv (c0_0.map eI)]], .live 0 1 [[.clo 35 [.ptr 0 0 0 0]]], .live w2 1 (l2.map eI)] ++ junk := by
  refine Nx.Call.of_body Try.func35 rfl en35 Try.ntmps35 rfl (fun Γ hok => ?_)
  unfold set_Both_1 at h
  refine Wp.seq ?_
  refine Wp.text [0, 1] rfl rfl ?_ -- region 0
  refine TextR.assign rfl ?_
  refine TextR.done (.cons rfl (.cons rfl .nil)) ?_
  refine Wp.seq ?_
  obtain ⟨y1, hy1, h⟩ := bind_some h
  refine Wp.text [3] rfl rfl ?_ -- region 1
  refine TextR.load1 tk22 rfl rfl ?_
  refine TextR.move rfl ?_
  refine TextR.dcall rfl rfl (c_set_Has N c0_0 a0 y1 hy1 _) ?_
  refine TextR.assign rfl ?_
  refine TextR.done (.cons rfl .nil) ?_
  refine Wp.ret ?_
  obtain rfl := Option.some.inj h
  exact Ret.one rfl (resV_tmp rfl) ⟨rfl, _, rfl⟩
theorem c_set_Both_1 (N : Nat) (a0 : Int) (c0_0 : List Int) (l2 : List Int) {w2 : Nat} (r : Bool) (h : set_Both_1 N a0 c0_0 l2 = some r) : DCall Try.prog 35 [.c (I a0), .c (.ptr 0 0 0 0)] [.live 0 1 [[.slv (c0_0.map eI)]], .live 0 1 [[.clo 35 [.ptr 0 0 0 0]]], .live w2 1 (l2.map eI)] (.c (B r)) := Call.trim (by simp) (by first | rfl | simp [List.map_take, List.map_drop, rvL, rvK, bwL, hfVs, hfV, hfL, hfAll, hfRows, mvV, mvL, mv0, sh0, mvO, mpE, mpV, mpVs, mpO, fzL, rnL, rn0, ok0, nzI, nzB, nzN, nzF, nzP, nzO, nzQ, nzC, shL, shV, shO, okV, okL, okO, List.take_of_length_le, h_I, hfRows_map h_I, ok_eI, okR_eI, fx_eI, fxR_eI, h_L_I, hfRows_map h_L_I, ok_eL_I, okR_eL_I, fx_eL_I, fxR_eL_I, -List.map_set]) (by first | rfl | simp [List.map_take, List.map_drop, rvL, rvK, bwL, hfVs, hfV, hfL, hfAll, hfRows, mvV, mvL, mv0, sh0, mvO, mpE, mpV, mpVs, mpO, fzL, rnL, rn0, ok0, nzI, nzB, nzN, nzF, nzP, nzO, nzQ, nzC, shL, shV, shO, okV, okL, okO, List.take_of_length_le, h_I, hfRows_map h_I, ok_eI, okR_eI, fx_eI, fxR_eI, h_L_I, hfRows_map h_L_I, ok_eL_I, okR_eL_I, fx_eL_I, fxR_eL_I, -List.map_set]) (w_set_Both_1 N a0 c0_0 l2 r h)
-- narthex/set.keep$1
theorem w_set_keep_1_2 (N : Nat) (a0 : Int) (c0_0 : List Int) (l2 : List Int) {w2 : Nat} (r : Bool) (h : set_keep_1_2 N a0 c0_0 l2 = some r) : Nx.Call Try.prog 44 [.c (I a0), .c (.ptr 1 0 0 0)] [.live 0 1 [[.slv (c0_0.map eI)]], .live 0 1 [[.clo 35 [.ptr 0 0 0 0]]], .live w2 1 (l2.map eI)] fun r' H' => r' = .c (B r) ∧ ∃ junk, H' = [.live 0 1 [[.slv (c0_0.map eI)]], .live 0 1 [[.clo 35 [.ptr 0 0 0 0]]], .live w2 1 (l2.map eI)] ++ junk := by
  refine Nx.Call.of_body Try.func44 rfl en44 Try.ntmps44 rfl (fun Γ hok => ?_)
  unfold set_keep_1_2 at h
  refine Wp.seq ?_
  refine Wp.text [0, 1] rfl rfl ?_ -- region 0
  refine TextR.assign rfl ?_
  refine TextR.done (.cons rfl (.cons rfl .nil)) ?_
  refine Wp.seq ?_
  obtain ⟨y1, hy1, h⟩ := bind_some h
  refine Wp.text [3] rfl rfl ?_ -- region 1
  refine TextR.load1 tk39 rfl rfl ?_
  refine TextR.move rfl ?_
  refine TextR.dcall rfl rfl (c_set_Both_1 N a0 c0_0 l2 y1 hy1) ?_
  refine TextR.not rfl ?_
  refine TextR.assign rfl ?_
  refine TextR.done (.cons rfl .nil) ?_
  refine Wp.ret ?_
  obtain rfl := Option.some.inj h
  exact Ret.one rfl (resV_tmp rfl) ⟨rfl, _, rfl⟩
theorem c_set_keep_1_2 (N : Nat) (a0 : Int) (c0_0 : List Int) (l2 : List Int) {w2 : Nat} (r : Bool) (h : set_keep_1_2 N a0 c0_0 l2 = some r) : DCall Try.prog 44 [.c (I a0), .c (.ptr 1 0 0 0)] [.live 0 1 [[.slv (c0_0.map eI)]], .live 0 1 [[.clo 35 [.ptr 0 0 0 0]]], .live w2 1 (l2.map eI)] (.c (B r)) := Call.trim (by simp) (by first | rfl | simp [List.map_take, List.map_drop, rvL, rvK, bwL, hfVs, hfV, hfL, hfAll, hfRows, mvV, mvL, mv0, sh0, mvO, mpE, mpV, mpVs, mpO, fzL, rnL, rn0, ok0, nzI, nzB, nzN, nzF, nzP, nzO, nzQ, nzC, shL, shV, shO, okV, okL, okO, List.take_of_length_le, h_I, hfRows_map h_I, ok_eI, okR_eI, fx_eI, fxR_eI, h_L_I, hfRows_map h_L_I, ok_eL_I, okR_eL_I, fx_eL_I, fxR_eL_I, -List.map_set]) (by first | rfl | simp [List.map_take, List.map_drop, rvL, rvK, bwL, hfVs, hfV, hfL, hfAll, hfRows, mvV, mvL, mv0, sh0, mvO, mpE, mpV, mpVs, mpO, fzL, rnL, rn0, ok0, nzI, nzB, nzN, nzF, nzP, nzO, nzQ, nzC, shL, shV, shO, okV, okL, okO, List.take_of_length_le, h_I, hfRows_map h_I, ok_eI, okR_eI, fx_eI, fxR_eI, h_L_I, hfRows_map h_L_I, ok_eL_I, okR_eL_I, fx_eL_I, fxR_eL_I, -List.map_set]) (w_set_keep_1_2 N a0 c0_0 l2 r h)
-- slices.IndexFunc[[]int,int]
theorem w_slices_IndexFunc_int_2 (N : Nat) (c0_0 : List Int) (l2 : List Int) {w2 : Nat} (r : Int) (h : slices_IndexFunc_int_2 N c0_0 l2 = some r) : Nx.Call Try.prog 56 [.c (.sl 2 w2 0 l2.length), .c (.clo 44 [.ptr 1 0 0 0])] [.live 0 1 [[.slv (c0_0.map eI)]], .live 0 1 [[.clo 35 [.ptr 0 0 0 0]]], .live w2 1 (l2.map eI)] fun r' H' => r' = .c (I r) ∧ ∃ junk, H' = [.live 0 1 [[.slv (c0_0.map eI)]], .live 0 1 [[.clo 35 [.ptr 0 0 0 0]]], .live w2 1 (l2.map eI)] ++ junk := by
  refine Nx.Call.of_body Try.func56 rfl en56 Try.ntmps56 rfl (fun Γ hok => ?_)
  unfold slices_IndexFunc_int_2 at h
  refine Wp.seq ?_
  refine Wp.text [0, 1] rfl rfl ?_ -- region 0
  refine TextR.assign rfl ?_
  refine TextR.done (.cons rfl (.cons rfl .nil)) ?_
  refine Wp.seq ?_
  refine Wp.seq ?_
  refine Wp.text [0, 1, 7, 8] rfl rfl ?_ -- region 1
  refine TextR.move rfl ?_
  refine TextR.len us22 rfl rfl ?_
  refine TextR.move rfl ?_
  refine TextR.done (.cons rfl (.cons rfl (.cons rfl (.cons rfl .nil)))) ?_
  obtain ⟨z1, hz1, h⟩ := bind_some h
  refine Wp.fragR (fun S => ∃ z3, z1 = .inr z3 ∧ ∃ S', St.Weak ⟨Try.prog, 19, Γ⟩ S S' ∧ S' = ⟨[], [.live 0 1 [[.slv (c0_0.map eI)]], .live 0 1 [[.clo 35 [.ptr 0 0 0 0]]], .live w2 1 (l2.map eI)]⟩) (fun S => ∃ v, z1 = .inl v ∧ Ret Try.prog Try.f56 (fun r' H' => r' = .c (I v) ∧ ∃ junk, H' = [.live 0 1 [[.slv (c0_0.map eI)]], .live 0 1 [[.clo 35 [.ptr 0 0 0 0]]], .live w2 1 (l2.map eI)] ++ junk) .ret S) ?_ ?_ ?_
  · replace h := hz1
    refine Wp.block ?_
    refine Wp.weak (keepW (live := [0, 1, 7, 8]) (.cons rfl (.cons rfl (.cons rfl (.cons rfl .nil))))) ?_
    refine Wp.loop (fun m S => ∃ s8_1, slices_IndexFunc_int_2_L1 N c0_0 l2 m s8_1 = some z1 ∧ S = ⟨[(0, .c (.sl 2 w2 0 l2.length)), (1, .c (.clo 44 [.ptr 1 0 0 0])), (7, .c (I (l2.length : Int))), (8, .c (I s8_1))], [.live 0 1 [[.slv (c0_0.map eI)]], .live 0 1 [[.clo 35 [.ptr 0 0 0 0]]], .live w2 1 (l2.map eI)]⟩) N ⟨_, h, rfl⟩ ?_
    rintro m1 _ ⟨s8_1, h, rfl⟩
    cases m1 with
    | zero => rw [slices_IndexFunc_int_2_L1.eq_1] at h; cases h
    | succ m1 =>
    rw [slices_IndexFunc_int_2_L1.eq_2] at h
    refine Wp.seq ?_
    refine Wp.text [0, 1, 7, 8, 9] rfl rfl ?_ -- region 2
    refine TextR.int rfl rfl rfl ?_
    refine TextR.done (.cons rfl (.cons rfl (.cons rfl (.cons rfl (.cons rfl .nil))))) ?_
    refine Wp.seq ?_
    refine Wp.condM h rfl (fun hc2 h => ?_) (fun hc2 h => ?_)
    · refine Wp.skip ?_
      refine Wp.seq ?_
      refine Wp.block ?_
      refine Wp.seq ?_
      refine Wp.text [0, 1, 5, 7, 8] rfl rfl ?_ -- region 3
      refine TextR.move rfl ?_
      refine TextR.assign rfl ?_
      refine TextR.done (.cons rfl (.cons rfl (.cons rfl (.cons rfl (.cons rfl .nil))))) ?_
      refine Wp.seq ?_
      obtain ⟨x4, hx4, h⟩ := bind_some h
      obtain ⟨y5, hy5, h⟩ := bind_some h
      refine Wp.text [0, 1, 5, 7, 8, 16] rfl rfl ?_ -- region 4
      refine TextR.move rfl ?_
      refine TextR.move rfl ?_
      refine TextR.move rfl ?_
      refine TextR.indexOA se22 rfl rfl (obj_of rfl) hx4 ?_
      refine TextR.load1O tk3 rfl (obj_of rfl) (at_get hx4) rfl ?_
      refine TextR.dcall rfl rfl (c_set_keep_1_2 N x4 c0_0 l2 y5 hy5) ?_
      refine TextR.done (.cons rfl (.cons rfl (.cons rfl (.cons rfl (.cons rfl (.cons rfl .nil)))))) ?_
      refine Wp.condM h rfl (fun hc3 h => ?_) (fun hc3 h => ?_)
      · refine Wp.seq ?_
        refine Wp.text [4] rfl rfl ?_ -- region 5
        refine TextR.move rfl ?_
        refine TextR.assign rfl ?_
        refine TextR.done (.cons rfl .nil) ?_
        refine Wp.ret ?_
        exact ⟨_, (Option.some.inj h).symm, Ret.one rfl (resV_tmp rfl) ⟨rfl, _, rfl⟩⟩
      · refine Wp.skip ?_
        refine Wp.text [0, 1, 7, 8] rfl rfl ?_ -- region 6
        refine TextR.int rfl rfl rfl ?_
        refine TextR.move rfl ?_
        refine TextR.done (.cons rfl (.cons rfl (.cons rfl (.cons rfl .nil)))) ?_
        exact ⟨m1, Nat.lt_succ_self _, _, (keepW (live := [0, 1, 7, 8]) (.cons rfl (.cons rfl (.cons rfl (.cons rfl .nil))))), _, h, rfl⟩
    · refine Wp.exit ?_
      exact ⟨_, (Option.some.inj h).symm, _, (keepW (live := []) .nil), rfl⟩
  · rintro _ ⟨z3, rfl, _, hw, rfl⟩
    dsimp only at h
    clear hz1
    refine Wp.weak hw ?_
    refine Wp.seq ?_
    refine Wp.text [4] rfl rfl ?_ -- region 7
    refine TextR.assign rfl ?_
    refine TextR.done (.cons rfl .nil) ?_
    refine Wp.ret ?_
    obtain rfl := Option.some.inj h
    exact Ret.one rfl (resV_tmp rfl) ⟨rfl, _, rfl⟩
  · rintro S' ⟨r2, rfl, hR⟩
    dsimp only at h
    obtain rfl := Option.some.inj h
    exact hR
theorem c_slices_IndexFunc_int_2 (N : Nat) (c0_0 : List Int) (l2 : List Int) {w2 : Nat} (r : Int) (h : slices_IndexFunc_int_2 N c0_0 l2 = some r) : DCall Try.prog 56 [.c (.sl 2 w2 0 l2.length), .c (.clo 44 [.ptr 1 0 0 0])] [.live 0 1 [[.slv (c0_0.map eI)]], .live 0 1 [[.clo 35 [.ptr 0 0 0 0]]], .live w2 1 (l2.map eI)] (.c (I r)) := Call.trim (by simp) (by first | rfl | simp [List.map_take, List.map_drop, rvL, rvK, bwL, hfVs, hfV, hfL, hfAll, hfRows, mvV, mvL, mv0, sh0, mvO, mpE, mpV, mpVs, mpO, fzL, rnL, rn0, ok0, nzI, nzB, nzN, nzF, nzP, nzO, nzQ, nzC, shL, shV, shO, okV, okL, okO, List.take_of_length_le, h_I, hfRows_map h_I, ok_eI, okR_eI, fx_eI, fxR_eI, h_L_I, hfRows_map h_L_I, ok_eL_I, okR_eL_I, fx_eL_I, fxR_eL_I, -List.map_set]) (by first | rfl | simp [List.map_take, List.map_drop, rvL, rvK, bwL, hfVs, hfV, hfL, hfAll, hfRows, mvV, mvL, mv0, sh0, mvO, mpE, mpV, mpVs, mpO, fzL, rnL, rn0, ok0, nzI, nzB, nzN, nzF, nzP, nzO, nzQ, nzC, shL, shV, shO, okV, okL, okO, List.take_of_length_le, h_I, hfRows_map h_I, ok_eI, okR_eI, fx_eI, fxR_eI, h_L_I, hfRows_map h_L_I, ok_eL_I, okR_eL_I, fx_eL_I, fxR_eL_I, -List.map_set]) (w_slices_IndexFunc_int_2 N c0_0 l2 r h)
-- slices.DeleteFunc[[]int,int]
theorem w_slices_DeleteFunc_int_2 (N : Nat) (c0_0 : List Int) (l2 : List Int) {w2 : Nat} (r : (List Int)) (h : slices_DeleteFunc_int_2 N c0_0 l2 = some r) : Nx.Call Try.prog 43 [.c (.sl 2 w2 0 l2.length), .c (.clo 44 [.ptr 1 0 0 0])] [.live 0 1 [[.slv (c0_0.map eI)]], .live 0 1 [[.clo 35 [.ptr 0 0 0 0]]], .live w2 1 (l2.map eI)] fun r' H' => r' = .c (.sl 2 (w2 + 1) 0 r.length) ∧ ∃ junk, H' = [.live 0 1 [[.slv (c0_0.map eI)]], .live 0 1 [[.clo 35 [.ptr 0 0 0 0]]], .live (w2 + 1) 1 (r.map eI)] ++ junk := by
  refine Nx.Call.of_body Try.func43 rfl en43 Try.ntmps43 rfl (fun Γ hok => ?_)
  unfold slices_DeleteFunc_int_2 at h
  refine Wp.seq ?_
  refine Wp.text [0, 1] rfl rfl ?_ -- region 0
  refine TextR.assign rfl ?_
  refine TextR.done (.cons rfl (.cons rfl .nil)) ?_
  refine Wp.seq ?_
  obtain ⟨y1, hy1, h⟩ := bind_some h
  refine Wp.text [0, 1, 5] rfl rfl ?_ -- region 1
  refine TextR.move rfl ?_
  refine TextR.move rfl ?_
  refine TextR.dcall rfl rfl (c_slices_IndexFunc_int_2 N c0_0 l2 y1 hy1) ?_
  refine TextR.assign rfl ?_
  refine TextR.done (.cons rfl (.cons rfl (.cons rfl .nil))) ?_
  refine Wp.seq ?_
  refine Wp.seq ?_
  refine Wp.text [0, 1, 5, 12] rfl rfl ?_ -- region 2
  refine TextR.move rfl ?_
  refine TextR.int rfl rfl rfl ?_
  refine TextR.done (.cons rfl (.cons rfl (.cons rfl (.cons rfl .nil)))) ?_
  refine Wp.condM h rfl (fun hc1 h => ?_) (fun hc1 h => ?_)
  · refine Wp.seq ?_
    refine Wp.text [4] rfl rfl ?_ -- region 3
    refine TextR.move rfl ?_
    refine TextR.assign rfl ?_
    refine TextR.done (.cons rfl .nil) ?_
    refine Wp.weak (keepW (live := [4] ) (.cons rfl .nil)) ?_
    refine Wp.weak (narrowE (t := 4) (rows' := l2.map eI) rfl (obj_of rfl) (by simp) (by simp [List.take_of_length_le]) (.succ (.succ .zero))) ?_
    refine Wp.weak (keepW (live := [4]) (.cons rfl .nil)) ?_
    refine Wp.ret ?_
    obtain rfl := Option.some.inj h
    exact Ret.one rfl (resV_tmp rfl) ⟨rfl, _, rfl⟩
  · refine Wp.skip ?_
    refine Wp.seq ?_
    refine Wp.seq ?_
    refine Wp.text [0, 1, 5, 6] rfl rfl ?_ -- region 4
    refine TextR.move rfl ?_
    refine TextR.int rfl rfl rfl ?_
    refine TextR.assign rfl ?_
    refine TextR.done (.cons rfl (.cons rfl (.cons rfl (.cons rfl .nil)))) ?_
    obtain ⟨z2, hz2, h⟩ := bind_some h
    refine Wp.fragN (fun S => ∃ S', St.Weak ⟨Try.prog, 42, Γ⟩ S S' ∧ S' = ⟨[(0, .c (.sl 2 w2 0 z2.1.length)), (5, .c (I z2.2))], [.live 0 1 [[.slv (c0_0.map eI)]], .live 0 1 [[.clo 35 [.ptr 0 0 0 0]]], .live w2 1 (z2.1.map eI)]⟩) ?_ ?_
    · replace h := hz2
      refine Wp.block ?_
      refine Wp.weak (keepW (live := [0, 1, 5, 6]) (.cons rfl (.cons rfl (.cons rfl (.cons rfl .nil))))) ?_
      refine Wp.loop (fun m S => ∃ l2_1, ∃ s5_1, ∃ s6_1, slices_DeleteFunc_int_2_L1 N c0_0 m l2_1 s5_1 s6_1 = some z2 ∧ S = ⟨[(0, .c (.sl 2 w2 0 l2_1.length)), (1, .c (.clo 44 [.ptr 1 0 0 0])), (5, .c (I s5_1)), (6, .c (I s6_1))], [.live 0 1 [[.slv (c0_0.map eI)]], .live 0 1 [[.clo 35 [.ptr 0 0 0 0]]], .live w2 1 (l2_1.map eI)]⟩) N ⟨_, _, _, h, rfl⟩ ?_
      rintro m1 _ ⟨l2_1, s5_1, s6_1, h, rfl⟩
      cases m1 with
      | zero => rw [slices_DeleteFunc_int_2_L1.eq_1] at h; cases h
      | succ m1 =>
      rw [slices_DeleteFunc_int_2_L1.eq_2] at h
      refine Wp.seq ?_
      refine Wp.seq ?_
      refine Wp.text [0, 1, 5, 6, 19] rfl rfl ?_ -- region 5
      refine TextR.move rfl ?_
      refine TextR.move rfl ?_
      refine TextR.len us22 rfl rfl ?_
      refine TextR.int rfl rfl rfl ?_
      refine TextR.done (.cons rfl (.cons rfl (.cons rfl (.cons rfl (.cons rfl .nil))))) ?_
      refine Wp.condM h rfl (fun hc3 h => ?_) (fun hc3 h => ?_)
      · refine Wp.skip ?_
        refine Wp.seq ?_
        refine Wp.block ?_
        refine Wp.seq ?_
        obtain ⟨x3, hx3, h⟩ := bind_some h
        refine Wp.text [0, 1, 5, 6, 7] rfl rfl ?_ -- region 7
        refine TextR.move rfl ?_
        refine TextR.move rfl ?_
        refine TextR.indexOA se22 rfl rfl (obj_of rfl) hx3 ?_
        refine TextR.load1O tk3 rfl (obj_of rfl) (at_get hx3) rfl ?_
        refine TextR.assign rfl ?_
        refine TextR.done (.cons rfl (.cons rfl (.cons rfl (.cons rfl (.cons rfl .nil))))) ?_
        refine Wp.seq ?_
        obtain ⟨y4, hy4, h⟩ := bind_some h
        refine Wp.text [0, 1, 5, 6, 7, 29] rfl rfl ?_ -- region 8
        refine TextR.move rfl ?_
        refine TextR.move rfl ?_
        refine TextR.dcall rfl rfl (c_set_keep_1_2 N x3 c0_0 l2_1 y4 hy4) ?_
        refine TextR.not rfl ?_
        refine TextR.done (.cons rfl (.cons rfl (.cons rfl (.cons rfl (.cons rfl (.cons rfl .nil)))))) ?_
        refine Wp.condM h rfl (fun hc4 h => ?_) (fun hc4 h => ?_)
        · refine Wp.seq ?_
          obtain ⟨x5, hx5, h⟩ := bind_some h
          refine Wp.text [0, 1, 5, 6] rfl rfl ?_ -- region 9
          refine TextR.move rfl ?_
          refine TextR.move rfl ?_
          refine TextR.move rfl ?_
          refine TextR.indexOA se22 rfl rfl (obj_of rfl) hx5 ?_
          refine TextR.storeO x3 tk3 rfl rfl rfl (obj_of rfl) rfl (at_get hx5) rfl rfl (.succ (.succ .zero)) ?_
          refine TextR.done (.cons rfl (.cons rfl (.cons rfl (.cons rfl .nil)))) ?_
          refine Wp.weak (eqW (S' := ⟨[(0, .c (.sl 2 w2 0 (l2_1.set s5_1.toNat x3).length)), (1, .c (.clo 44 [.ptr 1 0 0 0])), (5, .c (I s5_1)), (6, .c (I s6_1))], [.live 0 1 [[.slv (c0_0.map eI)]], .live 0 1 [[.clo 35 [.ptr 0 0 0 0]]], .live w2 1 ((l2_1.set s5_1.toNat x3).map eI)]⟩) (by first | rfl | (simp only [List.length_set]; done) | (simp only [List.length_set]; rfl))) ?_
          refine Wp.text [0, 1, 5, 6] rfl rfl ?_ -- region 10
          refine TextR.move rfl ?_
          refine TextR.int rfl rfl rfl ?_
          refine TextR.assign rfl ?_
          refine TextR.done (.cons rfl (.cons rfl (.cons rfl (.cons rfl .nil)))) ?_
          refine Wp.text [0, 1, 5, 6] rfl rfl ?_ -- region 6
          refine TextR.move rfl ?_
          refine TextR.int rfl rfl rfl ?_
          refine TextR.assign rfl ?_
          refine TextR.done (.cons rfl (.cons rfl (.cons rfl (.cons rfl .nil)))) ?_
          exact ⟨m1, Nat.lt_succ_self _, _, (keepW (live := [0, 1, 5, 6]) (.cons rfl (.cons rfl (.cons rfl (.cons rfl .nil))))), _, _, _, h, rfl⟩
        · refine Wp.skip ?_
          refine Wp.text [0, 1, 5, 6] rfl rfl ?_ -- region 6
          refine TextR.move rfl ?_
          refine TextR.int rfl rfl rfl ?_
          refine TextR.assign rfl ?_
          refine TextR.done (.cons rfl (.cons rfl (.cons rfl (.cons rfl .nil)))) ?_
          exact ⟨m1, Nat.lt_succ_self _, _, (keepW (live := [0, 1, 5, 6]) (.cons rfl (.cons rfl (.cons rfl (.cons rfl .nil))))), _, _, _, h, rfl⟩
      · refine Wp.exit ?_
        obtain rfl := Option.some.inj h
        exact ⟨_, (keepW (live := [0, 5]) (.cons rfl (.cons rfl .nil))), rfl⟩
    rintro _ ⟨S', hw, rfl⟩
    clear hz2
    refine Wp.weak hw ?_
    refine Wp.seq ?_
    obtain ⟨x6, hx6, h⟩ := bind_some h
    refine Wp.text [0, 5] rfl rfl ?_ -- region 11
    refine TextR.move rfl ?_
    refine TextR.move rfl ?_
    refine TextR.sliceOM se22 rfl rfl rfl (obj_of rfl) rfl rfl hx6 ?_
    refine TextR.clearM eI z2.1 0 se22 rfl (obj_of rfl) (by have q0 := sub_le hx6; first | exact q0 | (simp only [List.length_set, List.length_take, List.length_drop, length_cpy, length_clr] at *; omega)) rfl (fun _ => rfl) (.succ (.succ .zero)) ?_
    refine TextR.done (.cons rfl (.cons rfl .nil)) ?_
    refine Wp.weak (eqW (S' := ⟨[(0, .c (.sl 2 w2 0 (clr z2.1 (Int.toNat z2.2) x6.length 0).length)), (5, .c (I z2.2))], [.live 0 1 [[.slv (c0_0.map eI)]], .live 0 1 [[.clo 35 [.ptr 0 0 0 0]]], .live w2 1 ((clr z2.1 (Int.toNat z2.2) x6.length 0).map eI)]⟩) (by have e0 := length_clr z2.1 (Int.toNat z2.2) x6.length 0 (by have q0 := sub_le hx6; first | exact q0 | (simp only [List.length_set, List.length_take, List.length_drop, length_cpy, length_clr] at *; omega)); first | rfl | (simp only [List.length_set]; done) | (simp only [List.length_set]; rfl) | (simp only [List.length_set, e0]; done) | (simp only [List.length_set, e0]; rfl))) ?_
    refine Wp.seq ?_
    obtain ⟨x7, hx7, h⟩ := bind_some h
    refine Wp.text [4] rfl rfl ?_ -- region 12
    refine TextR.move rfl ?_
    refine TextR.move rfl ?_
    refine TextR.sliceOM se22 rfl rfl rfl (obj_of rfl) rfl rfl hx7 ?_
    refine TextR.assign rfl ?_
    refine TextR.done (.cons rfl .nil) ?_
    refine Wp.weak (keepW (live := [4] ) (.cons rfl .nil)) ?_
    refine Wp.weak (narrowE (t := 4) (rows' := x7.map eI) rfl (obj_of rfl) (by have q := sub_le hx7; simp at q ⊢; omega) (sub_rows hx7) (.succ (.succ .zero))) ?_
    refine Wp.weak (keepW (live := [4]) (.cons rfl .nil)) ?_
    refine Wp.ret ?_
    obtain rfl := Option.some.inj h
    exact Ret.one rfl (resV_tmp rfl) ⟨rfl, _, rfl⟩
theorem c_slices_DeleteFunc_int_2 (N : Nat) (c0_0 : List Int) (l2 : List Int) {w2 : Nat} (r : (List Int)) (h : slices_DeleteFunc_int_2 N c0_0 l2 = some r) : Nx.Call Try.prog 43 [.c (.sl 2 w2 0 l2.length), .c (.clo 44 [.ptr 1 0 0 0])] [.live 0 1 [[.slv (c0_0.map eI)]], .live 0 1 [[.clo 35 [.ptr 0 0 0 0]]], .live w2 1 (l2.map eI)] fun r' H' => r' = .c (.sl 2 (w2 + 1) 0 r.length) ∧ H' = [.live 0 1 [[.slv (c0_0.map eI)]], .live 0 1 [[.clo 35 [.ptr 0 0 0 0]]], .live (w2 + 1) 1 (r.map eI)] := Call.trim (by simp) (by first | rfl | simp [List.map_take, List.map_drop, rvL, rvK, bwL, hfVs, hfV, hfL, hfAll, hfRows, mvV, mvL, mv0, sh0, mvO, mpE, mpV, mpVs, mpO, fzL, rnL, rn0, ok0, nzI, nzB, nzN, nzF, nzP, nzO, nzQ, nzC, shL, shV, shO, okV, okL, okO, List.take_of_length_le, h_I, hfRows_map h_I, ok_eI, okR_eI, fx_eI, fxR_eI, h_L_I, hfRows_map h_L_I, ok_eL_I, okR_eL_I, fx_eL_I, fxR_eL_I, -List.map_set]) (by first | rfl | simp [List.map_take, List.map_drop, rvL, rvK, bwL, hfVs, hfV, hfL, hfAll, hfRows, mvV, mvL, mv0, sh0, mvO, mpE, mpV, mpVs, mpO, fzL, rnL, rn0, ok0, nzI, nzB, nzN, nzF, nzP, nzO, nzQ, nzC, shL, shV, shO, okV, okL, okO, List.take_of_length_le, h_I, hfRows_map h_I, ok_eI, okR_eI, fx_eI, fxR_eI, h_L_I, hfRows_map h_L_I, ok_eL_I, okR_eL_I, fx_eL_I, fxR_eL_I, -List.map_set]) (w_slices_DeleteFunc_int_2 N c0_0 l2 r h)
-- narthex/set.keep
theorem w_set_keep_2 (N : Nat) (a0 : List Int) (c0_0 : List Int) (r : (List Int)) (h : set_keep_2 N a0 c0_0 = some r) : Nx.Call Try.prog 34 [.c (.slv (a0.map eI)), .c (.clo 35 [.ptr 0 0 0 0])] [.live 0 1 [[.slv (c0_0.map eI)]]] fun r' H' => r' = .c (.slv (r.map eI)) ∧ ∃ junk, H' = [.live 0 1 [[.slv (c0_0.map eI)]]] ++ junk := by
  refine Nx.Call.of_body Try.func34 rfl en34 Try.ntmps34 rfl (fun Γ hok => ?_)
  unfold set_keep_2 at h
  refine Wp.seq ?_
  refine Wp.text [0, 3] rfl rfl ?_ -- region 0
  refine TextR.box (cs := [.clo 35 [.ptr 0 0 0 0]]) 1 rfl rfl rfl rfl (.cons .nil) ?_
  refine TextR.assign rfl ?_
  refine TextR.done (.cons rfl (.cons rfl .nil)) ?_
  refine Wp.seq ?_
  obtain ⟨y1, hy1, h⟩ := bind_some h
  obtain ⟨y2, hy2, h⟩ := bind_some h
  refine Wp.text [4] rfl rfl ?_ -- region 1
  refine TextR.move rfl ?_
  refine TextR.call rfl rfl (by exact o_set_Of N a0 y1 hy1 2 rfl (.cons (.cons .nil))) (fun x H' hk => ?_)
  obtain ⟨rfl, rfl⟩ := hk
  refine TextR.makeFunc rfl ?_
  refine TextR.call rfl rfl (by exact c_slices_DeleteFunc_int_2 N c0_0 y1 y2 hy2) (fun x H' hk => ?_)
  obtain ⟨rfl, rfl⟩ := hk
  refine TextR.assign rfl ?_
  refine TextR.done (.cons rfl .nil) ?_
  refine Wp.weak (keepW (live := [4] ) (.cons rfl .nil)) ?_
  refine Wp.weak (freezeW (h := 2) (ver := 1) (rows := y2.map eI) (e' := [(4, .c (.slv (y2.map eI)))]) (H' := [.live 0 1 [[.slv (c0_0.map eI)]], .live 0 1 [[.clo 35 [.ptr 0 0 0 0]]], .dead]) rfl (by first | rfl | simp [List.map_take, List.map_drop, rvL, rvK, bwL, hfVs, hfV, hfL, hfAll, hfRows, mvV, mvL, mv0, sh0, mvO, mpE, mpV, mpVs, mpO, fzL, rnL, rn0, ok0, nzI, nzB, nzN, nzF, nzP, nzO, nzQ, nzC, shL, shV, shO, okV, okL, okO, List.take_of_length_le, h_I, hfRows_map h_I, ok_eI, okR_eI, fx_eI, fxR_eI, h_L_I, hfRows_map h_L_I, ok_eL_I, okR_eL_I, fx_eL_I, fxR_eL_I, -List.map_set]) (by first | rfl | simp [List.map_take, List.map_drop, rvL, rvK, bwL, hfVs, hfV, hfL, hfAll, hfRows, mvV, mvL, mv0, sh0, mvO, mpE, mpV, mpVs, mpO, fzL, rnL, rn0, ok0, nzI, nzB, nzN, nzF, nzP, nzO, nzQ, nzC, shL, shV, shO, okV, okL, okO, List.take_of_length_le, h_I, hfRows_map h_I, ok_eI, okR_eI, fx_eI, fxR_eI, h_L_I, hfRows_map h_L_I, ok_eL_I, okR_eL_I, fx_eL_I, fxR_eL_I, -List.map_set])) ?_
  refine Wp.ret ?_
  obtain rfl := Option.some.inj h
  exact Ret.one rfl (resV_tmp rfl) ⟨rfl, _, rfl⟩
theorem c_set_keep_2 (N : Nat) (a0 : List Int) (c0_0 : List Int) (r : (List Int)) (h : set_keep_2 N a0 c0_0 = some r) : DCall Try.prog 34 [.c (.slv (a0.map eI)), .c (.clo 35 [.ptr 0 0 0 0])] [.live 0 1 [[.slv (c0_0.map eI)]]] (.c (.slv (r.map eI))) := Call.trim (by simp) (by first | rfl | simp [List.map_take, List.map_drop, rvL, rvK, bwL, hfVs, hfV, hfL, hfAll, hfRows, mvV, mvL, mv0, sh0, mvO, mpE, mpV, mpVs, mpO, fzL, rnL, rn0, ok0, nzI, nzB, nzN, nzF, nzP, nzO, nzQ, nzC, shL, shV, shO, okV, okL, okO, List.take_of_length_le, h_I, hfRows_map h_I, ok_eI, okR_eI, fx_eI, fxR_eI, h_L_I, hfRows_map h_L_I, ok_eL_I, okR_eL_I, fx_eL_I, fxR_eL_I, -List.map_set]) (by first | rfl | simp [List.map_take, List.map_drop, rvL, rvK, bwL, hfVs, hfV, hfL, hfAll, hfRows, mvV, mvL, mv0, sh0, mvO, mpE, mpV, mpVs, mpO, fzL, rnL, rn0, ok0, nzI, nzB, nzN, nzF, nzP, nzO, nzQ, nzC, shL, shV, shO, okV, okL, okO, List.take_of_length_le, h_I, hfRows_map h_I, ok_eI, okR_eI, fx_eI, fxR_eI, h_L_I, hfRows_map h_L_I, ok_eL_I, okR_eL_I, fx_eL_I, fxR_eL_I, -List.map_set]) (w_set_keep_2 N a0 c0_0 r h)
-- narthex/set.Both
theorem w_set_Both (N : Nat) (a0 : List Int) (a1 : List Int) (r : (List Int)) (h : set_Both N a0 a1 = some r) : Nx.Call Try.prog 25 [.c (.slv (a0.map eI)), .c (.slv (a1.map eI))] [] fun r' _ => r' = .c (.slv (r.map eI)) := by
  refine Nx.Call.of_body Try.func25 rfl en25 Try.ntmps25 rfl (fun Γ hok => ?_)
  unfold set_Both at h
  refine Wp.seq ?_
  refine Wp.text [0, 3] rfl rfl ?_ -- region 0
  refine TextR.box (cs := [.slv (a1.map eI)]) 0 rfl rfl rfl rfl .nil ?_
  refine TextR.assign rfl ?_
  refine TextR.done (.cons rfl (.cons rfl .nil)) ?_
  refine Wp.seq ?_
  obtain ⟨y1, hy1, h⟩ := bind_some h
  refine Wp.text [4] rfl rfl ?_ -- region 1
  refine TextR.move rfl ?_
  refine TextR.makeFunc rfl ?_
  refine TextR.dcall rfl rfl (c_set_keep_2 N a0 a1 y1 hy1) ?_
  refine TextR.assign rfl ?_
  refine TextR.done (.cons rfl .nil) ?_
  refine Wp.ret ?_
  obtain rfl := Option.some.inj h
  exact Ret.one rfl (resV_tmp rfl) rfl
theorem c_set_Both (N : Nat) (a0 : List Int) (a1 : List Int) (r : (List Int)) (h : set_Both N a0 a1 = some r) (H : List Ob) : DCall Try.prog 25 [.c (.slv (a0.map eI)), .c (.slv (a1.map eI))] H (.c (.slv (r.map eI))) := DCall.lift (by first | rfl | simp [List.map_take, List.map_drop, rvL, rvK, bwL, hfVs, hfV, hfL, hfAll, hfRows, mvV, mvL, mv0, sh0, mvO, mpE, mpV, mpVs, mpO, fzL, rnL, rn0, ok0, nzI, nzB, nzN, nzF, nzP, nzO, nzQ, nzC, shL, shV, shO, okV, okL, okO, List.take_of_length_le, h_I, hfRows_map h_I, ok_eI, okR_eI, fx_eI, fxR_eI, h_L_I, hfRows_map h_L_I, ok_eL_I, okR_eL_I, fx_eL_I, fxR_eL_I, -List.map_set]) (by first | rfl | simp [List.map_take, List.map_drop, rvL, rvK, bwL, hfVs, hfV, hfL, hfAll, hfRows, mvV, mvL, mv0, sh0, mvO, mpE, mpV, mpVs, mpO, fzL, rnL, rn0, ok0, nzI, nzB, nzN, nzF, nzP, nzO, nzQ, nzC, shL, shV, shO, okV, okL, okO, List.take_of_length_le, h_I, hfRows_map h_I, ok_eI, okR_eI, fx_eI, fxR_eI, h_L_I, hfRows_map h_L_I, ok_eL_I, okR_eL_I, fx_eL_I, fxR_eL_I, -List.map_set]) (fun _ => by simp [List.map_take, List.map_drop, rvL, rvK, bwL, hfVs, hfV, hfL, hfAll, hfRows, mvV, mvL, mv0, sh0, mvO, mpE, mpV, mpVs, mpO, fzL, rnL, rn0, ok0, nzI, nzB, nzN, nzF, nzP, nzO, nzQ, nzC, shL, shV, shO, okV, okL, okO, List.take_of_length_le, h_I, hfRows_map h_I, ok_eI, okR_eI, fx_eI, fxR_eI, h_L_I, hfRows_map h_L_I, ok_eL_I, okR_eL_I, fx_eL_I, fxR_eL_I, -List.map_set]) (w_set_Both N a0 a1 r h) H
-- narthex/narthexlaw01.awake
theorem w_narthexlaw01_awake (N : Nat) (r : Bool) (h : narthexlaw01_awake N = some r) : Nx.Call Try.prog 10 [] [] fun r' _ => r' = .c (B r) := by
  refine Nx.Call.of_body Try.func10 rfl en10 Try.ntmps10 rfl (fun Γ hok => ?_)
  unfold narthexlaw01_awake at h
  refine Wp.seq ?_
  refine Wp.text [] rfl rfl ?_ -- region 0
  refine TextR.assign rfl ?_
  refine TextR.done .nil ?_
  refine Wp.seq ?_
  obtain ⟨y1, hy1, h⟩ := bind_some h
  refine Wp.text [1] rfl rfl ?_ -- region 1
  refine TextR.buildSlice (rows := [3, 1, 3].map eI) 0 se22 rfl rfl rfl .nil ?_
  refine TextR.weak (keepW (F := ⟨Try.prog, 63, Γ⟩) (live := [2]) (.cons rfl .nil)) ?_
  refine TextR.weak (freezeW (F := ⟨Try.prog, 63, Γ⟩) (h := 0) (ver := 0) (rows := [3, 1, 3].map eI) (e' := [(2, .c (.slv ([3, 1, 3].map eI)))]) (H' := [.dead]) rfl (by first | rfl | simp [List.map_take, List.map_drop, rvL, rvK, bwL, hfVs, hfV, hfL, hfAll, hfRows, mvV, mvL, mv0, sh0, mvO, mpE, mpV, mpVs, mpO, fzL, rnL, rn0, ok0, nzI, nzB, nzN, nzF, nzP, nzO, nzQ, nzC, shL, shV, shO, okV, okL, okO, List.take_of_length_le, h_I, hfRows_map h_I, ok_eI, okR_eI, fx_eI, fxR_eI, h_L_I, hfRows_map h_L_I, ok_eL_I, okR_eL_I, fx_eL_I, fxR_eL_I, -List.map_set]) (by first | rfl | simp [List.map_take, List.map_drop, rvL, rvK, bwL, hfVs, hfV, hfL, hfAll, hfRows, mvV, mvL, mv0, sh0, mvO, mpE, mpV, mpVs, mpO, fzL, rnL, rn0, ok0, nzI, nzB, nzN, nzF, nzP, nzO, nzQ, nzC, shL, shV, shO, okV, okL, okO, List.take_of_length_le, h_I, hfRows_map h_I, ok_eI, okR_eI, fx_eI, fxR_eI, h_L_I, hfRows_map h_L_I, ok_eL_I, okR_eL_I, fx_eL_I, fxR_eL_I, -List.map_set])) ?_
  refine TextR.dcall rfl rfl (c_set_Of N [3, 1, 3] y1 hy1 _) ?_
  refine TextR.assign rfl ?_
  refine TextR.done (.cons rfl .nil) ?_
  refine Wp.seq ?_
  refine Wp.text [0] rfl rfl ?_ -- region 2 SPLIT
  refine TextR.move rfl ?_
  refine TextR.buildSlice (rows := [1, 3].map eI) 1 se22 rfl rfl rfl (.cons .nil) ?_
  obtain ⟨y2, hy2, h⟩ := bind_some h
  refine TextR.dcall rfl rfl (DCall.borrow (fs := [.c (.slv (y1.map eI)), .c (.slv ([1, 3].map eI))]) (by simp [List.map_take, List.map_drop, rvL, rvK, bwL, hfVs, hfV, hfL, hfAll, hfRows, mvV, mvL, mv0, sh0, mvO, mpE, mpV, mpVs, mpO, fzL, rnL, rn0, ok0, nzI, nzB, nzN, nzF, nzP, nzO, nzQ, nzC, shL, shV, shO, okV, okL, okO, List.take_of_length_le, h_I, hfRows_map h_I, ok_eI, okR_eI, fx_eI, fxR_eI, h_L_I, hfRows_map h_L_I, ok_eL_I, okR_eL_I, fx_eL_I, fxR_eL_I, -List.map_set, obj, List.take_of_length_le]) (by first | rfl | simp [List.map_take, List.map_drop, rvL, rvK, bwL, hfVs, hfV, hfL, hfAll, hfRows, mvV, mvL, mv0, sh0, mvO, mpE, mpV, mpVs, mpO, fzL, rnL, rn0, ok0, nzI, nzB, nzN, nzF, nzP, nzO, nzQ, nzC, shL, shV, shO, okV, okL, okO, List.take_of_length_le, h_I, hfRows_map h_I, ok_eI, okR_eI, fx_eI, fxR_eI, h_L_I, hfRows_map h_L_I, ok_eL_I, okR_eL_I, fx_eL_I, fxR_eL_I, -List.map_set]) rfl (w_narthexref01_Same N y1 [1, 3] y2 hy2)) ?_
  refine TextR.move rfl ?_
  refine TextR.byBool 7 rfl (fun hv => ?_) (fun hv => ?_)
  · rw [if_pos (by simpa using hv)] at h
    refine TextR.gmove rfl rfl ?_
    obtain ⟨y3, hy3, h⟩ := bind_some h
    refine TextR.dcallG rfl rfl rfl (c_set_Add N y1 2 y3 hy3 _) ?_
    refine TextR.gbuildSlice rfl (rows := [1, 2, 3].map eI) 2 se22 rfl rfl rfl (.cons (.cons .nil)) ?_
    obtain ⟨y4, hy4, h⟩ := bind_some h
    refine TextR.dcallG rfl rfl rfl (DCall.borrow (fs := [.c (.slv (y3.map eI)), .c (.slv ([1, 2, 3].map eI))]) (by simp [List.map_take, List.map_drop, rvL, rvK, bwL, hfVs, hfV, hfL, hfAll, hfRows, mvV, mvL, mv0, sh0, mvO, mpE, mpV, mpVs, mpO, fzL, rnL, rn0, ok0, nzI, nzB, nzN, nzF, nzP, nzO, nzQ, nzC, shL, shV, shO, okV, okL, okO, List.take_of_length_le, h_I, hfRows_map h_I, ok_eI, okR_eI, fx_eI, fxR_eI, h_L_I, hfRows_map h_L_I, ok_eL_I, okR_eL_I, fx_eL_I, fxR_eL_I, -List.map_set, obj, List.take_of_length_le]) (by first | rfl | simp [List.map_take, List.map_drop, rvL, rvK, bwL, hfVs, hfV, hfL, hfAll, hfRows, mvV, mvL, mv0, sh0, mvO, mpE, mpV, mpVs, mpO, fzL, rnL, rn0, ok0, nzI, nzB, nzN, nzF, nzP, nzO, nzQ, nzC, shL, shV, shO, okV, okL, okO, List.take_of_length_le, h_I, hfRows_map h_I, ok_eI, okR_eI, fx_eI, fxR_eI, h_L_I, hfRows_map h_L_I, ok_eL_I, okR_eL_I, fx_eL_I, fxR_eL_I, -List.map_set]) rfl (w_narthexref01_Same N y3 [1, 2, 3] y4 hy4)) ?_
    refine TextR.pickAnd rfl rfl ?_
    refine TextR.move rfl ?_
    refine TextR.byBool 13 rfl (fun hv => ?_) (fun hv => ?_)
    · rw [if_pos (by simpa using hv)] at h
      refine TextR.gmove rfl rfl ?_
      obtain ⟨y5, hy5, h⟩ := bind_some h
      refine TextR.dcallG rfl rfl rfl (c_set_Del N y1 1 y5 hy5 _) ?_
      refine TextR.gbuildSlice rfl (rows := [3].map eI) 3 se22 rfl rfl rfl (.cons (.cons (.cons .nil))) ?_
      obtain ⟨y6, hy6, h⟩ := bind_some h
      refine TextR.dcallG rfl rfl rfl (DCall.borrow (fs := [.c (.slv (y5.map eI)), .c (.slv ([3].map eI))]) (by simp [List.map_take, List.map_drop, rvL, rvK, bwL, hfVs, hfV, hfL, hfAll, hfRows, mvV, mvL, mv0, sh0, mvO, mpE, mpV, mpVs, mpO, fzL, rnL, rn0, ok0, nzI, nzB, nzN, nzF, nzP, nzO, nzQ, nzC, shL, shV, shO, okV, okL, okO, List.take_of_length_le, h_I, hfRows_map h_I, ok_eI, okR_eI, fx_eI, fxR_eI, h_L_I, hfRows_map h_L_I, ok_eL_I, okR_eL_I, fx_eL_I, fxR_eL_I, -List.map_set, obj, List.take_of_length_le]) (by first | rfl | simp [List.map_take, List.map_drop, rvL, rvK, bwL, hfVs, hfV, hfL, hfAll, hfRows, mvV, mvL, mv0, sh0, mvO, mpE, mpV, mpVs, mpO, fzL, rnL, rn0, ok0, nzI, nzB, nzN, nzF, nzP, nzO, nzQ, nzC, shL, shV, shO, okV, okL, okO, List.take_of_length_le, h_I, hfRows_map h_I, ok_eI, okR_eI, fx_eI, fxR_eI, h_L_I, hfRows_map h_L_I, ok_eL_I, okR_eL_I, fx_eL_I, fxR_eL_I, -List.map_set]) rfl (w_narthexref01_Same N y5 [3] y6 hy6)) ?_
      refine TextR.pickAnd rfl rfl ?_
      refine TextR.move rfl ?_
      refine TextR.byBool 19 rfl (fun hv => ?_) (fun hv => ?_)
      · rw [if_pos (by simpa using hv)] at h
        refine TextR.gmove rfl rfl ?_
        obtain ⟨y7, hy7, h⟩ := bind_some h
        refine TextR.dcallG rfl rfl rfl (c_set_Valid N y1 y7 hy7 _) ?_
        refine TextR.pickAnd rfl rfl ?_
        refine TextR.move rfl ?_
        refine TextR.byBool 23 rfl (fun hv => ?_) (fun hv => ?_)
        · rw [if_pos (by simpa using hv)] at h
          refine TextR.gbuildSlice rfl (rows := [1, 1].map eI) 4 se22 rfl rfl rfl (.cons (.cons (.cons (.cons .nil)))) ?_
          obtain ⟨y8, hy8, h⟩ := bind_some h
          refine TextR.dcallG rfl rfl rfl (DCall.borrow (fs := [.c (.slv ([1, 1].map eI))]) (by simp [List.map_take, List.map_drop, rvL, rvK, bwL, hfVs, hfV, hfL, hfAll, hfRows, mvV, mvL, mv0, sh0, mvO, mpE, mpV, mpVs, mpO, fzL, rnL, rn0, ok0, nzI, nzB, nzN, nzF, nzP, nzO, nzQ, nzC, shL, shV, shO, okV, okL, okO, List.take_of_length_le, h_I, hfRows_map h_I, ok_eI, okR_eI, fx_eI, fxR_eI, h_L_I, hfRows_map h_L_I, ok_eL_I, okR_eL_I, fx_eL_I, fxR_eL_I, -List.map_set, obj, List.take_of_length_le]) (by first | rfl | simp [List.map_take, List.map_drop, rvL, rvK, bwL, hfVs, hfV, hfL, hfAll, hfRows, mvV, mvL, mv0, sh0, mvO, mpE, mpV, mpVs, mpO, fzL, rnL, rn0, ok0, nzI, nzB, nzN, nzF, nzP, nzO, nzQ, nzC, shL, shV, shO, okV, okL, okO, List.take_of_length_le, h_I, hfRows_map h_I, ok_eI, okR_eI, fx_eI, fxR_eI, h_L_I, hfRows_map h_L_I, ok_eL_I, okR_eL_I, fx_eL_I, fxR_eL_I, -List.map_set]) rfl (w_set_Valid N [1, 1] y8 hy8)) ?_
          refine TextR.gnot rfl rfl ?_
          refine TextR.pickAnd rfl rfl ?_
          refine TextR.move rfl ?_
          refine TextR.byBool 28 rfl (fun hv => ?_) (fun hv => ?_)
          · rw [if_pos (by simpa using hv)] at h
            refine TextR.gmove rfl rfl ?_
            obtain ⟨y9, hy9, h⟩ := bind_some h
            refine TextR.dcallG rfl rfl rfl (c_set_Has N y1 3 y9 hy9 _) ?_
            refine TextR.pickAnd rfl rfl ?_
            refine TextR.move rfl ?_
            refine TextR.byBool 32 rfl (fun hv => ?_) (fun hv => ?_)
            · rw [if_pos (by simpa using hv)] at h
              refine TextR.gmove rfl rfl ?_
              obtain ⟨y10, hy10, h⟩ := bind_some h
              refine TextR.dcallG rfl rfl rfl (c_set_Place N y1 3 y10 hy10 _) ?_
              refine TextR.gint rfl rfl rfl rfl ?_
              refine TextR.pickAnd rfl rfl ?_
              refine TextR.move rfl ?_
              refine TextR.byBool 37 rfl (fun hv => ?_) (fun hv => ?_)
              · rw [if_pos (by simpa using hv)] at h
                refine TextR.gmove rfl rfl ?_
                refine TextR.gbuildSlice rfl (rows := [3, 1].map eI) 5 se22 rfl rfl rfl (.cons (.cons (.cons (.cons (.cons .nil))))) ?_
                obtain ⟨y11, hy11, h⟩ := bind_some h
                refine TextR.dcallG rfl rfl rfl (DCall.borrow (fs := [.c (.slv (y1.map eI)), .c (.slv ([3, 1].map eI))]) (by simp [List.map_take, List.map_drop, rvL, rvK, bwL, hfVs, hfV, hfL, hfAll, hfRows, mvV, mvL, mv0, sh0, mvO, mpE, mpV, mpVs, mpO, fzL, rnL, rn0, ok0, nzI, nzB, nzN, nzF, nzP, nzO, nzQ, nzC, shL, shV, shO, okV, okL, okO, List.take_of_length_le, h_I, hfRows_map h_I, ok_eI, okR_eI, fx_eI, fxR_eI, h_L_I, hfRows_map h_L_I, ok_eL_I, okR_eL_I, fx_eL_I, fxR_eL_I, -List.map_set, obj, List.take_of_length_le]) (by first | rfl | simp [List.map_take, List.map_drop, rvL, rvK, bwL, hfVs, hfV, hfL, hfAll, hfRows, mvV, mvL, mv0, sh0, mvO, mpE, mpV, mpVs, mpO, fzL, rnL, rn0, ok0, nzI, nzB, nzN, nzF, nzP, nzO, nzQ, nzC, shL, shV, shO, okV, okL, okO, List.take_of_length_le, h_I, hfRows_map h_I, ok_eI, okR_eI, fx_eI, fxR_eI, h_L_I, hfRows_map h_L_I, ok_eL_I, okR_eL_I, fx_eL_I, fxR_eL_I, -List.map_set]) rfl (w_set_Within N y1 [3, 1] y11 hy11)) ?_
                refine TextR.pickAnd rfl rfl ?_
                refine TextR.move rfl ?_
                refine TextR.byBool 42 rfl (fun hv => ?_) (fun hv => ?_)
                · rw [if_pos (by simpa using hv)] at h
                  refine TextR.gmove rfl rfl ?_
                  refine TextR.gmove rfl rfl ?_
                  obtain ⟨y12, hy12, h⟩ := bind_some h
                  refine TextR.dcallG rfl rfl rfl (c_set_Union N y1 y1 y12 hy12 _) ?_
                  refine TextR.glenM rfl us22 rfl rfl ?_
                  refine TextR.gint rfl rfl rfl rfl ?_
                  refine TextR.pickAnd rfl rfl ?_
                  refine TextR.move rfl ?_
                  refine TextR.byBool 49 rfl (fun hv => ?_) (fun hv => ?_)
                  · rw [if_pos (by simpa using hv)] at h
                    refine TextR.gmove rfl rfl ?_
                    refine TextR.gbuildSlice rfl (rows := [3].map eI) 6 se22 rfl rfl rfl (.cons (.cons (.cons (.cons (.cons (.cons .nil)))))) ?_
                    refine TextR.weak (keepW (F := ⟨Try.prog, 63, Γ⟩) (live := [1, 4, 5, 6, 7, 8, 9, 10, 11, 12, 13, 14, 15, 16, 17, 18, 19, 20, 21, 22, 23, 24, 25, 26, 27, 28, 29, 30, 31, 32, 33, 34, 35, 36, 37, 38, 39, 40, 41, 42, 43, 44, 45, 46, 47, 48, 49, 50, 51]) (.cons rfl (.cons rfl (.cons rfl (.cons rfl (.cons rfl (.cons rfl (.cons rfl (.cons rfl (.cons rfl (.cons rfl (.cons rfl (.cons rfl (.cons rfl (.cons rfl (.cons rfl (.cons rfl (.cons rfl (.cons rfl (.cons rfl (.cons rfl (.cons rfl (.cons rfl (.cons rfl (.cons rfl (.cons rfl (.cons rfl (.cons rfl (.cons rfl (.cons rfl (.cons rfl (.cons rfl (.cons rfl (.cons rfl (.cons rfl (.cons rfl (.cons rfl (.cons rfl (.cons rfl (.cons rfl (.cons rfl (.cons rfl (.cons rfl (.cons rfl (.cons rfl (.cons rfl (.cons rfl (.cons rfl (.cons rfl (.cons rfl .nil)))))))))))))))))))))))))))))))))))))))))))))))))) ?_
                    refine TextR.weak (freezeW (F := ⟨Try.prog, 63, Γ⟩) (h := 6) (ver := 0) (rows := [3].map eI) (e' := [(1, .c (.slv (y1.map eI))), (4, .c (.slv (y1.map eI))), (5, .c (.sl 1 0 0 [1, 3].length)), (6, .c (B y2)), (7, .c (B true)), (8, .c (.slv (y1.map eI))), (9, .c (.slv (y3.map eI))), (10, .c (.sl 2 0 0 [1, 2, 3].length)), (11, .c (B y4)), (12, .c (B y4)), (13, .c (B true)), (14, .c (.slv (y1.map eI))), (15, .c (.slv (y5.map eI))), (16, .c (.sl 3 0 0 [3].length)), (17, .c (B y6)), (18, .c (B y6)), (19, .c (B true)), (20, .c (.slv (y1.map eI))), (21, .c (B y7)), (22, .c (B y7)), (23, .c (B true)), (24, .c (.sl 4 0 0 [1, 1].length)), (25, .c (B y8)), (26, .c (B (!y8))), (27, .c (B (!y8))), (28, .c (B true)), (29, .c (.slv (y1.map eI))), (30, .c (B y9)), (31, .c (B y9)), (32, .c (B true)), (33, .c (.slv (y1.map eI))), (34, .c (I y10)), (35, .c (B (y10 == 1))), (36, .c (B (y10 == 1))), (37, .c (B true)), (38, .c (.slv (y1.map eI))), (39, .c (.sl 5 0 0 [3, 1].length)), (40, .c (B y11)), (41, .c (B y11)), (42, .c (B true)), (43, .c (.slv (y1.map eI))), (44, .c (.slv (y1.map eI))), (45, .c (.slv (y12.map eI))), (46, .c (I (y12.length : Int))), (47, .c (B ((y12.length : Int) == 2))), (48, .c (B ((y12.length : Int) == 2))), (49, .c (B true)), (50, .c (.slv (y1.map eI))), (51, .c (.slv ([3].map eI)))]) (H' := [.dead, .live 0 1 ([1, 3].map eI), .live 0 1 ([1, 2, 3].map eI), .live 0 1 ([3].map eI), .live 0 1 ([1, 1].map eI), .live 0 1 ([3, 1].map eI), .dead]) rfl (by first | rfl | simp [List.map_take, List.map_drop, rvL, rvK, bwL, hfVs, hfV, hfL, hfAll, hfRows, mvV, mvL, mv0, sh0, mvO, mpE, mpV, mpVs, mpO, fzL, rnL, rn0, ok0, nzI, nzB, nzN, nzF, nzP, nzO, nzQ, nzC, shL, shV, shO, okV, okL, okO, List.take_of_length_le, h_I, hfRows_map h_I, ok_eI, okR_eI, fx_eI, fxR_eI, h_L_I, hfRows_map h_L_I, ok_eL_I, okR_eL_I, fx_eL_I, fxR_eL_I, -List.map_set]) (by first | rfl | simp [List.map_take, List.map_drop, rvL, rvK, bwL, hfVs, hfV, hfL, hfAll, hfRows, mvV, mvL, mv0, sh0, mvO, mpE, mpV, mpVs, mpO, fzL, rnL, rn0, ok0, nzI, nzB, nzN, nzF, nzP, nzO, nzQ, nzC, shL, shV, shO, okV, okL, okO, List.take_of_length_le, h_I, hfRows_map h_I, ok_eI, okR_eI, fx_eI, fxR_eI, h_L_I, hfRows_map h_L_I, ok_eL_I, okR_eL_I, fx_eL_I, fxR_eL_I, -List.map_set])) ?_
                    obtain ⟨y13, hy13, h⟩ := bind_some h
                    refine TextR.dcallG rfl rfl rfl (c_set_Both N y1 [3] y13 hy13 _) ?_
                    refine TextR.glenM rfl us22 rfl rfl ?_
                    refine TextR.gint rfl rfl rfl rfl ?_
                    refine TextR.pickAnd rfl rfl ?_
                    refine TextR.move rfl ?_
                    refine TextR.byBool 56 rfl (fun hv => ?_) (fun hv => ?_)
                    · rw [if_pos (by simpa using hv)] at h
                      refine TextR.gmove rfl rfl ?_
                      refine TextR.gbuildSlice rfl (rows := [3].map eI) 7 se22 rfl rfl rfl (.cons (.cons (.cons (.cons (.cons (.cons (.cons .nil))))))) ?_
                      refine TextR.weak (keepW (F := ⟨Try.prog, 63, Γ⟩) (live := [1, 4, 5, 6, 7, 8, 9, 10, 11, 12, 13, 14, 15, 16, 17, 18, 19, 20, 21, 22, 23, 24, 25, 26, 27, 28, 29, 30, 31, 32, 33, 34, 35, 36, 37, 38, 39, 40, 41, 42, 43, 44, 45, 46, 47, 48, 49, 50, 51, 52, 53, 54, 55, 56, 57, 58]) (.cons rfl (.cons rfl (.cons rfl (.cons rfl (.cons rfl (.cons rfl (.cons rfl (.cons rfl (.cons rfl (.cons rfl (.cons rfl (.cons rfl (.cons rfl (.cons rfl (.cons rfl (.cons rfl (.cons rfl (.cons rfl (.cons rfl (.cons rfl (.cons rfl (.cons rfl (.cons rfl (.cons rfl (.cons rfl (.cons rfl (.cons rfl (.cons rfl (.cons rfl (.cons rfl (.cons rfl (.cons rfl (.cons rfl (.cons rfl (.cons rfl (.cons rfl (.cons rfl (.cons rfl (.cons rfl (.cons rfl (.cons rfl (.cons rfl (.cons rfl (.cons rfl (.cons rfl (.cons rfl (.cons rfl (.cons rfl (.cons rfl (.cons rfl (.cons rfl (.cons rfl (.cons rfl (.cons rfl (.cons rfl (.cons rfl .nil))))))))))))))))))))))))))))))))))))))))))))))))))))))))) ?_
                      refine TextR.weak (freezeW (F := ⟨Try.prog, 63, Γ⟩) (h := 7) (ver := 0) (rows := [3].map eI) (e' := [(1, .c (.slv (y1.map eI))), (4, .c (.slv (y1.map eI))), (5, .c (.sl 1 0 0 [1, 3].length)), (6, .c (B y2)), (7, .c (B true)), (8, .c (.slv (y1.map eI))), (9, .c (.slv (y3.map eI))), (10, .c (.sl 2 0 0 [1, 2, 3].length)), (11, .c (B y4)), (12, .c (B y4)), (13, .c (B true)), (14, .c (.slv (y1.map eI))), (15, .c (.slv (y5.map eI))), (16, .c (.sl 3 0 0 [3].length)), (17, .c (B y6)), (18, .c (B y6)), (19, .c (B true)), (20, .c (.slv (y1.map eI))), (21, .c (B y7)), (22, .c (B y7)), (23, .c (B true)), (24, .c (.sl 4 0 0 [1, 1].length)), (25, .c (B y8)), (26, .c (B (!y8))), (27, .c (B (!y8))), (28, .c (B true)), (29, .c (.slv (y1.map eI))), (30, .c (B y9)), (31, .c (B y9)), (32, .c (B true)), (33, .c (.slv (y1.map eI))), (34, .c (I y10)), (35, .c (B (y10 == 1))), (36, .c (B (y10 == 1))), (37, .c (B true)), (38, .c (.slv (y1.map eI))), (39, .c (.sl 5 0 0 [3, 1].length)), (40, .c (B y11)), (41, .c (B y11)), (42, .c (B true)), (43, .c (.slv (y1.map eI))), (44, .c (.slv (y1.map eI))), (45, .c (.slv (y12.map eI))), (46, .c (I (y12.length : Int))), (47, .c (B ((y12.length : Int) == 2))), (48, .c (B ((y12.length : Int) == 2))), (49, .c (B true)), (50, .c (.slv (y1.map eI))), (51, .c (.slv ([3].map eI))), (52, .c (.slv (y13.map eI))), (53, .c (I (y13.length : Int))), (54, .c (B ((y13.length : Int) == 1))), (55, .c (B ((y13.length : Int) == 1))), (56, .c (B true)), (57, .c (.slv (y1.map eI))), (58, .c (.slv ([3].map eI)))]) (H' := [.dead, .live 0 1 ([1, 3].map eI), .live 0 1 ([1, 2, 3].map eI), .live 0 1 ([3].map eI), .live 0 1 ([1, 1].map eI), .live 0 1 ([3, 1].map eI), .dead, .dead]) rfl (by first | rfl | simp [List.map_take, List.map_drop, rvL, rvK, bwL, hfVs, hfV, hfL, hfAll, hfRows, mvV, mvL, mv0, sh0, mvO, mpE, mpV, mpVs, mpO, fzL, rnL, rn0, ok0, nzI, nzB, nzN, nzF, nzP, nzO, nzQ, nzC, shL, shV, shO, okV, okL, okO, List.take_of_length_le, h_I, hfRows_map h_I, ok_eI, okR_eI, fx_eI, fxR_eI, h_L_I, hfRows_map h_L_I, ok_eL_I, okR_eL_I, fx_eL_I, fxR_eL_I, -List.map_set]) (by first | rfl | simp [List.map_take, List.map_drop, rvL, rvK, bwL, hfVs, hfV, hfL, hfAll, hfRows, mvV, mvL, mv0, sh0, mvO, mpE, mpV, mpVs, mpO, fzL, rnL, rn0, ok0, nzI, nzB, nzN, nzF, nzP, nzO, nzQ, nzC, shL, shV, shO, okV, okL, okO, List.take_of_length_le, h_I, hfRows_map h_I, ok_eI, okR_eI, fx_eI, fxR_eI, h_L_I, hfRows_map h_L_I, ok_eL_I, okR_eL_I, fx_eL_I, fxR_eL_I, -List.map_set])) ?_
                      obtain ⟨y14, hy14, h⟩ := bind_some h
                      refine TextR.dcallG rfl rfl rfl (c_set_Minus N y1 [3] y14 hy14 _) ?_
                      refine TextR.glenM rfl us22 rfl rfl ?_
                      refine TextR.gint rfl rfl rfl rfl ?_
                      refine TextR.pickAnd rfl rfl ?_
                      refine TextR.assign rfl ?_
                      refine TextR.done (.cons rfl .nil) ?_
                      refine Wp.ret ?_
                      obtain rfl := Option.some.inj h
                      exact Ret.one rfl (resV_tmp rfl) rfl
                    · rw [if_neg (by simpa using hv)] at h
                      refine TextR.off rfl ?_
                      refine TextR.off rfl ?_
                      refine TextR.off rfl ?_
                      refine TextR.off rfl ?_
                      refine TextR.off rfl ?_
                      refine TextR.pickAnd0 rfl rfl ?_
                      refine TextR.assign rfl ?_
                      refine TextR.done (.cons rfl .nil) ?_
                      refine Wp.ret ?_
                      obtain rfl := Option.some.inj h
                      exact Ret.one rfl (resV_tmp rfl) rfl
                  · rw [if_neg (by simpa using hv)] at h
                    refine TextR.off rfl ?_
                    refine TextR.off rfl ?_
                    refine TextR.off rfl ?_
                    refine TextR.off rfl ?_
                    refine TextR.off rfl ?_
                    refine TextR.pickAnd0 rfl rfl ?_
                    refine TextR.move rfl ?_
                    refine TextR.off rfl ?_
                    refine TextR.off rfl ?_
                    refine TextR.off rfl ?_
                    refine TextR.off rfl ?_
                    refine TextR.off rfl ?_
                    refine TextR.pickAnd0 rfl rfl ?_
                    refine TextR.assign rfl ?_
                    refine TextR.done (.cons rfl .nil) ?_
                    refine Wp.ret ?_
                    obtain rfl := Option.some.inj h
                    exact Ret.one rfl (resV_tmp rfl) rfl
                · rw [if_neg (by simpa using hv)] at h
                  refine TextR.off rfl ?_
                  refine TextR.off rfl ?_
                  refine TextR.off rfl ?_
                  refine TextR.off rfl ?_
                  refine TextR.off rfl ?_
                  refine TextR.pickAnd0 rfl rfl ?_
                  refine TextR.move rfl ?_
                  refine TextR.off rfl ?_
                  refine TextR.off rfl ?_
                  refine TextR.off rfl ?_
                  refine TextR.off rfl ?_
                  refine TextR.off rfl ?_
                  refine TextR.pickAnd0 rfl rfl ?_
                  refine TextR.move rfl ?_
                  refine TextR.off rfl ?_
                  refine TextR.off rfl ?_
                  refine TextR.off rfl ?_
                  refine TextR.off rfl ?_
                  refine TextR.off rfl ?_
                  refine TextR.pickAnd0 rfl rfl ?_
                  refine TextR.assign rfl ?_
                  refine TextR.done (.cons rfl .nil) ?_
                  refine Wp.ret ?_
                  obtain rfl := Option.some.inj h
                  exact Ret.one rfl (resV_tmp rfl) rfl
              · rw [if_neg (by simpa using hv)] at h
                refine TextR.off rfl ?_
                refine TextR.off rfl ?_
                refine TextR.off rfl ?_
                refine TextR.pickAnd0 rfl rfl ?_
                refine TextR.move rfl ?_
                refine TextR.off rfl ?_
                refine TextR.off rfl ?_
                refine TextR.off rfl ?_
                refine TextR.off rfl ?_
                refine TextR.off rfl ?_
                refine TextR.pickAnd0 rfl rfl ?_
                refine TextR.move rfl ?_
                refine TextR.off rfl ?_
                refine TextR.off rfl ?_
                refine TextR.off rfl ?_
                refine TextR.off rfl ?_
                refine TextR.off rfl ?_
                refine TextR.pickAnd0 rfl rfl ?_
                refine TextR.move rfl ?_
                refine TextR.off rfl ?_
                refine TextR.off rfl ?_
                refine TextR.off rfl ?_
                refine TextR.off rfl ?_
                refine TextR.off rfl ?_
                refine TextR.pickAnd0 rfl rfl ?_
                refine TextR.assign rfl ?_
                refine TextR.done (.cons rfl .nil) ?_
                refine Wp.ret ?_
                obtain rfl := Option.some.inj h
                exact Ret.one rfl (resV_tmp rfl) rfl
            · rw [if_neg (by simpa using hv)] at h
              refine TextR.off rfl ?_
              refine TextR.off rfl ?_
              refine TextR.off rfl ?_
              refine TextR.pickAnd0 rfl rfl ?_
              refine TextR.move rfl ?_
              refine TextR.off rfl ?_
              refine TextR.off rfl ?_
              refine TextR.off rfl ?_
              refine TextR.pickAnd0 rfl rfl ?_
              refine TextR.move rfl ?_
              refine TextR.off rfl ?_
              refine TextR.off rfl ?_
              refine TextR.off rfl ?_
              refine TextR.off rfl ?_
              refine TextR.off rfl ?_
              refine TextR.pickAnd0 rfl rfl ?_
              refine TextR.move rfl ?_
              refine TextR.off rfl ?_
              refine TextR.off rfl ?_
              refine TextR.off rfl ?_
              refine TextR.off rfl ?_
              refine TextR.off rfl ?_
              refine TextR.pickAnd0 rfl rfl ?_
              refine TextR.move rfl ?_
              refine TextR.off rfl ?_
              refine TextR.off rfl ?_
              refine TextR.off rfl ?_
              refine TextR.off rfl ?_
              refine TextR.off rfl ?_
              refine TextR.pickAnd0 rfl rfl ?_
              refine TextR.assign rfl ?_
              refine TextR.done (.cons rfl .nil) ?_
              refine Wp.ret ?_
              obtain rfl := Option.some.inj h
              exact Ret.one rfl (resV_tmp rfl) rfl
          · rw [if_neg (by simpa using hv)] at h
            refine TextR.off rfl ?_
            refine TextR.off rfl ?_
            refine TextR.pickAnd0 rfl rfl ?_
            refine TextR.move rfl ?_
            refine TextR.off rfl ?_
            refine TextR.off rfl ?_
            refine TextR.off rfl ?_
            refine TextR.pickAnd0 rfl rfl ?_
            refine TextR.move rfl ?_
            refine TextR.off rfl ?_
            refine TextR.off rfl ?_
            refine TextR.off rfl ?_
            refine TextR.pickAnd0 rfl rfl ?_
            refine TextR.move rfl ?_
            refine TextR.off rfl ?_
            refine TextR.off rfl ?_
            refine TextR.off rfl ?_
            refine TextR.off rfl ?_
            refine TextR.off rfl ?_
            refine TextR.pickAnd0 rfl rfl ?_
            refine TextR.move rfl ?_
            refine TextR.off rfl ?_
            refine TextR.off rfl ?_
            refine TextR.off rfl ?_
            refine TextR.off rfl ?_
            refine TextR.off rfl ?_
            refine TextR.pickAnd0 rfl rfl ?_
            refine TextR.move rfl ?_
            refine TextR.off rfl ?_
            refine TextR.off rfl ?_
            refine TextR.off rfl ?_
            refine TextR.off rfl ?_
            refine TextR.off rfl ?_
            refine TextR.pickAnd0 rfl rfl ?_
            refine TextR.assign rfl ?_
            refine TextR.done (.cons rfl .nil) ?_
            refine Wp.ret ?_
            obtain rfl := Option.some.inj h
            exact Ret.one rfl (resV_tmp rfl) rfl
        · rw [if_neg (by simpa using hv)] at h
          refine TextR.off rfl ?_
          refine TextR.off rfl ?_
          refine TextR.off rfl ?_
          refine TextR.pickAnd0 rfl rfl ?_
          refine TextR.move rfl ?_
          refine TextR.off rfl ?_
          refine TextR.off rfl ?_
          refine TextR.pickAnd0 rfl rfl ?_
          refine TextR.move rfl ?_
          refine TextR.off rfl ?_
          refine TextR.off rfl ?_
          refine TextR.off rfl ?_
          refine TextR.pickAnd0 rfl rfl ?_
          refine TextR.move rfl ?_
          refine TextR.off rfl ?_
          refine TextR.off rfl ?_
          refine TextR.off rfl ?_
          refine TextR.pickAnd0 rfl rfl ?_
          refine TextR.move rfl ?_
          refine TextR.off rfl ?_
          refine TextR.off rfl ?_
          refine TextR.off rfl ?_
          refine TextR.off rfl ?_
          refine TextR.off rfl ?_
          refine TextR.pickAnd0 rfl rfl ?_
          refine TextR.move rfl ?_
          refine TextR.off rfl ?_
          refine TextR.off rfl ?_
          refine TextR.off rfl ?_
          refine TextR.off rfl ?_
          refine TextR.off rfl ?_
          refine TextR.pickAnd0 rfl rfl ?_
          refine TextR.move rfl ?_
          refine TextR.off rfl ?_
          refine TextR.off rfl ?_
          refine TextR.off rfl ?_
          refine TextR.off rfl ?_
          refine TextR.off rfl ?_
          refine TextR.pickAnd0 rfl rfl ?_
          refine TextR.assign rfl ?_
          refine TextR.done (.cons rfl .nil) ?_
          refine Wp.ret ?_
          obtain rfl := Option.some.inj h
          exact Ret.one rfl (resV_tmp rfl) rfl
      · rw [if_neg (by simpa using hv)] at h
        refine TextR.off rfl ?_
        refine TextR.off rfl ?_
        refine TextR.pickAnd0 rfl rfl ?_
        refine TextR.move rfl ?_
        refine TextR.off rfl ?_
        refine TextR.off rfl ?_
        refine TextR.off rfl ?_
        refine TextR.pickAnd0 rfl rfl ?_
        refine TextR.move rfl ?_
        refine TextR.off rfl ?_
        refine TextR.off rfl ?_
        refine TextR.pickAnd0 rfl rfl ?_
        refine TextR.move rfl ?_
        refine TextR.off rfl ?_
        refine TextR.off rfl ?_
        refine TextR.off rfl ?_
        refine TextR.pickAnd0 rfl rfl ?_
        refine TextR.move rfl ?_
        refine TextR.off rfl ?_
        refine TextR.off rfl ?_
        refine TextR.off rfl ?_
        refine TextR.pickAnd0 rfl rfl ?_
        refine TextR.move rfl ?_
        refine TextR.off rfl ?_
        refine TextR.off rfl ?_
        refine TextR.off rfl ?_
        refine TextR.off rfl ?_
        refine TextR.off rfl ?_
        refine TextR.pickAnd0 rfl rfl ?_
        refine TextR.move rfl ?_
        refine TextR.off rfl ?_
        refine TextR.off rfl ?_
        refine TextR.off rfl ?_
        refine TextR.off rfl ?_
        refine TextR.off rfl ?_
        refine TextR.pickAnd0 rfl rfl ?_
        refine TextR.move rfl ?_
        refine TextR.off rfl ?_
        refine TextR.off rfl ?_
        refine TextR.off rfl ?_
        refine TextR.off rfl ?_
        refine TextR.off rfl ?_
        refine TextR.pickAnd0 rfl rfl ?_
        refine TextR.assign rfl ?_
        refine TextR.done (.cons rfl .nil) ?_
        refine Wp.ret ?_
        obtain rfl := Option.some.inj h
        exact Ret.one rfl (resV_tmp rfl) rfl
    · rw [if_neg (by simpa using hv)] at h
      refine TextR.off rfl ?_
      refine TextR.off rfl ?_
      refine TextR.off rfl ?_
      refine TextR.off rfl ?_
      refine TextR.pickAnd0 rfl rfl ?_
      refine TextR.move rfl ?_
      refine TextR.off rfl ?_
      refine TextR.off rfl ?_
      refine TextR.pickAnd0 rfl rfl ?_
      refine TextR.move rfl ?_
      refine TextR.off rfl ?_
      refine TextR.off rfl ?_
      refine TextR.off rfl ?_
      refine TextR.pickAnd0 rfl rfl ?_
      refine TextR.move rfl ?_
      refine TextR.off rfl ?_
      refine TextR.off rfl ?_
      refine TextR.pickAnd0 rfl rfl ?_
      refine TextR.move rfl ?_
      refine TextR.off rfl ?_
      refine TextR.off rfl ?_
      refine TextR.off rfl ?_
      refine TextR.pickAnd0 rfl rfl ?_
      refine TextR.move rfl ?_
      refine TextR.off rfl ?_
      refine TextR.off rfl ?_
      refine TextR.off rfl ?_
      refine TextR.pickAnd0 rfl rfl ?_
      refine TextR.move rfl ?_
      refine TextR.off rfl ?_
      refine TextR.off rfl ?_
      refine TextR.off rfl ?_
      refine TextR.off rfl ?_
      refine TextR.off rfl ?_
      refine TextR.pickAnd0 rfl rfl ?_
      refine TextR.move rfl ?_
      refine TextR.off rfl ?_
      refine TextR.off rfl ?_
      refine TextR.off rfl ?_
      refine TextR.off rfl ?_
      refine TextR.off rfl ?_
      refine TextR.pickAnd0 rfl rfl ?_
      refine TextR.move rfl ?_
      refine TextR.off rfl ?_
      refine TextR.off rfl ?_
      refine TextR.off rfl ?_
      refine TextR.off rfl ?_
      refine TextR.off rfl ?_
      refine TextR.pickAnd0 rfl rfl ?_
      refine TextR.assign rfl ?_
      refine TextR.done (.cons rfl .nil) ?_
      refine Wp.ret ?_
      obtain rfl := Option.some.inj h
      exact Ret.one rfl (resV_tmp rfl) rfl
  · rw [if_neg (by simpa using hv)] at h
    refine TextR.off rfl ?_
    refine TextR.off rfl ?_
    refine TextR.off rfl ?_
    refine TextR.off rfl ?_
    refine TextR.pickAnd0 rfl rfl ?_
    refine TextR.move rfl ?_
    refine TextR.off rfl ?_
    refine TextR.off rfl ?_
    refine TextR.off rfl ?_
    refine TextR.off rfl ?_
    refine TextR.pickAnd0 rfl rfl ?_
    refine TextR.move rfl ?_
    refine TextR.off rfl ?_
    refine TextR.off rfl ?_
    refine TextR.pickAnd0 rfl rfl ?_
    refine TextR.move rfl ?_
    refine TextR.off rfl ?_
    refine TextR.off rfl ?_
    refine TextR.off rfl ?_
    refine TextR.pickAnd0 rfl rfl ?_
    refine TextR.move rfl ?_
    refine TextR.off rfl ?_
    refine TextR.off rfl ?_
    refine TextR.pickAnd0 rfl rfl ?_
    refine TextR.move rfl ?_
    refine TextR.off rfl ?_
    refine TextR.off rfl ?_
    refine TextR.off rfl ?_
    refine TextR.pickAnd0 rfl rfl ?_
    refine TextR.move rfl ?_
    refine TextR.off rfl ?_
    refine TextR.off rfl ?_
    refine TextR.off rfl ?_
    refine TextR.pickAnd0 rfl rfl ?_
    refine TextR.move rfl ?_
    refine TextR.off rfl ?_
    refine TextR.off rfl ?_
    refine TextR.off rfl ?_
    refine TextR.off rfl ?_
    refine TextR.off rfl ?_
    refine TextR.pickAnd0 rfl rfl ?_
    refine TextR.move rfl ?_
    refine TextR.off rfl ?_
    refine TextR.off rfl ?_
    refine TextR.off rfl ?_
    refine TextR.off rfl ?_
    refine TextR.off rfl ?_
    refine TextR.pickAnd0 rfl rfl ?_
    refine TextR.move rfl ?_
    refine TextR.off rfl ?_
    refine TextR.off rfl ?_
    refine TextR.off rfl ?_
    refine TextR.off rfl ?_
    refine TextR.off rfl ?_
    refine TextR.pickAnd0 rfl rfl ?_
    refine TextR.assign rfl ?_
    refine TextR.done (.cons rfl .nil) ?_
    refine Wp.ret ?_
    obtain rfl := Option.some.inj h
    exact Ret.one rfl (resV_tmp rfl) rfl
theorem c_narthexlaw01_awake (N : Nat) (r : Bool) (h : narthexlaw01_awake N = some r) (H : List Ob) : DCall Try.prog 10 [] H (.c (B r)) := DCall.lift (by first | rfl | simp [List.map_take, List.map_drop, rvL, rvK, bwL, hfVs, hfV, hfL, hfAll, hfRows, mvV, mvL, mv0, sh0, mvO, mpE, mpV, mpVs, mpO, fzL, rnL, rn0, ok0, nzI, nzB, nzN, nzF, nzP, nzO, nzQ, nzC, shL, shV, shO, okV, okL, okO, List.take_of_length_le, h_I, hfRows_map h_I, ok_eI, okR_eI, fx_eI, fxR_eI, h_L_I, hfRows_map h_L_I, ok_eL_I, okR_eL_I, fx_eL_I, fxR_eL_I, -List.map_set]) (by first | rfl | simp [List.map_take, List.map_drop, rvL, rvK, bwL, hfVs, hfV, hfL, hfAll, hfRows, mvV, mvL, mv0, sh0, mvO, mpE, mpV, mpVs, mpO, fzL, rnL, rn0, ok0, nzI, nzB, nzN, nzF, nzP, nzO, nzQ, nzC, shL, shV, shO, okV, okL, okO, List.take_of_length_le, h_I, hfRows_map h_I, ok_eI, okR_eI, fx_eI, fxR_eI, h_L_I, hfRows_map h_L_I, ok_eL_I, okR_eL_I, fx_eL_I, fxR_eL_I, -List.map_set]) (fun _ => by simp [List.map_take, List.map_drop, rvL, rvK, bwL, hfVs, hfV, hfL, hfAll, hfRows, mvV, mvL, mv0, sh0, mvO, mpE, mpV, mpVs, mpO, fzL, rnL, rn0, ok0, nzI, nzB, nzN, nzF, nzP, nzO, nzQ, nzC, shL, shV, shO, okV, okL, okO, List.take_of_length_le, h_I, hfRows_map h_I, ok_eI, okR_eI, fx_eI, fxR_eI, h_L_I, hfRows_map h_L_I, ok_eL_I, okR_eL_I, fx_eL_I, fxR_eL_I, -List.map_set]) (w_narthexlaw01_awake N r h) H
-- narthex/narthexlaw01.own
theorem w_narthexlaw01_own (N : Nat) (a0 : List Int) (r : (List Int)) (h : narthexlaw01_own N a0 = some r) : Nx.Call Try.prog 13 [.c (.slv (a0.map eI))] [] fun r' _ => r' = .c (.slv (r.map eI)) := by
  refine Nx.Call.of_body Try.func13 rfl en13 Try.ntmps13 rfl (fun Γ hok => ?_)
  unfold narthexlaw01_own at h
  refine Wp.seq ?_
  refine Wp.text [0] rfl rfl ?_ -- region 0
  refine TextR.assign rfl ?_
  refine TextR.done (.cons rfl .nil) ?_
  refine Wp.seq ?_
  obtain ⟨x1, hx1, h⟩ := bind_some h
  refine Wp.text [2] rfl rfl ?_ -- region 1
  refine TextR.buildSlice  0 se22 rfl rfl rfl .nil ?_
  refine TextR.move rfl ?_
  refine TextR.appendM eI ([] : List Int) a0 x1 (app_eq hx1) se22 rfl rfl rfl rfl (fun _ => rfl) rfl (app_len hx1) .zero ?_
  refine TextR.assign rfl ?_
  refine TextR.done (.cons rfl .nil) ?_
  refine Wp.weak (keepW (live := [2] ) (.cons rfl .nil)) ?_
  refine Wp.weak (freezeW (h := 0) (ver := 1) (rows := x1.map eI) (e' := [(2, .c (.slv (x1.map eI)))]) (H' := [.dead]) rfl (by first | rfl | simp [List.map_take, List.map_drop, rvL, rvK, bwL, hfVs, hfV, hfL, hfAll, hfRows, mvV, mvL, mv0, sh0, mvO, mpE, mpV, mpVs, mpO, fzL, rnL, rn0, ok0, nzI, nzB, nzN, nzF, nzP, nzO, nzQ, nzC, shL, shV, shO, okV, okL, okO, List.take_of_length_le, h_I, hfRows_map h_I, ok_eI, okR_eI, fx_eI, fxR_eI, h_L_I, hfRows_map h_L_I, ok_eL_I, okR_eL_I, fx_eL_I, fxR_eL_I, -List.map_set]) (by first | rfl | simp [List.map_take, List.map_drop, rvL, rvK, bwL, hfVs, hfV, hfL, hfAll, hfRows, mvV, mvL, mv0, sh0, mvO, mpE, mpV, mpVs, mpO, fzL, rnL, rn0, ok0, nzI, nzB, nzN, nzF, nzP, nzO, nzQ, nzC, shL, shV, shO, okV, okL, okO, List.take_of_length_le, h_I, hfRows_map h_I, ok_eI, okR_eI, fx_eI, fxR_eI, h_L_I, hfRows_map h_L_I, ok_eL_I, okR_eL_I, fx_eL_I, fxR_eL_I, -List.map_set])) ?_
  refine Wp.ret ?_
  obtain rfl := Option.some.inj h
  exact Ret.one rfl (resV_tmp rfl) rfl
theorem c_narthexlaw01_own (N : Nat) (a0 : List Int) (r : (List Int)) (h : narthexlaw01_own N a0 = some r) (H : List Ob) : DCall Try.prog 13 [.c (.slv (a0.map eI))] H (.c (.slv (r.map eI))) := DCall.lift (by first | rfl | simp [List.map_take, List.map_drop, rvL, rvK, bwL, hfVs, hfV, hfL, hfAll, hfRows, mvV, mvL, mv0, sh0, mvO, mpE, mpV, mpVs, mpO, fzL, rnL, rn0, ok0, nzI, nzB, nzN, nzF, nzP, nzO, nzQ, nzC, shL, shV, shO, okV, okL, okO, List.take_of_length_le, h_I, hfRows_map h_I, ok_eI, okR_eI, fx_eI, fxR_eI, h_L_I, hfRows_map h_L_I, ok_eL_I, okR_eL_I, fx_eL_I, fxR_eL_I, -List.map_set]) (by first | rfl | simp [List.map_take, List.map_drop, rvL, rvK, bwL, hfVs, hfV, hfL, hfAll, hfRows, mvV, mvL, mv0, sh0, mvO, mpE, mpV, mpVs, mpO, fzL, rnL, rn0, ok0, nzI, nzB, nzN, nzF, nzP, nzO, nzQ, nzC, shL, shV, shO, okV, okL, okO, List.take_of_length_le, h_I, hfRows_map h_I, ok_eI, okR_eI, fx_eI, fxR_eI, h_L_I, hfRows_map h_L_I, ok_eL_I, okR_eL_I, fx_eL_I, fxR_eL_I, -List.map_set]) (fun _ => by simp [List.map_take, List.map_drop, rvL, rvK, bwL, hfVs, hfV, hfL, hfAll, hfRows, mvV, mvL, mv0, sh0, mvO, mpE, mpV, mpVs, mpO, fzL, rnL, rn0, ok0, nzI, nzB, nzN, nzF, nzP, nzO, nzQ, nzC, shL, shV, shO, okV, okL, okO, List.take_of_length_le, h_I, hfRows_map h_I, ok_eI, okR_eI, fx_eI, fxR_eI, h_L_I, hfRows_map h_L_I, ok_eL_I, okR_eL_I, fx_eL_I, fxR_eL_I, -List.map_set]) (w_narthexlaw01_own N a0 r h) H
-- narthex/narthexref01.Has
theorem w_narthexref01_Has (N : Nat) (a0 : List Int) (a1 : Int) (r : Bool) (h : narthexref01_Has N a0 a1 = some r) : Nx.Call Try.prog 16 [.c (.slv (a0.map eI)), .c (I a1)] [] fun r' _ => r' = .c (B r) := by
  refine Nx.Call.of_body Try.func16 rfl en16 Try.ntmps16 rfl (fun Γ hok => ?_)
  unfold narthexref01_Has at h
  refine Wp.seq ?_
  refine Wp.text [0, 1] rfl rfl ?_ -- region 0
  refine TextR.assign rfl ?_
  refine TextR.done (.cons rfl (.cons rfl .nil)) ?_
  refine Wp.seq ?_
  refine Wp.seq ?_
  refine Wp.text [0, 1, 5] rfl rfl ?_ -- region 1
  refine TextR.assign rfl ?_
  refine TextR.done (.cons rfl (.cons rfl (.cons rfl .nil))) ?_
  obtain ⟨z1, hz1, h⟩ := bind_some h
  refine Wp.fragR (fun S => ∃ z3, z1 = .inr z3 ∧ ∃ S', St.Weak ⟨Try.prog, 18, Γ⟩ S S' ∧ S' = ⟨[], []⟩) (fun S => ∃ v, z1 = .inl v ∧ Ret Try.prog Try.f16 (fun r' _ => r' = .c (B v)) .ret S) ?_ ?_ ?_
  · replace h := hz1
    refine Wp.block ?_
    refine Wp.weak (keepW (live := [0, 1, 5]) (.cons rfl (.cons rfl (.cons rfl .nil)))) ?_
    refine Wp.loop (fun m S => ∃ s5_1, narthexref01_Has_L1 N a0 a1 m s5_1 = some z1 ∧ S = ⟨[(0, .c (.slv (a0.map eI))), (1, .c (I a1)), (5, .c (I s5_1))], []⟩) N ⟨_, h, rfl⟩ ?_
    rintro m1 _ ⟨s5_1, h, rfl⟩
    cases m1 with
    | zero => rw [narthexref01_Has_L1.eq_1] at h; cases h
    | succ m1 =>
    rw [narthexref01_Has_L1.eq_2] at h
    refine Wp.seq ?_
    refine Wp.seq ?_
    refine Wp.text [0, 1, 5, 9] rfl rfl ?_ -- region 2
    refine TextR.move rfl ?_
    refine TextR.move rfl ?_
    refine TextR.lenM us22 rfl rfl ?_
    refine TextR.int rfl rfl rfl ?_
    refine TextR.done (.cons rfl (.cons rfl (.cons rfl (.cons rfl .nil)))) ?_
    refine Wp.condM h rfl (fun hc2 h => ?_) (fun hc2 h => ?_)
    · refine Wp.skip ?_
      refine Wp.seq ?_
      refine Wp.block ?_
      refine Wp.seq ?_
      obtain ⟨x4, hx4, h⟩ := bind_some h
      refine Wp.text [0, 1, 5, 17] rfl rfl ?_ -- region 4
      refine TextR.move rfl ?_
      refine TextR.move rfl ?_
      refine TextR.indexA se22 rfl rfl rfl hx4 rfl ?_
      refine TextR.load1M tk3 rfl (at_get hx4) rfl ?_
      refine TextR.move rfl ?_
      refine TextR.int rfl rfl rfl ?_
      refine TextR.done (.cons rfl (.cons rfl (.cons rfl (.cons rfl .nil)))) ?_
      refine Wp.condM h rfl (fun hc3 h => ?_) (fun hc3 h => ?_)
      · refine Wp.seq ?_
        refine Wp.text [4] rfl rfl ?_ -- region 5
        refine TextR.assign rfl ?_
        refine TextR.done (.cons rfl .nil) ?_
        refine Wp.ret ?_
        exact ⟨_, (Option.some.inj h).symm, Ret.one rfl (resV_tmp rfl) rfl⟩
      · refine Wp.skip ?_
        refine Wp.text [0, 1, 5] rfl rfl ?_ -- region 3
        refine TextR.move rfl ?_
        refine TextR.int rfl rfl rfl ?_
        refine TextR.assign rfl ?_
        refine TextR.done (.cons rfl (.cons rfl (.cons rfl .nil))) ?_
        exact ⟨m1, Nat.lt_succ_self _, _, (keepW (live := [0, 1, 5]) (.cons rfl (.cons rfl (.cons rfl .nil)))), _, h, rfl⟩
    · refine Wp.exit ?_
      exact ⟨_, (Option.some.inj h).symm, _, (keepW (live := []) .nil), rfl⟩
  · rintro _ ⟨z3, rfl, _, hw, rfl⟩
    dsimp only at h
    clear hz1
    refine Wp.weak hw ?_
    refine Wp.seq ?_
    refine Wp.text [4] rfl rfl ?_ -- region 6
    refine TextR.assign rfl ?_
    refine TextR.done (.cons rfl .nil) ?_
    refine Wp.ret ?_
    obtain rfl := Option.some.inj h
    exact Ret.one rfl (resV_tmp rfl) rfl
  · rintro S' ⟨r2, rfl, hR⟩
    dsimp only at h
    obtain rfl := Option.some.inj h
    exact hR
theorem c_narthexref01_Has (N : Nat) (a0 : List Int) (a1 : Int) (r : Bool) (h : narthexref01_Has N a0 a1 = some r) (H : List Ob) : DCall Try.prog 16 [.c (.slv (a0.map eI)), .c (I a1)] H (.c (B r)) := DCall.lift (by first | rfl | simp [List.map_take, List.map_drop, rvL, rvK, bwL, hfVs, hfV, hfL, hfAll, hfRows, mvV, mvL, mv0, sh0, mvO, mpE, mpV, mpVs, mpO, fzL, rnL, rn0, ok0, nzI, nzB, nzN, nzF, nzP, nzO, nzQ, nzC, shL, shV, shO, okV, okL, okO, List.take_of_length_le, h_I, hfRows_map h_I, ok_eI, okR_eI, fx_eI, fxR_eI, h_L_I, hfRows_map h_L_I, ok_eL_I, okR_eL_I, fx_eL_I, fxR_eL_I, -List.map_set]) (by first | rfl | simp [List.map_take, List.map_drop, rvL, rvK, bwL, hfVs, hfV, hfL, hfAll, hfRows, mvV, mvL, mv0, sh0, mvO, mpE, mpV, mpVs, mpO, fzL, rnL, rn0, ok0, nzI, nzB, nzN, nzF, nzP, nzO, nzQ, nzC, shL, shV, shO, okV, okL, okO, List.take_of_length_le, h_I, hfRows_map h_I, ok_eI, okR_eI, fx_eI, fxR_eI, h_L_I, hfRows_map h_L_I, ok_eL_I, okR_eL_I, fx_eL_I, fxR_eL_I, -List.map_set]) (fun _ => by simp [List.map_take, List.map_drop, rvL, rvK, bwL, hfVs, hfV, hfL, hfAll, hfRows, mvV, mvL, mv0, sh0, mvO, mpE, mpV, mpVs, mpO, fzL, rnL, rn0, ok0, nzI, nzB, nzN, nzF, nzP, nzO, nzQ, nzC, shL, shV, shO, okV, okL, okO, List.take_of_length_le, h_I, hfRows_map h_I, ok_eI, okR_eI, fx_eI, fxR_eI, h_L_I, hfRows_map h_L_I, ok_eL_I, okR_eL_I, fx_eL_I, fxR_eL_I, -List.map_set]) (w_narthexref01_Has N a0 a1 r h) H
-- narthex/narthexref01.Place
theorem w_narthexref01_Place (N : Nat) (a0 : List Int) (a1 : Int) (r : Int) (h : narthexref01_Place N a0 a1 = some r) : Nx.Call Try.prog 18 [.c (.slv (a0.map eI)), .c (I a1)] [] fun r' _ => r' = .c (I r) := by
  refine Nx.Call.of_body Try.func18 rfl en18 Try.ntmps18 rfl (fun Γ hok => ?_)
  unfold narthexref01_Place at h
  refine Wp.seq ?_
  refine Wp.text [0, 1] rfl rfl ?_ -- region 0
  refine TextR.assign rfl ?_
  refine TextR.done (.cons rfl (.cons rfl .nil)) ?_
  refine Wp.seq ?_
  refine Wp.text [0, 1, 5] rfl rfl ?_ -- region 1
  refine TextR.assign rfl ?_
  refine TextR.done (.cons rfl (.cons rfl (.cons rfl .nil))) ?_
  refine Wp.seq ?_
  refine Wp.seq ?_
  refine Wp.text [0, 1, 5, 6] rfl rfl ?_ -- region 2
  refine TextR.assign rfl ?_
  refine TextR.done (.cons rfl (.cons rfl (.cons rfl (.cons rfl .nil)))) ?_
  obtain ⟨z1, hz1, h⟩ := bind_some h
  refine Wp.fragN (fun S => ∃ S', St.Weak ⟨Try.prog, 33, Γ⟩ S S' ∧ S' = ⟨[(5, .c (I z1))], []⟩) ?_ ?_
  · replace h := hz1
    refine Wp.block ?_
    refine Wp.weak (keepW (live := [0, 1, 5, 6]) (.cons rfl (.cons rfl (.cons rfl (.cons rfl .nil))))) ?_
    refine Wp.loop (fun m S => ∃ s5_1, ∃ s6_1, narthexref01_Place_L1 N a0 a1 m s5_1 s6_1 = some z1 ∧ S = ⟨[(0, .c (.slv (a0.map eI))), (1, .c (I a1)), (5, .c (I s5_1)), (6, .c (I s6_1))], []⟩) N ⟨_, _, h, rfl⟩ ?_
    rintro m1 _ ⟨s5_1, s6_1, h, rfl⟩
    cases m1 with
    | zero => rw [narthexref01_Place_L1.eq_1] at h; cases h
    | succ m1 =>
    rw [narthexref01_Place_L1.eq_2] at h
    refine Wp.seq ?_
    refine Wp.seq ?_
    refine Wp.text [0, 1, 5, 6, 10] rfl rfl ?_ -- region 3
    refine TextR.move rfl ?_
    refine TextR.move rfl ?_
    refine TextR.lenM us22 rfl rfl ?_
    refine TextR.int rfl rfl rfl ?_
    refine TextR.done (.cons rfl (.cons rfl (.cons rfl (.cons rfl (.cons rfl .nil))))) ?_
    refine Wp.condM h rfl (fun hc2 h => ?_) (fun hc2 h => ?_)
    · refine Wp.skip ?_
      refine Wp.seq ?_
      refine Wp.block ?_
      refine Wp.seq ?_
      obtain ⟨x2, hx2, h⟩ := bind_some h
      obtain ⟨x3, hx3, h⟩ := bind_some h
      obtain ⟨x4, hx4, h⟩ := bind_some h
      obtain ⟨y5, hy5, h⟩ := bind_some h
      refine Wp.go true (some []) [[], [], [], [], [], [], [], [(19, true)], [(19, true)], [(19, true)], [(19, true)], [(19, true)], [(19, true)], [(19, true)], [(19, true)], [(19, true)], []] [] [0, 1, 5, 6, 29] mixed rfl rfl (by kernel_rfl) ?_ -- region 5
      refine RunR.move rfl rfl rfl ?_
      refine RunR.move rfl rfl rfl ?_
      refine RunR.indexA se22 rfl rfl rfl rfl rfl hx2 rfl ?_
      refine RunR.load1M tk3 rfl rfl rfl (at_get hx2) rfl ?_
      refine RunR.move rfl rfl rfl ?_
      refine RunR.int rfl rfl rfl rfl rfl ?_
      refine RunR.move rfl rfl rfl ?_
      refine RunR.move rfl rfl rfl ?_
      refine RunR.move rfl rfl rfl ?_
      refine RunR.sliceMG se22 rfl rfl rfl rfl rfl rfl rfl (ifT hx3 gT) (fun _ => rfl) ?_
      refine RunR.move rfl rfl rfl ?_
      refine RunR.move rfl rfl rfl ?_
      refine RunR.indexAG se22 rfl rfl rfl rfl rfl (ifPos hx4 gT) (ifAt hx4 gT) rfl ?_
      refine RunR.load1G tk3 rfl rfl rfl (ifAt hx4 gT) rfl ?_
      refine RunR.callG rfl rfl rfl (fun hb H => c_narthexref01_Has N x3 x4 y5 (ifT hy5 gT hb) H) ?_
      refine RunR.not rfl rfl rfl ?_
      refine RunR.pickAnd rfl rfl rfl rfl ?_
      refine RunR.doneQ (.cons rfl (.cons rfl (.cons rfl (.cons rfl (.cons rfl .nil))))) ?_
      refine Wp.condM h rfl (fun hc3 h => ?_) (fun hc3 h => ?_)
      · refine Wp.text [0, 1, 5, 6] rfl rfl ?_ -- region 6
        refine TextR.move rfl ?_
        refine TextR.int rfl rfl rfl ?_
        refine TextR.assign rfl ?_
        refine TextR.done (.cons rfl (.cons rfl (.cons rfl (.cons rfl .nil)))) ?_
        refine Wp.text [0, 1, 5, 6] rfl rfl ?_ -- region 4
        refine TextR.move rfl ?_
        refine TextR.int rfl rfl rfl ?_
        refine TextR.assign rfl ?_
        refine TextR.done (.cons rfl (.cons rfl (.cons rfl (.cons rfl .nil)))) ?_
        exact ⟨m1, Nat.lt_succ_self _, _, (keepW (live := [0, 1, 5, 6]) (.cons rfl (.cons rfl (.cons rfl (.cons rfl .nil))))), _, _, h, rfl⟩
      · refine Wp.skip ?_
        refine Wp.text [0, 1, 5, 6] rfl rfl ?_ -- region 4
        refine TextR.move rfl ?_
        refine TextR.int rfl rfl rfl ?_
        refine TextR.assign rfl ?_
        refine TextR.done (.cons rfl (.cons rfl (.cons rfl (.cons rfl .nil)))) ?_
        exact ⟨m1, Nat.lt_succ_self _, _, (keepW (live := [0, 1, 5, 6]) (.cons rfl (.cons rfl (.cons rfl (.cons rfl .nil))))), _, _, h, rfl⟩
    · refine Wp.exit ?_
      obtain rfl := Option.some.inj h
      exact ⟨_, (keepW (live := [5]) (.cons rfl .nil)), rfl⟩
  rintro _ ⟨S', hw, rfl⟩
  clear hz1
  refine Wp.weak hw ?_
  refine Wp.seq ?_
  refine Wp.text [4] rfl rfl ?_ -- region 7
  refine TextR.move rfl ?_
  refine TextR.assign rfl ?_
  refine TextR.done (.cons rfl .nil) ?_
  refine Wp.ret ?_
  obtain rfl := Option.some.inj h
  exact Ret.one rfl (resV_tmp rfl) rfl
theorem c_narthexref01_Place (N : Nat) (a0 : List Int) (a1 : Int) (r : Int) (h : narthexref01_Place N a0 a1 = some r) (H : List Ob) : DCall Try.prog 18 [.c (.slv (a0.map eI)), .c (I a1)] H (.c (I r)) := DCall.lift (by first | rfl | simp [List.map_take, List.map_drop, rvL, rvK, bwL, hfVs, hfV, hfL, hfAll, hfRows, mvV, mvL, mv0, sh0, mvO, mpE, mpV, mpVs, mpO, fzL, rnL, rn0, ok0, nzI, nzB, nzN, nzF, nzP, nzO, nzQ, nzC, shL, shV, shO, okV, okL, okO, List.take_of_length_le, h_I, hfRows_map h_I, ok_eI, okR_eI, fx_eI, fxR_eI, h_L_I, hfRows_map h_L_I, ok_eL_I, okR_eL_I, fx_eL_I, fxR_eL_I, -List.map_set]) (by first | rfl | simp [List.map_take, List.map_drop, rvL, rvK, bwL, hfVs, hfV, hfL, hfAll, hfRows, mvV, mvL, mv0, sh0, mvO, mpE, mpV, mpVs, mpO, fzL, rnL, rn0, ok0, nzI, nzB, nzN, nzF, nzP, nzO, nzQ, nzC, shL, shV, shO, okV, okL, okO, List.take_of_length_le, h_I, hfRows_map h_I, ok_eI, okR_eI, fx_eI, fxR_eI, h_L_I, hfRows_map h_L_I, ok_eL_I, okR_eL_I, fx_eL_I, fxR_eL_I, -List.map_set]) (fun _ => by simp [List.map_take, List.map_drop, rvL, rvK, bwL, hfVs, hfV, hfL, hfAll, hfRows, mvV, mvL, mv0, sh0, mvO, mpE, mpV, mpVs, mpO, fzL, rnL, rn0, ok0, nzI, nzB, nzN, nzF, nzP, nzO, nzQ, nzC, shL, shV, shO, okV, okL, okO, List.take_of_length_le, h_I, hfRows_map h_I, ok_eI, okR_eI, fx_eI, fxR_eI, h_L_I, hfRows_map h_L_I, ok_eL_I, okR_eL_I, fx_eL_I, fxR_eL_I, -List.map_set]) (w_narthexref01_Place N a0 a1 r h) H
-- narthex/narthexref01.Of
theorem w_narthexref01_Of (N : Nat) (a0 : List Int) (r : (List Int)) (h : narthexref01_Of N a0 = some r) : Nx.Call Try.prog 14 [.c (.slv (a0.map eI))] [] fun r' _ => r' = .c (.slv (r.map eI)) := by
  refine Nx.Call.of_body Try.func14 rfl en14 Try.ntmps14 rfl (fun Γ hok => ?_)
  unfold narthexref01_Of at h
  refine Wp.seq ?_
  refine Wp.text [0] rfl rfl ?_ -- region 0
  refine TextR.assign rfl ?_
  refine TextR.done (.cons rfl .nil) ?_
  refine Wp.seq ?_
  refine Wp.text [0, 3] rfl rfl ?_ -- region 1
  refine TextR.buildSlice  0 se22 rfl rfl rfl .nil ?_
  refine TextR.assign rfl ?_
  refine TextR.done (.cons rfl (.cons rfl .nil)) ?_
  refine Wp.seq ?_
  refine Wp.seq ?_
  refine Wp.text [0, 3, 4] rfl rfl ?_ -- region 2
  refine TextR.assign rfl ?_
  refine TextR.done (.cons rfl (.cons rfl (.cons rfl .nil))) ?_
  obtain ⟨z1, hz1, h⟩ := bind_some h
  refine Wp.fragN (fun S => ∃ wz1_0, ∃ S', St.Weak ⟨Try.prog, 41, Γ⟩ S S' ∧ S' = ⟨[(3, .c (.sl 0 wz1_0 0 z1.length))], [.live wz1_0 1 (z1.map eI)]⟩) ?_ ?_
  · replace h := hz1
    refine Wp.block ?_
    refine Wp.weak (keepW (live := [0, 3, 4]) (.cons rfl (.cons rfl (.cons rfl .nil)))) ?_
    refine Wp.loop (fun m S => ∃ l0_1, ∃ s4_1, ∃ wh0_1, narthexref01_Of_L1 N a0 m l0_1 s4_1 = some z1 ∧ S = ⟨[(0, .c (.slv (a0.map eI))), (3, .c (.sl 0 wh0_1 0 l0_1.length)), (4, .c (I s4_1))], [.live wh0_1 1 (l0_1.map eI)]⟩) N ⟨_, _, _, h, rfl⟩ ?_
    rintro m1 _ ⟨l0_1, s4_1, wh0_1, h, rfl⟩
    cases m1 with
    | zero => rw [narthexref01_Of_L1.eq_1] at h; cases h
    | succ m1 =>
    rw [narthexref01_Of_L1.eq_2] at h
    refine Wp.seq ?_
    refine Wp.seq ?_
    refine Wp.text [0, 3, 4, 10] rfl rfl ?_ -- region 3
    refine TextR.move rfl ?_
    refine TextR.move rfl ?_
    refine TextR.lenM us22 rfl rfl ?_
    refine TextR.int rfl rfl rfl ?_
    refine TextR.done (.cons rfl (.cons rfl (.cons rfl (.cons rfl .nil)))) ?_
    refine Wp.condM h rfl (fun hc2 h => ?_) (fun hc2 h => ?_)
    · refine Wp.skip ?_
      refine Wp.seq ?_
      refine Wp.block ?_
      refine Wp.seq ?_
      refine Wp.seq ?_
      obtain ⟨x2, hx2, h⟩ := bind_some h
      obtain ⟨y3, hy3, h⟩ := bind_some h
      refine Wp.text [0, 3, 4, 18] rfl rfl ?_ -- region 5
      refine TextR.move rfl ?_
      refine TextR.move rfl ?_
      refine TextR.move rfl ?_
      refine TextR.indexA se22 rfl rfl rfl hx2 rfl ?_
      refine TextR.load1M tk3 rfl (at_get hx2) rfl ?_
      refine TextR.dcall rfl rfl (DCall.borrow (fs := [.c (.slv (l0_1.map eI)), .c (I x2)]) (by simp [List.map_take, List.map_drop, rvL, rvK, bwL, hfVs, hfV, hfL, hfAll, hfRows, mvV, mvL, mv0, sh0, mvO, mpE, mpV, mpVs, mpO, fzL, rnL, rn0, ok0, nzI, nzB, nzN, nzF, nzP, nzO, nzQ, nzC, shL, shV, shO, okV, okL, okO, List.take_of_length_le, h_I, hfRows_map h_I, ok_eI, okR_eI, fx_eI, fxR_eI, h_L_I, hfRows_map h_L_I, ok_eL_I, okR_eL_I, fx_eL_I, fxR_eL_I, -List.map_set, obj, List.take_of_length_le]) (by first | rfl | simp [List.map_take, List.map_drop, rvL, rvK, bwL, hfVs, hfV, hfL, hfAll, hfRows, mvV, mvL, mv0, sh0, mvO, mpE, mpV, mpVs, mpO, fzL, rnL, rn0, ok0, nzI, nzB, nzN, nzF, nzP, nzO, nzQ, nzC, shL, shV, shO, okV, okL, okO, List.take_of_length_le, h_I, hfRows_map h_I, ok_eI, okR_eI, fx_eI, fxR_eI, h_L_I, hfRows_map h_L_I, ok_eL_I, okR_eL_I, fx_eL_I, fxR_eL_I, -List.map_set]) rfl (w_narthexref01_Has N l0_1 x2 y3 hy3)) ?_
      refine TextR.done (.cons rfl (.cons rfl (.cons rfl (.cons rfl .nil)))) ?_
      refine Wp.condM h rfl (fun hc3 h => ?_) (fun hc3 h => ?_)
      · refine Wp.exit ?_
        refine Wp.text [0, 3, 4] rfl rfl ?_ -- region 4
        refine TextR.move rfl ?_
        refine TextR.int rfl rfl rfl ?_
        refine TextR.assign rfl ?_
        refine TextR.done (.cons rfl (.cons rfl (.cons rfl .nil))) ?_
        exact ⟨m1, Nat.lt_succ_self _, _, (keepW (live := [0, 3, 4]) (.cons rfl (.cons rfl (.cons rfl .nil)))), _, _, _, h, rfl⟩
      · refine Wp.skip ?_
        refine Wp.seq ?_
        obtain ⟨x4, hx4, h⟩ := bind_some h
        obtain ⟨y5, hy5, h⟩ := bind_some h
        refine Wp.text [0, 3, 4, 5] rfl rfl ?_ -- region 6
        refine TextR.move rfl ?_
        refine TextR.move rfl ?_
        refine TextR.move rfl ?_
        refine TextR.indexA se22 rfl rfl rfl hx4 rfl ?_
        refine TextR.load1M tk3 rfl (at_get hx4) rfl ?_
        refine TextR.dcall rfl rfl (DCall.borrow (fs := [.c (.slv (l0_1.map eI)), .c (I x4)]) (by simp [List.map_take, List.map_drop, rvL, rvK, bwL, hfVs, hfV, hfL, hfAll, hfRows, mvV, mvL, mv0, sh0, mvO, mpE, mpV, mpVs, mpO, fzL, rnL, rn0, ok0, nzI, nzB, nzN, nzF, nzP, nzO, nzQ, nzC, shL, shV, shO, okV, okL, okO, List.take_of_length_le, h_I, hfRows_map h_I, ok_eI, okR_eI, fx_eI, fxR_eI, h_L_I, hfRows_map h_L_I, ok_eL_I, okR_eL_I, fx_eL_I, fxR_eL_I, -List.map_set, obj, List.take_of_length_le]) (by first | rfl | simp [List.map_take, List.map_drop, rvL, rvK, bwL, hfVs, hfV, hfL, hfAll, hfRows, mvV, mvL, mv0, sh0, mvO, mpE, mpV, mpVs, mpO, fzL, rnL, rn0, ok0, nzI, nzB, nzN, nzF, nzP, nzO, nzQ, nzC, shL, shV, shO, okV, okL, okO, List.take_of_length_le, h_I, hfRows_map h_I, ok_eI, okR_eI, fx_eI, fxR_eI, h_L_I, hfRows_map h_L_I, ok_eL_I, okR_eL_I, fx_eL_I, fxR_eL_I, -List.map_set]) rfl (w_narthexref01_Place N l0_1 x4 y5 hy5)) ?_
        refine TextR.assign rfl ?_
        refine TextR.done (.cons rfl (.cons rfl (.cons rfl (.cons rfl .nil)))) ?_
        obtain ⟨x6, hx6, h⟩ := bind_some h
        obtain ⟨x7, hx7, h⟩ := bind_some h
        obtain ⟨x8, hx8, h⟩ := bind_some h
        obtain ⟨x9, hx9, h⟩ := bind_some h
        obtain ⟨x10, hx10, h⟩ := bind_some h
        obtain ⟨x11, hx11, h⟩ := bind_some h
        refine Wp.ways (S0 := ⟨[(0, .c (.slv (a0.map eI))), (3, .c (.sl 1 3 0 x11.length)), (4, .c (I s4_1))], [.live wh0_1 1 (l0_1.map eI), .live 3 1 (x11.map eI), .live 0 1 ([x8].map eI)]⟩) mixed ?_ ?_ -- region 7 WAYS
        · refine RegAny.fork 9 4 [0, 1, 2, 3, 4, 5, 6, 7, 8, 9, 10, 11, 12, 13, 14, 15] [0, 1, 2, 3, 5, 6, 7, 8, 9, 4, 10, 11, 12, 13, 14, 15] rfl rfl rfl rfl ?_ ?_
          · refine RegAny.leaf [1, 2] [[], [], [], [], [], [], [], [], [], [], [], [], [], [], [], []] [false, true, true, true, false, true, true, true, true, false, false, true, true, true, false, false] [0, 3, 4] rfl (by kernel_rfl) rfl ?_
            refine RunR.buildSlice  1 se22 rfl rfl rfl rfl rfl (.cons .nil) ?_
            refine RunR.move rfl rfl rfl ?_
            refine RunR.move rfl rfl rfl ?_
            refine RunR.sliceOM se22 rfl rfl rfl rfl rfl (obj_of rfl) rfl rfl hx6 ?_
            refine RunR.appendM eI ([] : List Int) ((l0_1.drop 0).take x6.length) x7 (app_eq hx7) se22 rfl rfl rfl rfl rfl (view_piece (f := eI) (xs := l0_1) (obj_of rfl) (by have q0 := sub_le hx6; first | exact q0 | (simp only [List.length_set, List.length_take, List.length_drop, length_cpy, length_clr] at *; omega))) (fun _ => rfl) rfl (app_len hx7) (.succ .zero) ?_
            refine RunR.move rfl rfl rfl ?_
            refine RunR.move rfl rfl rfl ?_
            refine RunR.indexA se22 rfl rfl rfl rfl rfl hx8 rfl ?_
            refine RunR.load1M tk3 rfl rfl rfl (at_get hx8) rfl ?_
            refine RunR.buildSlice (rows := [x8].map eI) 2 se22 rfl rfl rfl rfl rfl (.cons (.cons .nil)) ?_
            refine RunR.appendM eI x7 [x8] x9 (app_eq hx9) se22 rfl rfl rfl rfl rfl (view_whole (f := eI) (xs := [x8]) rfl) (fun _ => rfl) rfl (app_len hx9) (.succ .zero) ?_
            refine RunR.move rfl rfl rfl ?_
            refine RunR.move rfl rfl rfl ?_
            refine RunR.sliceOM se22 rfl rfl rfl rfl rfl (obj_of rfl) rfl rfl hx10 ?_
            refine RunR.appendM eI x9 ((l0_1.drop (Int.toNat y5)).take x10.length) x11 (app_eq hx11) se22 rfl rfl rfl rfl rfl (view_piece (f := eI) (xs := l0_1) (obj_of rfl) (by have q0 := sub_le hx10; first | exact q0 | (simp only [List.length_set, List.length_take, List.length_drop, length_cpy, length_clr] at *; omega))) (fun _ => rfl) rfl (app_len hx11) (.succ .zero) ?_
            refine RunR.assign rfl rfl rfl ?_
            refine RunR.nil ⟨_, (.cons rfl (.cons rfl (.cons rfl .nil))), .refl⟩
          · refine RegAny.fork 8 0 [0, 1, 2, 3, 4, 5, 6, 7, 8, 9, 10, 11, 12, 13, 14, 15] [1, 2, 3, 4, 5, 6, 7, 8, 0, 9, 10, 11, 12, 13, 14, 15] rfl rfl rfl rfl ?_ ?_
            · refine RegAny.leaf [1, 2] [[], [], [], [], [], [], [], [], [], [], [], [], [], [], [], []] [false, true, true, true, true, true, true, true, false, false, false, true, true, true, false, false] [0, 3, 4] rfl (by kernel_rfl) rfl ?_
              refine RunR.buildSlice  1 se22 rfl rfl rfl rfl rfl (.cons .nil) ?_
              refine RunR.move rfl rfl rfl ?_
              refine RunR.move rfl rfl rfl ?_
              refine RunR.sliceOM se22 rfl rfl rfl rfl rfl (obj_of rfl) rfl rfl hx6 ?_
              refine RunR.move rfl rfl rfl ?_
              refine RunR.move rfl rfl rfl ?_
              refine RunR.indexA se22 rfl rfl rfl rfl rfl hx8 rfl ?_
              refine RunR.load1M tk3 rfl rfl rfl (at_get hx8) rfl ?_
              refine RunR.buildSlice (rows := [x8].map eI) 2 se22 rfl rfl rfl rfl rfl (.cons (.cons .nil)) ?_
              refine RunR.appendM eI ([] : List Int) ((l0_1.drop 0).take x6.length) x7 (app_eq hx7) se22 rfl rfl rfl rfl rfl (view_piece (f := eI) (xs := l0_1) (obj_of rfl) (by have q0 := sub_le hx6; first | exact q0 | (simp only [List.length_set, List.length_take, List.length_drop, length_cpy, length_clr] at *; omega))) (fun _ => rfl) rfl (app_len hx7) (.succ .zero) ?_
              refine RunR.appendM eI x7 [x8] x9 (app_eq hx9) se22 rfl rfl rfl rfl rfl (view_whole (f := eI) (xs := [x8]) rfl) (fun _ => rfl) rfl (app_len hx9) (.succ .zero) ?_
              refine RunR.move rfl rfl rfl ?_
              refine RunR.move rfl rfl rfl ?_
              refine RunR.sliceOM se22 rfl rfl rfl rfl rfl (obj_of rfl) rfl rfl hx10 ?_
              refine RunR.appendM eI x9 ((l0_1.drop (Int.toNat y5)).take x10.length) x11 (app_eq hx11) se22 rfl rfl rfl rfl rfl (view_piece (f := eI) (xs := l0_1) (obj_of rfl) (by have q0 := sub_le hx10; first | exact q0 | (simp only [List.length_set, List.length_take, List.length_drop, length_cpy, length_clr] at *; omega))) (fun _ => rfl) rfl (app_len hx11) (.succ .zero) ?_
              refine RunR.assign rfl rfl rfl ?_
              refine RunR.nil ⟨_, (.cons rfl (.cons rfl (.cons rfl .nil))), .refl⟩
            · refine RegAny.leaf [1, 2] [[], [], [], [], [], [], [], [], [], [], [], [], [], [], [], []] [true, true, true, false, false, false, false, false, false, false, false, true, true, true, false, false] [0, 3, 4] rfl (by kernel_rfl) rfl ?_
              refine RunR.move rfl rfl rfl ?_
              refine RunR.move rfl rfl rfl ?_
              refine RunR.sliceOM se22 rfl rfl rfl rfl rfl (obj_of rfl) rfl rfl hx6 ?_
              refine RunR.move rfl rfl rfl ?_
              refine RunR.move rfl rfl rfl ?_
              refine RunR.indexA se22 rfl rfl rfl rfl rfl hx8 rfl ?_
              refine RunR.load1M tk3 rfl rfl rfl (at_get hx8) rfl ?_
              refine RunR.buildSlice (rows := [x8].map eI) 1 se22 rfl rfl rfl rfl rfl (.cons .nil) ?_
              refine RunR.buildSlice  2 se22 rfl rfl rfl rfl rfl (.cons (.cons .nil)) ?_
              refine RunR.appendM eI ([] : List Int) ((l0_1.drop 0).take x6.length) x7 (app_eq hx7) se22 rfl rfl rfl rfl rfl (view_piece (f := eI) (xs := l0_1) (obj_of rfl) (by have q0 := sub_le hx6; first | exact q0 | (simp only [List.length_set, List.length_take, List.length_drop, length_cpy, length_clr] at *; omega))) (fun _ => rfl) rfl (app_len hx7) (.succ (.succ .zero)) ?_
              refine RunR.appendM eI x7 [x8] x9 (app_eq hx9) se22 rfl rfl rfl rfl rfl (view_whole (f := eI) (xs := [x8]) rfl) (fun _ => rfl) rfl (app_len hx9) (.succ (.succ .zero)) ?_
              refine RunR.move rfl rfl rfl ?_
              refine RunR.move rfl rfl rfl ?_
              refine RunR.sliceOM se22 rfl rfl rfl rfl rfl (obj_of rfl) rfl rfl hx10 ?_
              refine RunR.appendM eI x9 ((l0_1.drop (Int.toNat y5)).take x10.length) x11 (app_eq hx11) se22 rfl rfl rfl rfl rfl (view_piece (f := eI) (xs := l0_1) (obj_of rfl) (by have q0 := sub_le hx10; first | exact q0 | (simp only [List.length_set, List.length_take, List.length_drop, length_cpy, length_clr] at *; omega))) (fun _ => rfl) rfl (app_len hx11) (.succ (.succ .zero)) ?_
              refine RunR.assign rfl rfl rfl ?_
              refine RunR.nil ⟨_, (.cons rfl (.cons rfl (.cons rfl .nil))), (pickT (e' := [(0, .c (.slv (a0.map eI))), (3, .c (.sl 1 3 0 x11.length)), (4, .c (I s4_1))]) (H' := [.live wh0_1 1 (l0_1.map eI), .live 3 1 (x11.map eI), .live 0 1 ([x8].map eI)]) [0, 2, 1] [0, 2, 1] 0 hok.len.symm rfl rfl (by decide) (by first | rfl | simp [List.map_take, List.map_drop, rvL, rvK, bwL, hfVs, hfV, hfL, hfAll, hfRows, mvV, mvL, mv0, sh0, mvO, mpE, mpV, mpVs, mpO, fzL, rnL, rn0, ok0, nzI, nzB, nzN, nzF, nzP, nzO, nzQ, nzC, shL, shV, shO, okV, okL, okO, List.take_of_length_le, h_I, hfRows_map h_I, ok_eI, okR_eI, fx_eI, fxR_eI, h_L_I, hfRows_map h_L_I, ok_eL_I, okR_eL_I, fx_eL_I, fxR_eL_I, -List.map_set]) (by first | rfl | simp [List.map_take, List.map_drop, rvL, rvK, bwL, hfVs, hfV, hfL, hfAll, hfRows, mvV, mvL, mv0, sh0, mvO, mpE, mpV, mpVs, mpO, fzL, rnL, rn0, ok0, nzI, nzB, nzN, nzF, nzP, nzO, nzQ, nzC, shL, shV, shO, okV, okL, okO, List.take_of_length_le, h_I, hfRows_map h_I, ok_eI, okR_eI, fx_eI, fxR_eI, h_L_I, hfRows_map h_L_I, ok_eL_I, okR_eL_I, fx_eL_I, fxR_eL_I, -List.map_set]) (by first | rfl | simp [List.map_take, List.map_drop, rvL, rvK, bwL, hfVs, hfV, hfL, hfAll, hfRows, mvV, mvL, mv0, sh0, mvO, mpE, mpV, mpVs, mpO, fzL, rnL, rn0, ok0, nzI, nzB, nzN, nzF, nzP, nzO, nzQ, nzC, shL, shV, shO, okV, okL, okO, List.take_of_length_le, h_I, hfRows_map h_I, ok_eI, okR_eI, fx_eI, fxR_eI, h_L_I, hfRows_map h_L_I, ok_eL_I, okR_eL_I, fx_eL_I, fxR_eL_I, -List.map_set]) (by first | rfl | simp [List.map_take, List.map_drop, rvL, rvK, bwL, hfVs, hfV, hfL, hfAll, hfRows, mvV, mvL, mv0, sh0, mvO, mpE, mpV, mpVs, mpO, fzL, rnL, rn0, ok0, nzI, nzB, nzN, nzF, nzP, nzO, nzQ, nzC, shL, shV, shO, okV, okL, okO, List.take_of_length_le, h_I, hfRows_map h_I, ok_eI, okR_eI, fx_eI, fxR_eI, h_L_I, hfRows_map h_L_I, ok_eL_I, okR_eL_I, fx_eL_I, fxR_eL_I, -List.map_set]))⟩
        refine Wp.text [0, 3, 4] rfl rfl ?_ -- region 4
        refine TextR.move rfl ?_
        refine TextR.int rfl rfl rfl ?_
        refine TextR.assign rfl ?_
        refine TextR.done (.cons rfl (.cons rfl (.cons rfl .nil))) ?_
        exact ⟨m1, Nat.lt_succ_self _, _, (St.Weak.trans (keepW (live := [0, 3, 4]) (.cons rfl (.cons rfl (.cons rfl .nil)))) (pickT (e' := [(0, .c (.slv (a0.map eI))), (3, .c (.sl 0 3 0 x11.length)), (4, .c (I (w64 (s4_1 + 1))))]) (H' := [.live 3 1 (x11.map eI)]) [1] [0, 0, 0] 0 hok.len.symm rfl rfl (by decide) (by first | rfl | simp [List.map_take, List.map_drop, rvL, rvK, bwL, hfVs, hfV, hfL, hfAll, hfRows, mvV, mvL, mv0, sh0, mvO, mpE, mpV, mpVs, mpO, fzL, rnL, rn0, ok0, nzI, nzB, nzN, nzF, nzP, nzO, nzQ, nzC, shL, shV, shO, okV, okL, okO, List.take_of_length_le, h_I, hfRows_map h_I, ok_eI, okR_eI, fx_eI, fxR_eI, h_L_I, hfRows_map h_L_I, ok_eL_I, okR_eL_I, fx_eL_I, fxR_eL_I, -List.map_set]) (by first | rfl | simp [List.map_take, List.map_drop, rvL, rvK, bwL, hfVs, hfV, hfL, hfAll, hfRows, mvV, mvL, mv0, sh0, mvO, mpE, mpV, mpVs, mpO, fzL, rnL, rn0, ok0, nzI, nzB, nzN, nzF, nzP, nzO, nzQ, nzC, shL, shV, shO, okV, okL, okO, List.take_of_length_le, h_I, hfRows_map h_I, ok_eI, okR_eI, fx_eI, fxR_eI, h_L_I, hfRows_map h_L_I, ok_eL_I, okR_eL_I, fx_eL_I, fxR_eL_I, -List.map_set]) (by first | rfl | simp [List.map_take, List.map_drop, rvL, rvK, bwL, hfVs, hfV, hfL, hfAll, hfRows, mvV, mvL, mv0, sh0, mvO, mpE, mpV, mpVs, mpO, fzL, rnL, rn0, ok0, nzI, nzB, nzN, nzF, nzP, nzO, nzQ, nzC, shL, shV, shO, okV, okL, okO, List.take_of_length_le, h_I, hfRows_map h_I, ok_eI, okR_eI, fx_eI, fxR_eI, h_L_I, hfRows_map h_L_I, ok_eL_I, okR_eL_I, fx_eL_I, fxR_eL_I, -List.map_set]) (by first | rfl | simp [List.map_take, List.map_drop, rvL, rvK, bwL, hfVs, hfV, hfL, hfAll, hfRows, mvV, mvL, mv0, sh0, mvO, mpE, mpV, mpVs, mpO, fzL, rnL, rn0, ok0, nzI, nzB, nzN, nzF, nzP, nzO, nzQ, nzC, shL, shV, shO, okV, okL, okO, List.take_of_length_le, h_I, hfRows_map h_I, ok_eI, okR_eI, fx_eI, fxR_eI, h_L_I, hfRows_map h_L_I, ok_eL_I, okR_eL_I, fx_eL_I, fxR_eL_I, -List.map_set]))), _, _, _, h, rfl⟩
    · refine Wp.exit ?_
      obtain rfl := Option.some.inj h
      exact ⟨_, _, (keepW (live := [3]) (.cons rfl .nil)), rfl⟩
  rintro _ ⟨wz1_0, S', hw, rfl⟩
  clear hz1
  refine Wp.weak hw ?_
  refine Wp.seq ?_
  refine Wp.text [2] rfl rfl ?_ -- region 8
  refine TextR.move rfl ?_
  refine TextR.assign rfl ?_
  refine TextR.done (.cons rfl .nil) ?_
  refine Wp.weak (keepW (live := [2] ) (.cons rfl .nil)) ?_
  refine Wp.weak (freezeW (h := 0) (ver := wz1_0) (rows := z1.map eI) (e' := [(2, .c (.slv (z1.map eI)))]) (H' := [.dead]) (obj_of rfl) (by first | rfl | simp [List.map_take, List.map_drop, rvL, rvK, bwL, hfVs, hfV, hfL, hfAll, hfRows, mvV, mvL, mv0, sh0, mvO, mpE, mpV, mpVs, mpO, fzL, rnL, rn0, ok0, nzI, nzB, nzN, nzF, nzP, nzO, nzQ, nzC, shL, shV, shO, okV, okL, okO, List.take_of_length_le, h_I, hfRows_map h_I, ok_eI, okR_eI, fx_eI, fxR_eI, h_L_I, hfRows_map h_L_I, ok_eL_I, okR_eL_I, fx_eL_I, fxR_eL_I, -List.map_set]) (by first | rfl | simp [List.map_take, List.map_drop, rvL, rvK, bwL, hfVs, hfV, hfL, hfAll, hfRows, mvV, mvL, mv0, sh0, mvO, mpE, mpV, mpVs, mpO, fzL, rnL, rn0, ok0, nzI, nzB, nzN, nzF, nzP, nzO, nzQ, nzC, shL, shV, shO, okV, okL, okO, List.take_of_length_le, h_I, hfRows_map h_I, ok_eI, okR_eI, fx_eI, fxR_eI, h_L_I, hfRows_map h_L_I, ok_eL_I, okR_eL_I, fx_eL_I, fxR_eL_I, -List.map_set])) ?_
  refine Wp.ret ?_
  obtain rfl := Option.some.inj h
  exact Ret.one rfl (resV_tmp rfl) rfl
theorem c_narthexref01_Of (N : Nat) (a0 : List Int) (r : (List Int)) (h : narthexref01_Of N a0 = some r) (H : List Ob) : DCall Try.prog 14 [.c (.slv (a0.map eI))] H (.c (.slv (r.map eI))) := DCall.lift (by first | rfl | simp [List.map_take, List.map_drop, rvL, rvK, bwL, hfVs, hfV, hfL, hfAll, hfRows, mvV, mvL, mv0, sh0, mvO, mpE, mpV, mpVs, mpO, fzL, rnL, rn0, ok0, nzI, nzB, nzN, nzF, nzP, nzO, nzQ, nzC, shL, shV, shO, okV, okL, okO, List.take_of_length_le, h_I, hfRows_map h_I, ok_eI, okR_eI, fx_eI, fxR_eI, h_L_I, hfRows_map h_L_I, ok_eL_I, okR_eL_I, fx_eL_I, fxR_eL_I, -List.map_set]) (by first | rfl | simp [List.map_take, List.map_drop, rvL, rvK, bwL, hfVs, hfV, hfL, hfAll, hfRows, mvV, mvL, mv0, sh0, mvO, mpE, mpV, mpVs, mpO, fzL, rnL, rn0, ok0, nzI, nzB, nzN, nzF, nzP, nzO, nzQ, nzC, shL, shV, shO, okV, okL, okO, List.take_of_length_le, h_I, hfRows_map h_I, ok_eI, okR_eI, fx_eI, fxR_eI, h_L_I, hfRows_map h_L_I, ok_eL_I, okR_eL_I, fx_eL_I, fxR_eL_I, -List.map_set]) (fun _ => by simp [List.map_take, List.map_drop, rvL, rvK, bwL, hfVs, hfV, hfL, hfAll, hfRows, mvV, mvL, mv0, sh0, mvO, mpE, mpV, mpVs, mpO, fzL, rnL, rn0, ok0, nzI, nzB, nzN, nzF, nzP, nzO, nzQ, nzC, shL, shV, shO, okV, okL, okO, List.take_of_length_le, h_I, hfRows_map h_I, ok_eI, okR_eI, fx_eI, fxR_eI, h_L_I, hfRows_map h_L_I, ok_eL_I, okR_eL_I, fx_eL_I, fxR_eL_I, -List.map_set]) (w_narthexref01_Of N a0 r h) H
-- narthex/narthexlaw01.SetOf
theorem w_narthexlaw01_SetOf (N : Nat) (a0 : List Int) (a1 : Int) (r : Bool) (h : narthexlaw01_SetOf N a0 a1 = some r) : Nx.Call Try.prog 3 [.c (.slv (a0.map eI)), .c (I a1)] [] fun r' _ => r' = .c (B r) := by
  refine Nx.Call.of_body Try.func3 rfl en3 Try.ntmps3 rfl (fun Γ hok => ?_)
  unfold narthexlaw01_SetOf at h
  refine Wp.seq ?_
  refine Wp.text [0, 1] rfl rfl ?_ -- region 0
  refine TextR.assign rfl ?_
  refine TextR.done (.cons rfl (.cons rfl .nil)) ?_
  refine Wp.seq ?_
  refine Wp.seq ?_
  obtain ⟨y1, hy1, h⟩ := bind_some h
  refine Wp.go false none [[], [], [], [(7, false)], [(7, false)], [(7, false)], []] [] [0, 1, 11] mixed rfl rfl (by kernel_rfl) ?_ -- region 1
  refine RunR.call rfl rfl rfl (fun H => c_narthexlaw01_awake N y1 hy1 H) ?_
  refine RunR.not rfl rfl rfl ?_
  refine RunR.move rfl rfl rfl ?_
  refine RunR.move rfl rfl rfl ?_
  refine RunR.lenM us22 rfl rfl rfl rfl ?_
  refine RunR.int rfl rfl rfl rfl rfl ?_
  refine RunR.pickOr rfl rfl rfl rfl ?_
  refine RunR.doneQ (.cons rfl (.cons rfl (.cons rfl .nil))) ?_
  refine Wp.condM h rfl (fun hc1 h => ?_) (fun hc1 h => ?_)
  · refine Wp.seq ?_
    obtain ⟨y2, hy2, h⟩ := bind_some h
    refine Wp.text [4] rfl rfl ?_ -- region 2
    refine TextR.dcall rfl rfl (c_narthexlaw01_awake N y2 hy2 _) ?_
    refine TextR.assign rfl ?_
    refine TextR.done (.cons rfl .nil) ?_
    refine Wp.ret ?_
    obtain rfl := Option.some.inj h
    exact Ret.one rfl (resV_tmp rfl) rfl
  · refine Wp.skip ?_
    refine Wp.seq ?_
    obtain ⟨y3, hy3, h⟩ := bind_some h
    obtain ⟨y4, hy4, h⟩ := bind_some h
    obtain ⟨y5, hy5, h⟩ := bind_some h
    obtain ⟨y6, hy6, h⟩ := bind_some h
    obtain ⟨y7, hy7, h⟩ := bind_some h
    obtain ⟨y8, hy8, h⟩ := bind_some h
    obtain ⟨y9, hy9, h⟩ := bind_some h
    obtain ⟨y10, hy10, h⟩ := bind_some h
    obtain ⟨y11, hy11, h⟩ := bind_some h
    obtain ⟨y12, hy12, h⟩ := bind_some h
    obtain ⟨y13, hy13, h⟩ := bind_some h
    obtain ⟨y14, hy14, h⟩ := bind_some h
    obtain ⟨y15, hy15, h⟩ := bind_some h
    obtain ⟨y16, hy16, h⟩ := bind_some h
    refine Wp.go false none [[], [], [], [], [], [], [], [(19, true)], [(19, true)], [(19, true)], [(19, true)], [(19, true)], [(19, true)], [(19, true)], [(19, true)], [], [], [(29, true)], [(29, true)], [(29, true)], [(29, true)], [(29, true)], [(29, true)], [(29, true)], [(29, true)], [], [], [(39, true)], [(39, true)], [(39, true)], [(39, true)], [(39, true)], [(39, true)], [(39, true)], [(39, true)], [], []] [] [4] mixed rfl rfl (by kernel_rfl) ?_ -- region 3
    refine RunR.move rfl rfl rfl ?_
    refine RunR.call rfl rfl rfl (fun H => c_narthexlaw01_own N a0 y3 hy3 H) ?_
    refine RunR.call rfl rfl rfl (fun H => c_set_Of N y3 y4 hy4 H) ?_
    refine RunR.move rfl rfl rfl ?_
    refine RunR.call rfl rfl rfl (fun H => c_narthexref01_Of N a0 y5 hy5 H) ?_
    refine RunR.call rfl rfl rfl (fun H => c_narthexref01_Same N y4 y5 y6 hy6 H) ?_
    refine RunR.move rfl rfl rfl ?_
    refine RunR.move rfl rfl rfl ?_
    refine RunR.callG rfl rfl rfl (fun hb H => c_narthexlaw01_own N a0 y7 (ifT hy7 gT hb) H) ?_
    refine RunR.move rfl rfl rfl ?_
    refine RunR.callG rfl rfl rfl (fun hb H => c_set_Has N y7 a1 y8 (ifT hy8 gT hb) H) ?_
    refine RunR.move rfl rfl rfl ?_
    refine RunR.move rfl rfl rfl ?_
    refine RunR.callG rfl rfl rfl (fun hb H => c_narthexref01_Has N a0 a1 y9 (ifT hy9 gT hb) H) ?_
    refine RunR.eqBool (by kernel_rfl) rfl rfl rfl rfl ?_
    refine RunR.pickAnd rfl rfl rfl rfl ?_
    refine RunR.move rfl rfl rfl ?_
    refine RunR.move rfl rfl rfl ?_
    refine RunR.callG rfl rfl rfl (fun hb H => c_narthexlaw01_own N a0 y10 (ifT hy10 gT hb) H) ?_
    refine RunR.move rfl rfl rfl ?_
    refine RunR.callG rfl rfl rfl (fun hb H => c_set_Place N y10 a1 y11 (ifT hy11 gT hb) H) ?_
    refine RunR.move rfl rfl rfl ?_
    refine RunR.move rfl rfl rfl ?_
    refine RunR.callG rfl rfl rfl (fun hb H => c_narthexref01_Place N a0 a1 y12 (ifT hy12 gT hb) H) ?_
    refine RunR.int rfl rfl rfl rfl rfl ?_
    refine RunR.pickAnd rfl rfl rfl rfl ?_
    refine RunR.move rfl rfl rfl ?_
    refine RunR.move rfl rfl rfl ?_
    refine RunR.callG rfl rfl rfl (fun hb H => c_narthexlaw01_own N a0 y13 (ifT hy13 gT hb) H) ?_
    refine RunR.callG rfl rfl rfl (fun hb H => c_set_Valid N y13 y14 (ifT hy14 gT hb) H) ?_
    refine RunR.move rfl rfl rfl ?_
    refine RunR.move rfl rfl rfl ?_
    refine RunR.callG rfl rfl rfl (fun hb H => c_narthexref01_Of N a0 y15 (ifT hy15 gT hb) H) ?_
    refine RunR.callG rfl rfl rfl (fun hb H => c_narthexref01_Same N a0 y15 y16 (ifT hy16 gT hb) H) ?_
    refine RunR.eqBool (by kernel_rfl) rfl rfl rfl rfl ?_
    refine RunR.pickAnd rfl rfl rfl rfl ?_
    refine RunR.assign rfl rfl rfl ?_
    refine RunR.doneQ (.cons rfl .nil) ?_
    refine Wp.ret ?_
    obtain rfl := Option.some.inj h
    exact Ret.one rfl (resV_tmp rfl) rfl
theorem c_narthexlaw01_SetOf (N : Nat) (a0 : List Int) (a1 : Int) (r : Bool) (h : narthexlaw01_SetOf N a0 a1 = some r) (H : List Ob) : DCall Try.prog 3 [.c (.slv (a0.map eI)), .c (I a1)] H (.c (B r)) := DCall.lift (by first | rfl | simp [List.map_take, List.map_drop, rvL, rvK, bwL, hfVs, hfV, hfL, hfAll, hfRows, mvV, mvL, mv0, sh0, mvO, mpE, mpV, mpVs, mpO, fzL, rnL, rn0, ok0, nzI, nzB, nzN, nzF, nzP, nzO, nzQ, nzC, shL, shV, shO, okV, okL, okO, List.take_of_length_le, h_I, hfRows_map h_I, ok_eI, okR_eI, fx_eI, fxR_eI, h_L_I, hfRows_map h_L_I, ok_eL_I, okR_eL_I, fx_eL_I, fxR_eL_I, -List.map_set]) (by first | rfl | simp [List.map_take, List.map_drop, rvL, rvK, bwL, hfVs, hfV, hfL, hfAll, hfRows, mvV, mvL, mv0, sh0, mvO, mpE, mpV, mpVs, mpO, fzL, rnL, rn0, ok0, nzI, nzB, nzN, nzF, nzP, nzO, nzQ, nzC, shL, shV, shO, okV, okL, okO, List.take_of_length_le, h_I, hfRows_map h_I, ok_eI, okR_eI, fx_eI, fxR_eI, h_L_I, hfRows_map h_L_I, ok_eL_I, okR_eL_I, fx_eL_I, fxR_eL_I, -List.map_set]) (fun _ => by simp [List.map_take, List.map_drop, rvL, rvK, bwL, hfVs, hfV, hfL, hfAll, hfRows, mvV, mvL, mv0, sh0, mvO, mpE, mpV, mpVs, mpO, fzL, rnL, rn0, ok0, nzI, nzB, nzN, nzF, nzP, nzO, nzQ, nzC, shL, shV, shO, okV, okL, okO, List.take_of_length_le, h_I, hfRows_map h_I, ok_eI, okR_eI, fx_eI, fxR_eI, h_L_I, hfRows_map h_L_I, ok_eL_I, okR_eL_I, fx_eL_I, fxR_eL_I, -List.map_set]) (w_narthexlaw01_SetOf N a0 a1 r h) H
-- narthex/narthexref01.Union
theorem w_narthexref01_Union (N : Nat) (a0 : List Int) (a1 : List Int) (r : (List Int)) (h : narthexref01_Union N a0 a1 = some r) : Nx.Call Try.prog 21 [.c (.slv (a0.map eI)), .c (.slv (a1.map eI))] [] fun r' _ => r' = .c (.slv (r.map eI)) := by
  refine Nx.Call.of_body Try.func21 rfl en21 Try.ntmps21 rfl (fun Γ hok => ?_)
  unfold narthexref01_Union at h
  refine Wp.seq ?_
  refine Wp.text [0, 1] rfl rfl ?_ -- region 0
  refine TextR.assign rfl ?_
  refine TextR.done (.cons rfl (.cons rfl .nil)) ?_
  refine Wp.seq ?_
  obtain ⟨x1, hx1, h⟩ := bind_some h
  obtain ⟨x2, hx2, h⟩ := bind_some h
  obtain ⟨y3, hy3, h⟩ := bind_some h
  refine Wp.text [4] rfl rfl ?_ -- region 1
  refine TextR.buildSlice  0 se22 rfl rfl rfl .nil ?_
  refine TextR.move rfl ?_
  refine TextR.appendM eI ([] : List Int) a0 x1 (app_eq hx1) se22 rfl rfl rfl rfl (fun _ => rfl) rfl (app_len hx1) .zero ?_
  refine TextR.move rfl ?_
  refine TextR.appendM eI x1 a1 x2 (app_eq hx2) se22 rfl rfl rfl rfl (fun _ => rfl) rfl (app_len hx2) .zero ?_
  refine TextR.weak (keepW (F := ⟨Try.prog, 11, Γ⟩) (live := [0, 1, 5, 6, 7, 8, 9]) (.cons rfl (.cons rfl (.cons rfl (.cons rfl (.cons rfl (.cons rfl (.cons rfl .nil)))))))) ?_
  refine TextR.weak (freezeW (F := ⟨Try.prog, 11, Γ⟩) (h := 0) (ver := 2) (rows := x2.map eI) (e' := [(0, .c (.slv (a0.map eI))), (1, .c (.slv (a1.map eI))), (5, .c (.sl 0 0 0 (([] : List Int).length))), (6, .c (.slv (a0.map eI))), (7, .c (.sl 0 1 0 x1.length)), (8, .c (.slv (a1.map eI))), (9, .c (.slv (x2.map eI)))]) (H' := [.dead]) rfl (by first | rfl | simp [List.map_take, List.map_drop, rvL, rvK, bwL, hfVs, hfV, hfL, hfAll, hfRows, mvV, mvL, mv0, sh0, mvO, mpE, mpV, mpVs, mpO, fzL, rnL, rn0, ok0, nzI, nzB, nzN, nzF, nzP, nzO, nzQ, nzC, shL, shV, shO, okV, okL, okO, List.take_of_length_le, h_I, hfRows_map h_I, ok_eI, okR_eI, fx_eI, fxR_eI, h_L_I, hfRows_map h_L_I, ok_eL_I, okR_eL_I, fx_eL_I, fxR_eL_I, -List.map_set]) (by first | rfl | simp [List.map_take, List.map_drop, rvL, rvK, bwL, hfVs, hfV, hfL, hfAll, hfRows, mvV, mvL, mv0, sh0, mvO, mpE, mpV, mpVs, mpO, fzL, rnL, rn0, ok0, nzI, nzB, nzN, nzF, nzP, nzO, nzQ, nzC, shL, shV, shO, okV, okL, okO, List.take_of_length_le, h_I, hfRows_map h_I, ok_eI, okR_eI, fx_eI, fxR_eI, h_L_I, hfRows_map h_L_I, ok_eL_I, okR_eL_I, fx_eL_I, fxR_eL_I, -List.map_set])) ?_
  refine TextR.dcall rfl rfl (c_narthexref01_Of N x2 y3 hy3 _) ?_
  refine TextR.assign rfl ?_
  refine TextR.done (.cons rfl .nil) ?_
  refine Wp.ret ?_
  obtain rfl := Option.some.inj h
  exact Ret.one rfl (resV_tmp rfl) rfl
theorem c_narthexref01_Union (N : Nat) (a0 : List Int) (a1 : List Int) (r : (List Int)) (h : narthexref01_Union N a0 a1 = some r) (H : List Ob) : DCall Try.prog 21 [.c (.slv (a0.map eI)), .c (.slv (a1.map eI))] H (.c (.slv (r.map eI))) := DCall.lift (by first | rfl | simp [List.map_take, List.map_drop, rvL, rvK, bwL, hfVs, hfV, hfL, hfAll, hfRows, mvV, mvL, mv0, sh0, mvO, mpE, mpV, mpVs, mpO, fzL, rnL, rn0, ok0, nzI, nzB, nzN, nzF, nzP, nzO, nzQ, nzC, shL, shV, shO, okV, okL, okO, List.take_of_length_le, h_I, hfRows_map h_I, ok_eI, okR_eI, fx_eI, fxR_eI, h_L_I, hfRows_map h_L_I, ok_eL_I, okR_eL_I, fx_eL_I, fxR_eL_I, -List.map_set]) (by first | rfl | simp [List.map_take, List.map_drop, rvL, rvK, bwL, hfVs, hfV, hfL, hfAll, hfRows, mvV, mvL, mv0, sh0, mvO, mpE, mpV, mpVs, mpO, fzL, rnL, rn0, ok0, nzI, nzB, nzN, nzF, nzP, nzO, nzQ, nzC, shL, shV, shO, okV, okL, okO, List.take_of_length_le, h_I, hfRows_map h_I, ok_eI, okR_eI, fx_eI, fxR_eI, h_L_I, hfRows_map h_L_I, ok_eL_I, okR_eL_I, fx_eL_I, fxR_eL_I, -List.map_set]) (fun _ => by simp [List.map_take, List.map_drop, rvL, rvK, bwL, hfVs, hfV, hfL, hfAll, hfRows, mvV, mvL, mv0, sh0, mvO, mpE, mpV, mpVs, mpO, fzL, rnL, rn0, ok0, nzI, nzB, nzN, nzF, nzP, nzO, nzQ, nzC, shL, shV, shO, okV, okL, okO, List.take_of_length_le, h_I, hfRows_map h_I, ok_eI, okR_eI, fx_eI, fxR_eI, h_L_I, hfRows_map h_L_I, ok_eL_I, okR_eL_I, fx_eL_I, fxR_eL_I, -List.map_set]) (w_narthexref01_Union N a0 a1 r h) H
-- narthex/narthexref01.Pick
theorem w_narthexref01_Pick (N : Nat) (a0 : List Int) (a1 : List Int) (a2 : Bool) (r : (List Int)) (h : narthexref01_Pick N a0 a1 a2 = some r) : Nx.Call Try.prog 23 [.c (.slv (a0.map eI)), .c (.slv (a1.map eI)), .c (B a2)] [] fun r' _ => r' = .c (.slv (r.map eI)) := by
  refine Nx.Call.of_body Try.func23 rfl en23 Try.ntmps23 rfl (fun Γ hok => ?_)
  unfold narthexref01_Pick at h
  refine Wp.seq ?_
  refine Wp.text [0, 1, 2] rfl rfl ?_ -- region 0
  refine TextR.assign rfl ?_
  refine TextR.done (.cons rfl (.cons rfl (.cons rfl .nil))) ?_
  refine Wp.seq ?_
  refine Wp.text [0, 1, 2, 7] rfl rfl ?_ -- region 1
  refine TextR.buildSlice  0 se22 rfl rfl rfl .nil ?_
  refine TextR.assign rfl ?_
  refine TextR.done (.cons rfl (.cons rfl (.cons rfl (.cons rfl .nil)))) ?_
  refine Wp.seq ?_
  refine Wp.seq ?_
  refine Wp.text [0, 1, 2, 7, 8] rfl rfl ?_ -- region 2
  refine TextR.assign rfl ?_
  refine TextR.done (.cons rfl (.cons rfl (.cons rfl (.cons rfl (.cons rfl .nil))))) ?_
  obtain ⟨z1, hz1, h⟩ := bind_some h
  refine Wp.fragN (fun S => ∃ wz1_0, ∃ S', St.Weak ⟨Try.prog, 33, Γ⟩ S S' ∧ S' = ⟨[(7, .c (.sl 0 wz1_0 0 z1.length))], [.live wz1_0 1 (z1.map eI)]⟩) ?_ ?_
  · replace h := hz1
    refine Wp.block ?_
    refine Wp.weak (keepW (live := [0, 1, 2, 7, 8]) (.cons rfl (.cons rfl (.cons rfl (.cons rfl (.cons rfl .nil)))))) ?_
    refine Wp.loop (fun m S => ∃ l0_1, ∃ s8_1, ∃ wh0_1, narthexref01_Pick_L1 N a0 a1 a2 m l0_1 s8_1 = some z1 ∧ S = ⟨[(0, .c (.slv (a0.map eI))), (1, .c (.slv (a1.map eI))), (2, .c (B a2)), (7, .c (.sl 0 wh0_1 0 l0_1.length)), (8, .c (I s8_1))], [.live wh0_1 1 (l0_1.map eI)]⟩) N ⟨_, _, _, h, rfl⟩ ?_
    rintro m1 _ ⟨l0_1, s8_1, wh0_1, h, rfl⟩
    cases m1 with
    | zero => rw [narthexref01_Pick_L1.eq_1] at h; cases h
    | succ m1 =>
    rw [narthexref01_Pick_L1.eq_2] at h
    refine Wp.seq ?_
    refine Wp.seq ?_
    refine Wp.text [0, 1, 2, 7, 8, 13] rfl rfl ?_ -- region 3
    refine TextR.move rfl ?_
    refine TextR.move rfl ?_
    refine TextR.lenM us22 rfl rfl ?_
    refine TextR.int rfl rfl rfl ?_
    refine TextR.done (.cons rfl (.cons rfl (.cons rfl (.cons rfl (.cons rfl (.cons rfl .nil)))))) ?_
    refine Wp.condM h rfl (fun hc2 h => ?_) (fun hc2 h => ?_)
    · refine Wp.skip ?_
      refine Wp.seq ?_
      refine Wp.block ?_
      refine Wp.seq ?_
      obtain ⟨x2, hx2, h⟩ := bind_some h
      obtain ⟨y3, hy3, h⟩ := bind_some h
      refine Wp.text [0, 1, 2, 7, 8, 23] rfl rfl ?_ -- region 5
      refine TextR.move rfl ?_
      refine TextR.move rfl ?_
      refine TextR.move rfl ?_
      refine TextR.indexA se22 rfl rfl rfl hx2 rfl ?_
      refine TextR.load1M tk3 rfl (at_get hx2) rfl ?_
      refine TextR.dcall rfl rfl (c_narthexref01_Has N a1 x2 y3 hy3 _) ?_
      refine TextR.move rfl ?_
      refine TextR.eqBool (by kernel_rfl) rfl rfl ?_
      refine TextR.done (.cons rfl (.cons rfl (.cons rfl (.cons rfl (.cons rfl (.cons rfl .nil)))))) ?_
      refine Wp.condM h rfl (fun hc3 h => ?_) (fun hc3 h => ?_)
      · obtain ⟨x4, hx4, h⟩ := bind_some h
        obtain ⟨x5, hx5, h⟩ := bind_some h
        refine Wp.text [0, 1, 2, 7, 8] rfl rfl ?_ -- region 6
        refine TextR.move rfl ?_
        refine TextR.move rfl ?_
        refine TextR.move rfl ?_
        refine TextR.indexA se22 rfl rfl rfl hx4 rfl ?_
        refine TextR.load1M tk3 rfl (at_get hx4) rfl ?_
        refine TextR.buildSlice (rows := [x4].map eI) 1 se22 rfl rfl rfl (.cons .nil) ?_
        refine TextR.appendM eI l0_1 [x4] x5 (app_eq hx5) se22 rfl (obj_of rfl) rfl (view_whole (f := eI) (xs := [x4]) rfl) (fun _ => rfl) rfl (app_len hx5) .zero ?_
        refine TextR.assign rfl ?_
        refine TextR.done (.cons rfl (.cons rfl (.cons rfl (.cons rfl (.cons rfl .nil))))) ?_
        refine Wp.text [0, 1, 2, 7, 8] rfl rfl ?_ -- region 4
        refine TextR.move rfl ?_
        refine TextR.int rfl rfl rfl ?_
        refine TextR.assign rfl ?_
        refine TextR.done (.cons rfl (.cons rfl (.cons rfl (.cons rfl (.cons rfl .nil))))) ?_
        exact ⟨m1, Nat.lt_succ_self _, _, (St.Weak.trans (keepW (live := [0, 1, 2, 7, 8]) (.cons rfl (.cons rfl (.cons rfl (.cons rfl (.cons rfl .nil)))))) (pickT (e' := [(0, .c (.slv (a0.map eI))), (1, .c (.slv (a1.map eI))), (2, .c (B a2)), (7, .c (.sl 0 (wh0_1 + 1) 0 x5.length)), (8, .c (I (w64 (s8_1 + 1))))]) (H' := [.live (wh0_1 + 1) 1 (x5.map eI)]) [0] [0, 0] 0 hok.len.symm rfl rfl (by decide) (by first | rfl | simp [List.map_take, List.map_drop, rvL, rvK, bwL, hfVs, hfV, hfL, hfAll, hfRows, mvV, mvL, mv0, sh0, mvO, mpE, mpV, mpVs, mpO, fzL, rnL, rn0, ok0, nzI, nzB, nzN, nzF, nzP, nzO, nzQ, nzC, shL, shV, shO, okV, okL, okO, List.take_of_length_le, h_I, hfRows_map h_I, ok_eI, okR_eI, fx_eI, fxR_eI, h_L_I, hfRows_map h_L_I, ok_eL_I, okR_eL_I, fx_eL_I, fxR_eL_I, -List.map_set]) (by first | rfl | simp [List.map_take, List.map_drop, rvL, rvK, bwL, hfVs, hfV, hfL, hfAll, hfRows, mvV, mvL, mv0, sh0, mvO, mpE, mpV, mpVs, mpO, fzL, rnL, rn0, ok0, nzI, nzB, nzN, nzF, nzP, nzO, nzQ, nzC, shL, shV, shO, okV, okL, okO, List.take_of_length_le, h_I, hfRows_map h_I, ok_eI, okR_eI, fx_eI, fxR_eI, h_L_I, hfRows_map h_L_I, ok_eL_I, okR_eL_I, fx_eL_I, fxR_eL_I, -List.map_set]) (by first | rfl | simp [List.map_take, List.map_drop, rvL, rvK, bwL, hfVs, hfV, hfL, hfAll, hfRows, mvV, mvL, mv0, sh0, mvO, mpE, mpV, mpVs, mpO, fzL, rnL, rn0, ok0, nzI, nzB, nzN, nzF, nzP, nzO, nzQ, nzC, shL, shV, shO, okV, okL, okO, List.take_of_length_le, h_I, hfRows_map h_I, ok_eI, okR_eI, fx_eI, fxR_eI, h_L_I, hfRows_map h_L_I, ok_eL_I, okR_eL_I, fx_eL_I, fxR_eL_I, -List.map_set]) (by first | rfl | simp [List.map_take, List.map_drop, rvL, rvK, bwL, hfVs, hfV, hfL, hfAll, hfRows, mvV, mvL, mv0, sh0, mvO, mpE, mpV, mpVs, mpO, fzL, rnL, rn0, ok0, nzI, nzB, nzN, nzF, nzP, nzO, nzQ, nzC, shL, shV, shO, okV, okL, okO, List.take_of_length_le, h_I, hfRows_map h_I, ok_eI, okR_eI, fx_eI, fxR_eI, h_L_I, hfRows_map h_L_I, ok_eL_I, okR_eL_I, fx_eL_I, fxR_eL_I, -List.map_set]))), _, _, _, h, rfl⟩
      · refine Wp.skip ?_
        refine Wp.text [0, 1, 2, 7, 8] rfl rfl ?_ -- region 4
        refine TextR.move rfl ?_
        refine TextR.int rfl rfl rfl ?_
        refine TextR.assign rfl ?_
        refine TextR.done (.cons rfl (.cons rfl (.cons rfl (.cons rfl (.cons rfl .nil))))) ?_
        exact ⟨m1, Nat.lt_succ_self _, _, (keepW (live := [0, 1, 2, 7, 8]) (.cons rfl (.cons rfl (.cons rfl (.cons rfl (.cons rfl .nil)))))), _, _, _, h, rfl⟩
    · refine Wp.exit ?_
      obtain rfl := Option.some.inj h
      exact ⟨_, _, (keepW (live := [7]) (.cons rfl .nil)), rfl⟩
  rintro _ ⟨wz1_0, S', hw, rfl⟩
  clear hz1
  refine Wp.weak hw ?_
  refine Wp.seq ?_
  refine Wp.weak (freezeW (h := 0) (ver := wz1_0) (rows := z1.map eI) (e' := [(7, .c (.slv (z1.map eI)))]) (H' := [.dead]) (obj_of rfl) (by first | rfl | simp [List.map_take, List.map_drop, rvL, rvK, bwL, hfVs, hfV, hfL, hfAll, hfRows, mvV, mvL, mv0, sh0, mvO, mpE, mpV, mpVs, mpO, fzL, rnL, rn0, ok0, nzI, nzB, nzN, nzF, nzP, nzO, nzQ, nzC, shL, shV, shO, okV, okL, okO, List.take_of_length_le, h_I, hfRows_map h_I, ok_eI, okR_eI, fx_eI, fxR_eI, h_L_I, hfRows_map h_L_I, ok_eL_I, okR_eL_I, fx_eL_I, fxR_eL_I, -List.map_set]) (by first | rfl | simp [List.map_take, List.map_drop, rvL, rvK, bwL, hfVs, hfV, hfL, hfAll, hfRows, mvV, mvL, mv0, sh0, mvO, mpE, mpV, mpVs, mpO, fzL, rnL, rn0, ok0, nzI, nzB, nzN, nzF, nzP, nzO, nzQ, nzC, shL, shV, shO, okV, okL, okO, List.take_of_length_le, h_I, hfRows_map h_I, ok_eI, okR_eI, fx_eI, fxR_eI, h_L_I, hfRows_map h_L_I, ok_eL_I, okR_eL_I, fx_eL_I, fxR_eL_I, -List.map_set])) ?_
  obtain ⟨y6, hy6, h⟩ := bind_some h
  refine Wp.text [6] rfl rfl ?_ -- region 7
  refine TextR.move rfl ?_
  refine TextR.dcall rfl rfl (c_narthexref01_Of N z1 y6 hy6 _) ?_
  refine TextR.assign rfl ?_
  refine TextR.done (.cons rfl .nil) ?_
  refine Wp.ret ?_
  obtain rfl := Option.some.inj h
  exact Ret.one rfl (resV_tmp rfl) rfl
theorem c_narthexref01_Pick (N : Nat) (a0 : List Int) (a1 : List Int) (a2 : Bool) (r : (List Int)) (h : narthexref01_Pick N a0 a1 a2 = some r) (H : List Ob) : DCall Try.prog 23 [.c (.slv (a0.map eI)), .c (.slv (a1.map eI)), .c (B a2)] H (.c (.slv (r.map eI))) := DCall.lift (by first | rfl | simp [List.map_take, List.map_drop, rvL, rvK, bwL, hfVs, hfV, hfL, hfAll, hfRows, mvV, mvL, mv0, sh0, mvO, mpE, mpV, mpVs, mpO, fzL, rnL, rn0, ok0, nzI, nzB, nzN, nzF, nzP, nzO, nzQ, nzC, shL, shV, shO, okV, okL, okO, List.take_of_length_le, h_I, hfRows_map h_I, ok_eI, okR_eI, fx_eI, fxR_eI, h_L_I, hfRows_map h_L_I, ok_eL_I, okR_eL_I, fx_eL_I, fxR_eL_I, -List.map_set]) (by first | rfl | simp [List.map_take, List.map_drop, rvL, rvK, bwL, hfVs, hfV, hfL, hfAll, hfRows, mvV, mvL, mv0, sh0, mvO, mpE, mpV, mpVs, mpO, fzL, rnL, rn0, ok0, nzI, nzB, nzN, nzF, nzP, nzO, nzQ, nzC, shL, shV, shO, okV, okL, okO, List.take_of_length_le, h_I, hfRows_map h_I, ok_eI, okR_eI, fx_eI, fxR_eI, h_L_I, hfRows_map h_L_I, ok_eL_I, okR_eL_I, fx_eL_I, fxR_eL_I, -List.map_set]) (fun _ => by simp [List.map_take, List.map_drop, rvL, rvK, bwL, hfVs, hfV, hfL, hfAll, hfRows, mvV, mvL, mv0, sh0, mvO, mpE, mpV, mpVs, mpO, fzL, rnL, rn0, ok0, nzI, nzB, nzN, nzF, nzP, nzO, nzQ, nzC, shL, shV, shO, okV, okL, okO, List.take_of_length_le, h_I, hfRows_map h_I, ok_eI, okR_eI, fx_eI, fxR_eI, h_L_I, hfRows_map h_L_I, ok_eL_I, okR_eL_I, fx_eL_I, fxR_eL_I, -List.map_set]) (w_narthexref01_Pick N a0 a1 a2 r h) H
-- narthex/narthexlaw01.SetJoins
theorem w_narthexlaw01_SetJoins (N : Nat) (a0 : List Int) (a1 : List Int) (a2 : Int) (r : Bool) (h : narthexlaw01_SetJoins N a0 a1 a2 = some r) : Nx.Call Try.prog 4 [.c (.slv (a0.map eI)), .c (.slv (a1.map eI)), .c (I a2)] [] fun r' _ => r' = .c (B r) := by
  refine Nx.Call.of_body Try.func4 rfl en4 Try.ntmps4 rfl (fun Γ hok => ?_)
  unfold narthexlaw01_SetJoins at h
  refine Wp.seq ?_
  refine Wp.text [0, 1, 2] rfl rfl ?_ -- region 0
  refine TextR.assign rfl ?_
  refine TextR.done (.cons rfl (.cons rfl (.cons rfl .nil))) ?_
  refine Wp.seq ?_
  refine Wp.seq ?_
  obtain ⟨y1, hy1, h⟩ := bind_some h
  refine Wp.go false none [[], [], [], [(10, false)], [(10, false)], [(10, false)], [], [], [(15, false)], [(15, false)], [(15, false)], []] [] [0, 1, 2, 19] mixed rfl rfl (by kernel_rfl) ?_ -- region 1
  refine RunR.call rfl rfl rfl (fun H => c_narthexlaw01_awake N y1 hy1 H) ?_
  refine RunR.not rfl rfl rfl ?_
  refine RunR.move rfl rfl rfl ?_
  refine RunR.move rfl rfl rfl ?_
  refine RunR.lenM us22 rfl rfl rfl rfl ?_
  refine RunR.int rfl rfl rfl rfl rfl ?_
  refine RunR.pickOr rfl rfl rfl rfl ?_
  refine RunR.move rfl rfl rfl ?_
  refine RunR.move rfl rfl rfl ?_
  refine RunR.lenM us22 rfl rfl rfl rfl ?_
  refine RunR.int rfl rfl rfl rfl rfl ?_
  refine RunR.pickOr rfl rfl rfl rfl ?_
  refine RunR.doneQ (.cons rfl (.cons rfl (.cons rfl (.cons rfl .nil)))) ?_
  refine Wp.condM h rfl (fun hc1 h => ?_) (fun hc1 h => ?_)
  · refine Wp.seq ?_
    obtain ⟨y2, hy2, h⟩ := bind_some h
    refine Wp.text [6] rfl rfl ?_ -- region 2
    refine TextR.dcall rfl rfl (c_narthexlaw01_awake N y2 hy2 _) ?_
    refine TextR.assign rfl ?_
    refine TextR.done (.cons rfl .nil) ?_
    refine Wp.ret ?_
    obtain rfl := Option.some.inj h
    exact Ret.one rfl (resV_tmp rfl) rfl
  · refine Wp.skip ?_
    refine Wp.seq ?_
    refine Wp.text [0, 1, 2, 7] rfl rfl ?_ -- region 3
    refine TextR.move rfl ?_
    refine TextR.buildSlice (rows := [a2].map eI) 0 se22 rfl rfl rfl .nil ?_
    refine TextR.assign rfl ?_
    refine TextR.done (.cons rfl (.cons rfl (.cons rfl (.cons rfl .nil)))) ?_
    refine Wp.seq ?_
    refine Wp.weak (freezeW (h := 0) (ver := 0) (rows := [a2].map eI) (e' := [(0, .c (.slv (a0.map eI))), (1, .c (.slv (a1.map eI))), (2, .c (I a2)), (7, .c (.slv ([a2].map eI)))]) (H' := [.dead]) rfl (by first | rfl | simp [List.map_take, List.map_drop, rvL, rvK, bwL, hfVs, hfV, hfL, hfAll, hfRows, mvV, mvL, mv0, sh0, mvO, mpE, mpV, mpVs, mpO, fzL, rnL, rn0, ok0, nzI, nzB, nzN, nzF, nzP, nzO, nzQ, nzC, shL, shV, shO, okV, okL, okO, List.take_of_length_le, h_I, hfRows_map h_I, ok_eI, okR_eI, fx_eI, fxR_eI, h_L_I, hfRows_map h_L_I, ok_eL_I, okR_eL_I, fx_eL_I, fxR_eL_I, -List.map_set]) (by first | rfl | simp [List.map_take, List.map_drop, rvL, rvK, bwL, hfVs, hfV, hfL, hfAll, hfRows, mvV, mvL, mv0, sh0, mvO, mpE, mpV, mpVs, mpO, fzL, rnL, rn0, ok0, nzI, nzB, nzN, nzF, nzP, nzO, nzQ, nzC, shL, shV, shO, okV, okL, okO, List.take_of_length_le, h_I, hfRows_map h_I, ok_eI, okR_eI, fx_eI, fxR_eI, h_L_I, hfRows_map h_L_I, ok_eL_I, okR_eL_I, fx_eL_I, fxR_eL_I, -List.map_set])) ?_
    obtain ⟨y3, hy3, h⟩ := bind_some h
    obtain ⟨y4, hy4, h⟩ := bind_some h
    obtain ⟨y5, hy5, h⟩ := bind_some h
    obtain ⟨y6, hy6, h⟩ := bind_some h
    obtain ⟨y7, hy7, h⟩ := bind_some h
    obtain ⟨y8, hy8, h⟩ := bind_some h
    obtain ⟨y9, hy9, h⟩ := bind_some h
    obtain ⟨y10, hy10, h⟩ := bind_some h
    obtain ⟨y11, hy11, h⟩ := bind_some h
    obtain ⟨y12, hy12, h⟩ := bind_some h
    obtain ⟨y13, hy13, h⟩ := bind_some h
    obtain ⟨y14, hy14, h⟩ := bind_some h
    obtain ⟨y15, hy15, h⟩ := bind_some h
    obtain ⟨y16, hy16, h⟩ := bind_some h
    obtain ⟨y17, hy17, h⟩ := bind_some h
    obtain ⟨y18, hy18, h⟩ := bind_some h
    obtain ⟨y19, hy19, h⟩ := bind_some h
    obtain ⟨y20, hy20, h⟩ := bind_some h
    obtain ⟨y21, hy21, h⟩ := bind_some h
    obtain ⟨y22, hy22, h⟩ := bind_some h
    obtain ⟨y23, hy23, h⟩ := bind_some h
    obtain ⟨y24, hy24, h⟩ := bind_some h
    obtain ⟨y25, hy25, h⟩ := bind_some h
    obtain ⟨y26, hy26, h⟩ := bind_some h
    obtain ⟨y27, hy27, h⟩ := bind_some h
    obtain ⟨y28, hy28, h⟩ := bind_some h
    obtain ⟨y29, hy29, h⟩ := bind_some h
    refine Wp.go false none [[], [], [], [], [], [], [], [], [], [(31, true)], [(31, true)], [(31, true)], [(31, true)], [(31, true)], [(31, true)], [(31, true)], [(31, true)], [], [], [(41, true)], [(41, true)], [(41, true)], [(41, true)], [(41, true)], [(41, true)], [(41, true)], [(41, true)], [(41, true)], [], [], [(52, true)], [(52, true)], [(52, true)], [(52, true)], [(52, true)], [(52, true)], [(52, true)], [(52, true)], [(52, true)], [], [], [(63, true)], [(63, true)], [(63, true)], [(63, true)], [(63, true)], [(63, true)], [(63, true)], [(63, true)], [(63, true)], [], [], [(74, true)], [(74, true)], [(74, true)], [(74, true)], [(74, true)], [(74, true)], [(74, true)], [(74, true)], [(74, true)], [(74, true)], [(74, true)], [], []] [] [6] mixed rfl rfl (by kernel_rfl) ?_ -- region 4
    refine RunR.move rfl rfl rfl ?_
    refine RunR.call rfl rfl rfl (fun H => c_narthexlaw01_own N a0 y3 hy3 H) ?_
    refine RunR.move rfl rfl rfl ?_
    refine RunR.call rfl rfl rfl (fun H => c_set_Add N y3 a2 y4 hy4 H) ?_
    refine RunR.move rfl rfl rfl ?_
    refine RunR.move rfl rfl rfl ?_
    refine RunR.call rfl rfl rfl (fun H => c_narthexref01_Union N a0 [a2] y5 hy5 H) ?_
    refine RunR.call rfl rfl rfl (fun H => c_narthexref01_Same N y4 y5 y6 hy6 H) ?_
    refine RunR.move rfl rfl rfl ?_
    refine RunR.move rfl rfl rfl ?_
    refine RunR.callG rfl rfl rfl (fun hb H => c_narthexlaw01_own N a0 y7 (ifT hy7 gT hb) H) ?_
    refine RunR.move rfl rfl rfl ?_
    refine RunR.callG rfl rfl rfl (fun hb H => c_set_Del N y7 a2 y8 (ifT hy8 gT hb) H) ?_
    refine RunR.move rfl rfl rfl ?_
    refine RunR.move rfl rfl rfl ?_
    refine RunR.callG rfl rfl rfl (fun hb H => c_narthexref01_Pick N a0 [a2] false y9 (ifT hy9 gT hb) H) ?_
    refine RunR.callG rfl rfl rfl (fun hb H => c_narthexref01_Same N y8 y9 y10 (ifT hy10 gT hb) H) ?_
    refine RunR.pickAnd rfl rfl rfl rfl ?_
    refine RunR.move rfl rfl rfl ?_
    refine RunR.move rfl rfl rfl ?_
    refine RunR.callG rfl rfl rfl (fun hb H => c_narthexlaw01_own N a0 y11 (ifT hy11 gT hb) H) ?_
    refine RunR.move rfl rfl rfl ?_
    refine RunR.callG rfl rfl rfl (fun hb H => c_narthexlaw01_own N a1 y12 (ifT hy12 gT hb) H) ?_
    refine RunR.callG rfl rfl rfl (fun hb H => c_set_Union N y11 y12 y13 (ifT hy13 gT hb) H) ?_
    refine RunR.move rfl rfl rfl ?_
    refine RunR.move rfl rfl rfl ?_
    refine RunR.callG rfl rfl rfl (fun hb H => c_narthexref01_Union N a0 a1 y14 (ifT hy14 gT hb) H) ?_
    refine RunR.callG rfl rfl rfl (fun hb H => c_narthexref01_Same N y13 y14 y15 (ifT hy15 gT hb) H) ?_
    refine RunR.pickAnd rfl rfl rfl rfl ?_
    refine RunR.move rfl rfl rfl ?_
    refine RunR.move rfl rfl rfl ?_
    refine RunR.callG rfl rfl rfl (fun hb H => c_narthexlaw01_own N a0 y16 (ifT hy16 gT hb) H) ?_
    refine RunR.move rfl rfl rfl ?_
    refine RunR.callG rfl rfl rfl (fun hb H => c_narthexlaw01_own N a1 y17 (ifT hy17 gT hb) H) ?_
    refine RunR.callG rfl rfl rfl (fun hb H => c_set_Both N y16 y17 y18 (ifT hy18 gT hb) H) ?_
    refine RunR.move rfl rfl rfl ?_
    refine RunR.move rfl rfl rfl ?_
    refine RunR.callG rfl rfl rfl (fun hb H => c_narthexref01_Pick N a0 a1 true y19 (ifT hy19 gT hb) H) ?_
    refine RunR.callG rfl rfl rfl (fun hb H => c_narthexref01_Same N y18 y19 y20 (ifT hy20 gT hb) H) ?_
    refine RunR.pickAnd rfl rfl rfl rfl ?_
    refine RunR.move rfl rfl rfl ?_
    refine RunR.move rfl rfl rfl ?_
    refine RunR.callG rfl rfl rfl (fun hb H => c_narthexlaw01_own N a0 y21 (ifT hy21 gT hb) H) ?_
    refine RunR.move rfl rfl rfl ?_
    refine RunR.callG rfl rfl rfl (fun hb H => c_narthexlaw01_own N a1 y22 (ifT hy22 gT hb) H) ?_
    refine RunR.callG rfl rfl rfl (fun hb H => c_set_Minus N y21 y22 y23 (ifT hy23 gT hb) H) ?_
    refine RunR.move rfl rfl rfl ?_
    refine RunR.move rfl rfl rfl ?_
    refine RunR.callG rfl rfl rfl (fun hb H => c_narthexref01_Pick N a0 a1 false y24 (ifT hy24 gT hb) H) ?_
    refine RunR.callG rfl rfl rfl (fun hb H => c_narthexref01_Same N y23 y24 y25 (ifT hy25 gT hb) H) ?_
    refine RunR.pickAnd rfl rfl rfl rfl ?_
    refine RunR.move rfl rfl rfl ?_
    refine RunR.move rfl rfl rfl ?_
    refine RunR.callG rfl rfl rfl (fun hb H => c_narthexlaw01_own N a0 y26 (ifT hy26 gT hb) H) ?_
    refine RunR.move rfl rfl rfl ?_
    refine RunR.callG rfl rfl rfl (fun hb H => c_narthexlaw01_own N a1 y27 (ifT hy27 gT hb) H) ?_
    refine RunR.callG rfl rfl rfl (fun hb H => c_set_Within N y26 y27 y28 (ifT hy28 gT hb) H) ?_
    refine RunR.move rfl rfl rfl ?_
    refine RunR.move rfl rfl rfl ?_
    refine RunR.callG rfl rfl rfl (fun hb H => c_narthexref01_Pick N a0 a1 false y29 (ifT hy29 gT hb) H) ?_
    refine RunR.lenM us22 rfl rfl rfl rfl ?_
    refine RunR.int rfl rfl rfl rfl rfl ?_
    refine RunR.eqBool (by kernel_rfl) rfl rfl rfl rfl ?_
    refine RunR.pickAnd rfl rfl rfl rfl ?_
    refine RunR.assign rfl rfl rfl ?_
    refine RunR.doneQ (.cons rfl .nil) ?_
    refine Wp.ret ?_
    obtain rfl := Option.some.inj h
    exact Ret.one rfl (resV_tmp rfl) rfl
theorem c_narthexlaw01_SetJoins (N : Nat) (a0 : List Int) (a1 : List Int) (a2 : Int) (r : Bool) (h : narthexlaw01_SetJoins N a0 a1 a2 = some r) (H : List Ob) : DCall Try.prog 4 [.c (.slv (a0.map eI)), .c (.slv (a1.map eI)), .c (I a2)] H (.c (B r)) := DCall.lift (by first | rfl | simp [List.map_take, List.map_drop, rvL, rvK, bwL, hfVs, hfV, hfL, hfAll, hfRows, mvV, mvL, mv0, sh0, mvO, mpE, mpV, mpVs, mpO, fzL, rnL, rn0, ok0, nzI, nzB, nzN, nzF, nzP, nzO, nzQ, nzC, shL, shV, shO, okV, okL, okO, List.take_of_length_le, h_I, hfRows_map h_I, ok_eI, okR_eI, fx_eI, fxR_eI, h_L_I, hfRows_map h_L_I, ok_eL_I, okR_eL_I, fx_eL_I, fxR_eL_I, -List.map_set]) (by first | rfl | simp [List.map_take, List.map_drop, rvL, rvK, bwL, hfVs, hfV, hfL, hfAll, hfRows, mvV, mvL, mv0, sh0, mvO, mpE, mpV, mpVs, mpO, fzL, rnL, rn0, ok0, nzI, nzB, nzN, nzF, nzP, nzO, nzQ, nzC, shL, shV, shO, okV, okL, okO, List.take_of_length_le, h_I, hfRows_map h_I, ok_eI, okR_eI, fx_eI, fxR_eI, h_L_I, hfRows_map h_L_I, ok_eL_I, okR_eL_I, fx_eL_I, fxR_eL_I, -List.map_set]) (fun _ => by simp [List.map_take, List.map_drop, rvL, rvK, bwL, hfVs, hfV, hfL, hfAll, hfRows, mvV, mvL, mv0, sh0, mvO, mpE, mpV, mpVs, mpO, fzL, rnL, rn0, ok0, nzI, nzB, nzN, nzF, nzP, nzO, nzQ, nzC, shL, shV, shO, okV, okL, okO, List.take_of_length_le, h_I, hfRows_map h_I, ok_eI, okR_eI, fx_eI, fxR_eI, h_L_I, hfRows_map h_L_I, ok_eL_I, okR_eL_I, fx_eL_I, fxR_eL_I, -List.map_set]) (w_narthexlaw01_SetJoins N a0 a1 a2 r h) H
end Go.Proofs.Ytlbopfkhnebegaa
