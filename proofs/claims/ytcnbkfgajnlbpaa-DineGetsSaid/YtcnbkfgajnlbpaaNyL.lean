/- Data's rows stay as they are under every renaming; a call's own array frozen. -/
import Derived.Test.YtcnbkfgajnlbpaaNyK
namespace Go.Nx
set_option linter.unusedVariables false
set_option linter.unusedSimpArgs false

class Fix (g : Leaf → Leaf) : Prop where
  int : ∀ k n, g (.v (.int k n)) = .v (.int k n)
  bool : ∀ b, g (.v (.bool b)) = .v (.bool b)
  slv : ∀ r, g (.slv r) = .slv r
instance fix_fz {h ver : Nat} {rows : List (List Leaf)} : Fix (fzL h ver rows) := ⟨fun _ _ => rfl, fun _ => rfl, fun _ => rfl⟩
instance fix_sh {n : Nat} : Fix (shL n) := ⟨fun _ _ => rfl, fun _ => rfl, fun _ => rfl⟩
instance fix_rn {τ : List Nat} : Fix (rnL τ) := ⟨fun _ _ => rfl, fun _ => rfl, fun _ => rfl⟩
instance fix_nz : Fix nzL := ⟨fun _ _ => rfl, fun _ => rfl, fun _ => rfl⟩
class Okp (p : Leaf → Bool) : Prop where
  int : ∀ k n, p (.v (.int k n)) = true
  bool : ∀ b, p (.v (.bool b)) = true
  slv : ∀ r, p (.slv r) = hfRows r
instance okp_hf : Okp hfL := ⟨fun _ _ => rfl, fun _ => rfl, fun _ => rfl⟩
instance okp_mv {m : Nat} : Okp (mvL m) := ⟨fun _ _ => rfl, fun _ => rfl, fun _ => rfl⟩
instance okp_ok {σ τ : List Nat} : Okp (okL σ τ) := ⟨fun _ _ => rfl, fun _ => rfl, fun _ => rfl⟩
instance okp_o0 {σ τ : List Nat} : Okp (ok0 σ τ) := ⟨fun _ _ => rfl, fun _ => rfl, fun _ => rfl⟩
theorem nzI {k : IntKind} {n : Int} : nzL (.v (.int k n)) = .v (.int k n) := rfl
theorem nzB {b : Bool} : nzL (.v (.bool b)) = .v (.bool b) := rfl
theorem nzN : nzL nilS = .slv [] := rfl
theorem nzF {r : List (List Leaf)} : nzL (.slv r) = .slv r := rfl
theorem nzP {h v i k : Nat} : nzL (.ptr h v i k) = .ptr h v i k := rfl
theorem nzO {h v i k : Nat} : nzL (.sl h v i k) = .sl h v i k := rfl
theorem nzQ {r : List (List Leaf)} {i k : Nat} : nzL (.fptr r i k) = .fptr r i k := rfl
theorem nzC {f : FuncId} {c : List Leaf} : nzL (.clo f c) = .clo f c := rfl
theorem fixRows {α : Type} {f : α → List Leaf} {g : Leaf → Leaf} (h : ∀ x, (f x).map g = f x) (xs : List α) : (xs.map f).map (fun r => r.map g) = xs.map f := by
  simp [h]
theorem okRows {α : Type} {f : α → List Leaf} {p : Leaf → Bool} (h : ∀ x, (f x).all p = true) (xs : List α) : ((xs.map f).all fun r => r.all p) = true := by
  simp only [List.all_map, List.all_eq_true]
  intro x _
  exact h x
theorem eqW {F : Fr} {S S' : St} (h : S = S') : St.Weak F S S' := by rw [h]; exact .refl
theorem gN {x c : Bool} : (x && c) = true → c = true := by cases x <;> simp

theorem pickT {F : Fr} {e e' : Env} {H H' : List Ob} (σ τ : List Nat) (n0 : Nat) (hn0 : F.Γ.hs.length = n0) (h0 : ((List.range n0).all fun h => σ[h]? == some h) = true) (hin : (σ.all fun h => Nat.blt h H.length) = true) (hnd : σ.Nodup)
    (he : (e.all fun p => okV σ τ p.2) = true) (hH : (σ.all fun h => okO σ τ (H.getD h .dead)) = true) (he' : mpE (rnL τ) e = e') (hH' : (σ.map fun h => mpO (rnL τ) (H.getD h .dead)) = H') : St.Weak F ⟨e, H⟩ ⟨e', H'⟩ := by
  subst he' hH'
  exact pickW σ τ n0 hn0 h0 hin hnd he hH
theorem nzT {F : Fr} {e e' : Env} {H H' : List Ob} (he' : mpE nzL e = e') (hH' : H.map (mpO nzL) = H') : St.Weak F ⟨e, H⟩ ⟨e', H'⟩ := by
  subst he' hH'
  exact nzW

theorem Call.frz {α : Type} {P : Program} {f : FuncId} {args : List AVal} {xs : List α} {g : α → List Leaf} {ver sz : Nat} (h : Nx.Call P f args [] fun r' H' => r' = .c (.sl 0 ver 0 xs.length) ∧ ∃ junk, H' = [.live ver sz (xs.map g)] ++ junk) :
    Nx.Call P f args [] fun r' _ => r' = .c (.slv (xs.map g)) := by
  refine ⟨h.1, fun Γ hok args' hc => (h.2 Γ hok args' hc).mono fun e w' he => ?_⟩
  obtain ⟨y, r', Γ', H', rfl, ⟨rfl, junk, rfl⟩, rfl, hext, hok', hcv⟩ := he
  obtain ⟨d, sz', Γ1, e1, e2, e3, e4⟩ := freeze_sat (N := 1) (Γ0 := Γ) (e := [(0, .c (.sl 0 ver 0 xs.length))]) (h := 0) (ver := ver) (z := sz) (rows := xs.map g) (a := { tmps := #[y], defers := [] }) (w := Γ'.w) (H := [.live ver sz (xs.map g)] ++ junk) (by simp [obj])
    ⟨rfl, rfl, Γ', rfl, hext, hok', fun t x hx => by
      simp only [Env.get] at hx
      split at hx
      · rename_i ht
        subst ht
        cases hx
        exact ⟨y, rfl, hcv⟩
      · cases hx⟩
  obtain ⟨y', g1, g2⟩ := e4 0 (.c (.slv (xs.map g))) (by simp [mpE, mpV, Env.get, fzL, List.take_of_length_le])
  simp at g1
  subst g1
  exact ⟨y, _, Γ1, _, rfl, rfl, e1, e2, e3, g2⟩
theorem Ret.zeroN {P : Program} {fn : Func} {K : AVal → List Ob → Prop} {S : St} (hr : fn.results.toList = []) (hk : K (.tup []) S.heap) : Ret P fn K .normal S := ⟨_, by rw [hr]; rfl, hk⟩
theorem Ret.four {P : Program} {fn : Func} {K : AVal → List Ob → Prop} {S : St} {r r2 r3 r4 : ResultVar} {x x2 x3 x4 : AVal} (hr : fn.results.toList = [r, r2, r3, r4]) (h1 : resV P S r = some x) (h2 : resV P S r2 = some x2) (h3 : resV P S r3 = some x3) (h4 : resV P S r4 = some x4) (hk : K (.tup [x, x2, x3, x4]) S.heap) : Ret P fn K .ret S := ⟨.tup [x, x2, x3, x4], by rw [hr]; simp [retV, h1, h2, h3, h4], hk⟩
end Go.Nx
