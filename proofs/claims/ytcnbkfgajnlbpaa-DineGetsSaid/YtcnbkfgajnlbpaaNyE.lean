/- A region of which the first part is reckoned ahead. -/
import Derived.Test.YtcnbkfgajnlbpaaNyD
namespace Go.Nx
set_option linter.unusedVariables false
set_option linter.unusedSimpArgs false
section
variable {P : Program} {N : Nat} {Γ0 : Ctx} {A os l : List Oper} {e : Env} {H : List Ob} {K : Env → List Ob → Prop}
theorem TextR.preN (k : Nat) (gs : List (List (Nat × Bool))) (live : List Nat) (hchk : (chk (A.take k) gs [] false N && liveOk (A.take k) gs live) = true)
    (h : RunR P none (A.take k) gs [] e H (fun e' H' => ∃ r, Keeps e' live r ∧ TextR P N Γ0 A (A.drop k) r H' K)) : TextR P N Γ0 A A e H K := .pre gs live (List.take_append_drop k A).symm hchk h

theorem TextR.cont {K1 : Env → List Ob → Prop} (h : TextR P N Γ0 A l e H K1) (hk : ∀ e H, K1 e H → K e H) : TextR P N Γ0 A l e H K :=
  fun ops Q hA hd hQ i hl a w hs => h ops Q hA hd (fun e H h1 => hQ e H (hk e H h1)) i hl a w hs

theorem RunR.cont {W : Option (List Nat)} {gs : List (List (Nat × Bool))} {ex : List Bool} {K1 : Env → List Ob → Prop} (h : RunR P W l gs ex e H K1) (hk : ∀ e H, K1 e H → K e H) : RunR P W l gs ex e H K := by
  obtain ⟨e', H', h1, h2⟩ := h
  exact ⟨e', H', h1, hk _ _ h2⟩

theorem get_shadow {e : Env} {t : Nat} {x : AVal} (h : e.get t = some x) : ∀ s z, Env.get ((t, x) :: e) s = some z → e.get s = some z := by
  intro s z hz
  simp only [Env.get] at hz
  split at hz
  · rename_i he
    subst he
    cases hz
    exact h
  · exact hz

theorem TextR.byBool {v : Bool} (t : Nat) (hv : e.get t = some (.c (B v))) (h1 : v = true → TextR P N Γ0 A l ((t, .c (B true)) :: e) H K) (h0 : v = false → TextR P N Γ0 A l ((t, .c (B false)) :: e) H K) : TextR P N Γ0 A l e H K := by
  cases v with
  | true => exact .weak (fun a w hs => by
      obtain ⟨d, s, Γ, hw, hext, hok, henv⟩ := hs
      exact ⟨d, s, Γ, hw, hext, hok, fun t' x hx => henv t' x (get_shadow hv t' x hx)⟩) (h1 rfl)
  | false => exact .weak (fun a w hs => by
      obtain ⟨d, s, Γ, hw, hext, hok, henv⟩ := hs
      exact ⟨d, s, Γ, hw, hext, hok, fun t' x hx => henv t' x (get_shadow hv t' x hx)⟩) (h0 rfl)
end

/-- Every leaf said in other words. -/
theorem map_sat {g : Leaf → Leaf} (hg : ∀ Γ l y, conc Γ l y → conc Γ (g l) y) {N : Nat} {Γ0 : Ctx} {e : Env} {H : List Ob} {a : Act} {w : World} (hs : Sat N Γ0 ⟨e, H⟩ a w) : Sat N Γ0 ⟨mpE g e, H.map (mpO g)⟩ a w := by
  obtain ⟨d, s, Γ, rfl, hext, hok, henv⟩ := hs
  refine ⟨d, s, Γ, rfl, hext, ⟨by simp [hok.len], fun n o hn => ?_, fun n n' v v' z1 z2 r r' i1 i2 b h1 h2 h3 h4 h5 h6 => ?_, hok.F, hok.X⟩, fun t x hx => ?_⟩
  · rw [List.getElem?_map] at hn
    simp only [Option.map_eq_some_iff] at hn
    obtain ⟨o', h1, rfl⟩ := hn
    exact ObOk.mp (Γ := Γ) (Γ' := Γ) rfl (hg Γ) (fun _ _ _ _ => rfl) (fun v z' r i b e1 e2 e3 e4 e5 => ⟨e5, e4⟩) (hok.ob n o' h1)
  · rw [List.getElem?_map] at h1 h2
    simp only [Option.map_eq_some_iff] at h1 h2
    obtain ⟨o1, g1, e1⟩ := h1
    obtain ⟨o2, g2, e2⟩ := h2
    obtain ⟨q1, rfl⟩ := mpO_live e1
    obtain ⟨q2, rfl⟩ := mpO_live e2
    exact hok.apart n n' v v' z1 z2 q1 q2 i1 i2 b g1 g2 h3 h4 h5 h6
  · obtain ⟨x', h1, rfl⟩ := mpE_get hx
    obtain ⟨y, h2, h3⟩ := henv t x' h1
    exact ⟨y, h2, concV_mp (hg Γ) _ _ h3⟩

/-- Whether a slice is nil is forgotten. -/
def nzL : Leaf → Leaf
  | .v (.slice none 0 0) => .slv []
  | .slq r => .slv r
  | l => l
theorem nzL_sound (Γ : Ctx) (l : Leaf) (y : Value) (h : conc Γ l y) : conc Γ (nzL l) y := by
  unfold nzL
  split
  · exact conc_nil_slv h
  · exact conc_slq_slv h
  · exact h
theorem slv_sat {N : Nat} {Γ0 : Ctx} {e : Env} {H : List Ob} {a : Act} {w : World} (hs : Sat N Γ0 ⟨e, H⟩ a w) : Sat N Γ0 ⟨mpE nzL e, H.map (mpO nzL)⟩ a w := map_sat nzL_sound hs

section
variable {h ver : Nat} {rows : List (List Leaf)}
theorem fzL_v {x : Value} : fzL h ver rows (.v x) = .v x := rfl
theorem fzL_slv {r : List (List Leaf)} : fzL h ver rows (.slv r) = .slv r := rfl
theorem fzL_slq {r : List (List Leaf)} : fzL h ver rows (.slq r) = .slq r := rfl
theorem fzL_fptr {r : List (List Leaf)} {i k : Nat} : fzL h ver rows (.fptr r i k) = .fptr r i k := rfl
theorem fzL_clo {f : FuncId} {cs : List Leaf} : fzL h ver rows (.clo f cs) = .clo f cs := rfl
theorem fzL_ptr {h' v' i k : Nat} : fzL h ver rows (.ptr h' v' i k) = if h' = h ∧ v' = ver then .fptr rows i k else .ptr h' v' i k := rfl
theorem fzL_whole {len : Nat} (hl : rows.length = len) : fzL h ver rows (.sl h ver 0 len) = .slv rows := by
  simp only [fzL, List.drop_zero]
  rw [if_pos ⟨trivial, trivial, by omega⟩, List.take_of_length_le (by omega)]
theorem fzL_ne {h' v' lo len : Nat} (hn : h' ≠ h) : fzL h ver rows (.sl h' v' lo len) = .sl h' v' lo len := by
  simp [fzL, hn]
end
end Go.Nx
