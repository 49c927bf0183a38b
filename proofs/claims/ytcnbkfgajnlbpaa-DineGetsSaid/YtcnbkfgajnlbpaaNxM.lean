/- What the edges must say, and that then every order comes to the same. -/
import Derived.Test.YtcnbkfgajnlbpaaNxL
namespace Go.Nx
set_option linter.unusedVariables false
set_option linter.unusedSimpArgs false

/-! The operations that leave the heap alone. -/

theorem stp_mobile {P : Program} {e : Env} {H H1 : List Ob} {op : Op} {x : AVal} (hf : fixed op = false) (h : stp P e H op = some (x, H1)) : H1 = H := by
  unfold stp at h
  split at h <;> first | (simp [fixed] at hf; done) | skip
  all_goals (try (simp only [Option.map_eq_some_iff, Prod.mk.injEq] at h; obtain ⟨_, _, _, rfl⟩ := h; rfl))
  all_goals (repeat' (split at h))
  all_goals (try cases h)
  all_goals (try rfl)
  all_goals (try (simp only [Option.map_eq_some_iff, Prod.mk.injEq] at h; obtain ⟨_, _, _, rfl⟩ := h; rfl))

def Agree (W : List Nat) (H H' : List Ob) : Prop := ∀ h ver, W.contains h = false → obj H' h ver = obj H h ver

section
variable {W : List Nat} {H H' : List Ob} (hA : Agree W H H')
include hA
theorem ldN_frame {n : Nat} {p : Leaf} (hp : hOk W (some (.c p)) = true) : ldN H' n p = ldN H n p := by
  cases p <;> simp [ldN, hOk] at hp ⊢
  rw [hA _ _ (by simpa using hp)]
theorem ld1_frame {p : Leaf} (hp : hOk W (some (.c p)) = true) : ld1 H' p = ld1 H p := by
  cases p <;> simp [ld1, hOk] at hp ⊢
  rw [hA _ _ (by simpa using hp)]
theorem nilB_frame {p : Leaf} (hp : hOk W (some (.c p)) = true) : nilB H' p = nilB H p := by
  cases p with
  | sl h ver lo len => simp only [nilB]; rw [hA _ _ (by simpa [hOk] using hp)]
  | v x => cases x with
    | slice a n c => cases a <;> cases n <;> cases c <;> rfl
    | _ => rfl
  | _ => rfl
theorem view_frame {p : Leaf} (hp : hOk W (some (.c p)) = true) : view H' p = view H p := by
  cases p with
  | sl h ver lo len => simp only [view]; rw [hA _ _ (by simpa [hOk] using hp)]
  | v x => cases x with
    | slice a n c => cases a <;> cases n <;> cases c <;> rfl
    | _ => rfl
  | _ => rfl
theorem binV_frame {P : Program} {op : BinOp} {t : TypeId} {u v : AVal} (hu : hOk W (some u) = true) (hv : hOk W (some v) = true) : binV P H' op t u v = binV P H op t u v := by
  cases u with
  | c a =>
    cases v with
    | c b =>
      have := nilB_frame hA hu
      unfold binV
      split <;> first | rfl | skip
      simp only [AVal.c.injEq] at *
      rename_i h1 h2
      subst h1 h2
      rw [this]
    | _ => simp [binV]
  | _ => cases v <;> simp [binV]
theorem sliceV_frame {P : Program} {t : TypeId} {x : Leaf} {lo hi : Option Int} (hx : hOk W (some (.c x)) = true) : sliceV P H' t x lo hi = sliceV P H t x lo hi := by
  cases x with
  | sl h ver lo0 len => unfold sliceV; simp only; rw [hA _ _ (by simpa [hOk] using hx)]
  | v x => cases x with
    | slice a n c => cases a <;> cases n <;> cases c <;> rfl
    | _ => rfl
  | _ => rfl
theorem indexAddrV_frame {P : Program} {t : TypeId} {x : Leaf} {i : Int} (hx : hOk W (some (.c x)) = true) : indexAddrV P H' t x i = indexAddrV P H t x i := by
  have hv := view_frame hA hx
  cases x with
  | sl h ver lo len => unfold indexAddrV; simp only; rw [hA _ _ (by simpa [hOk] using hx)]
  | ptr h ver r k => unfold indexAddrV; simp only; rw [hA _ _ (by simpa [hOk] using hx)]
  | v x => unfold indexAddrV; simp only; rw [hv]
  | _ => rfl

theorem stp_frame {P : Program} {e : Env} {op : Op} {x : AVal} {H1 : List Ob} (hf : fixed op = false) (hop : ∀ p ∈ op.operands.toList, hOk W (evO e p) = true) (h : stp P e H op = some (x, H1)) : stp P e H' op = some (x, H') := by
  cases op with
  | move y => simp only [stp, Option.map_eq_some_iff, Prod.mk.injEq] at h ⊢; obtain ⟨v, h1, rfl, rfl⟩ := h; exact ⟨v, h1, rfl, trivial⟩
  | assign y => simp only [stp, Option.map_eq_some_iff, Prod.mk.injEq] at h ⊢; obtain ⟨v, h1, rfl, rfl⟩ := h; exact ⟨v, h1, rfl, trivial⟩
  | pick c p q =>
    simp only [stp] at h ⊢
    split at h
    · rename_i h1 h2 h3
      simp only [Option.some.injEq, Prod.mk.injEq] at h
      simp [h1, h2, h3, h.1]
    · cases h
  | build t ps =>
    simp only [stp] at h ⊢
    split at h
    · simp only [Option.map_eq_some_iff, Prod.mk.injEq] at h ⊢
      obtain ⟨v, h1, rfl, rfl⟩ := h
      exact ⟨v, h1, rfl, trivial⟩
    · cases h
  | load t y =>
    have hy := hop y (by simp [Op.operands])
    simp only [stp] at h ⊢
    split at h
    · rename_i n p h1 h2
      rw [h2] at hy
      simp only [Option.map_eq_some_iff, Prod.mk.injEq] at h ⊢
      obtain ⟨v, h3, rfl, rfl⟩ := h
      exact ⟨v, by rw [ldN_frame hA hy]; exact h3, rfl, trivial⟩
    · rename_i n p h1 h2
      rw [h2] at hy
      simp only [Option.map_eq_some_iff, Prod.mk.injEq] at h ⊢
      obtain ⟨v, h3, rfl, rfl⟩ := h
      exact ⟨v, by rw [ld1_frame hA hy]; exact h3, rfl, trivial⟩
    · cases h
  | nilCheck y =>
    have hy := hop y (by simp [Op.operands])
    simp only [stp] at h ⊢
    split at h
    · rename_i hd ver i k h1
      rw [h1] at hy
      simp only [Option.map_eq_some_iff, Prod.mk.injEq] at h ⊢
      obtain ⟨v, h3, rfl, rfl⟩ := h
      exact ⟨v, by rw [hA hd ver (by simpa [hOk] using hy)]; exact h3, rfl, trivial⟩
    · simp only [Option.some.injEq, Prod.mk.injEq] at h ⊢
      exact ⟨h.1, trivial⟩
    · simp only [Option.some.injEq, Prod.mk.injEq] at h ⊢
      exact ⟨h.1, trivial⟩
    · cases h
  | binOp op t y z t' =>
    have hy := hop y (by simp [Op.operands])
    have hz := hop z (by simp [Op.operands])
    simp only [stp] at h ⊢
    split at h
    · rename_i u v h1 h2
      rw [h1] at hy
      rw [h2] at hz
      simp only [Option.map_eq_some_iff, Prod.mk.injEq] at h ⊢
      obtain ⟨l, h3, rfl, rfl⟩ := h
      exact ⟨l, by rw [binV_frame hA hy hz]; exact h3, rfl, trivial⟩
    · cases h
  | unOp op t y =>
    simp only [stp] at h ⊢
    split at h
    · rename_i h1; simp only [Option.some.injEq, Prod.mk.injEq] at h; simp [h1, h.1]
    · rename_i h1; simp only [Option.some.injEq, Prod.mk.injEq] at h; simp [h1, h.1]
    · cases h
  | convert s d y =>
    simp only [stp] at h ⊢
    split at h
    · rename_i h1 h2 h3; simp only [Option.some.injEq, Prod.mk.injEq] at h; simp [h1, h2, h3, h.1]
    · cases h
  | makeFunc f first caps =>
    cases f with
    | func f =>
      simp only [stp] at h ⊢
      split at h
      · rename_i h1
        rw [if_pos h1]
        simp only [Option.map_eq_some_iff, Prod.mk.injEq] at h ⊢
        obtain ⟨v, h3, rfl, rfl⟩ := h
        exact ⟨v, h3, rfl, trivial⟩
      · cases h
    | _ => simp [stp] at h
  | slice t y lo hi mx =>
    cases mx with
    | some m => simp [stp] at h
    | none =>
      have hy := hop y (by simp [Op.operands])
      simp only [stp] at h ⊢
      split at h
      · rename_i l lo' hi' h1 h2 h3
        rw [h1] at hy
        simp only [Option.map_eq_some_iff, Prod.mk.injEq] at h ⊢
        obtain ⟨v, h4, rfl, rfl⟩ := h
        exact ⟨v, by rw [sliceV_frame hA hy]; exact h4, rfl, trivial⟩
      · cases h
  | fieldAddr s y f =>
    have hy := hop y (by simp [Op.operands])
    simp only [stp] at h ⊢
    split at h
    · rename_i off n g hd ver i k h1 h2
      rw [h2] at hy
      split at h
      · cases h
      · rename_i hn
        rw [if_neg hn]
        simp only [Option.map_eq_some_iff, Prod.mk.injEq] at h ⊢
        obtain ⟨v, h3, rfl, rfl⟩ := h
        exact ⟨v, by rw [hA hd ver (by simpa [hOk] using hy)]; exact h3, rfl, trivial⟩
    · rename_i off n g rows i k h1 h2
      split at h
      · cases h
      · rename_i hn
        rw [if_neg hn]
        simp only [Option.some.injEq, Prod.mk.injEq] at h
        simp [h.1]
    · cases h
  | field s y f =>
    simp only [stp] at h ⊢
    split at h
    · simp only [Option.map_eq_some_iff, Prod.mk.injEq] at h ⊢
      obtain ⟨v, h3, rfl, rfl⟩ := h
      exact ⟨v, h3, rfl, trivial⟩
    · cases h
  | indexAddr t y i =>
    have hy := hop y (by simp [Op.operands])
    simp only [stp] at h ⊢
    split at h
    · rename_i l k n h1 h2
      rw [h1] at hy
      simp only [Option.map_eq_some_iff, Prod.mk.injEq] at h ⊢
      obtain ⟨v, h3, rfl, rfl⟩ := h
      exact ⟨v, by rw [indexAddrV_frame hA hy]; exact h3, rfl, trivial⟩
    · cases h
  | index t y i =>
    simp only [stp] at h ⊢
    split at h
    · split at h
      · rename_i hb
        rw [if_pos hb]
        simp only [Option.map_eq_some_iff, Prod.mk.injEq] at h ⊢
        obtain ⟨v, h3, rfl, rfl⟩ := h
        exact ⟨v, h3, rfl, trivial⟩
      · cases h
    · cases h
  | extract y i =>
    simp only [stp] at h ⊢
    split at h
    · simp only [Option.map_eq_some_iff, Prod.mk.injEq] at h ⊢
      obtain ⟨v, h3, rfl, rfl⟩ := h
      exact ⟨v, h3, rfl, trivial⟩
    · cases h
  | call c =>
    obtain ⟨callee, args, argTypes⟩ := c
    cases callee with
    | builtin b =>
      cases b with
      | len =>
        simp only [stp] at h ⊢
        split at h
        · split at h
          · simp only [Option.map_eq_some_iff, Prod.mk.injEq] at h ⊢
            obtain ⟨v, h3, rfl, rfl⟩ := h
            exact ⟨v, h3, rfl, trivial⟩
          · cases h
        · cases h
      | append => simp [fixed] at hf
      | min =>
        simp only [stp, Option.map_eq_some_iff, Prod.mk.injEq] at h ⊢
        obtain ⟨v, h3, rfl, rfl⟩ := h
        exact ⟨v, h3, rfl, trivial⟩
      | max =>
        simp only [stp, Option.map_eq_some_iff, Prod.mk.injEq] at h ⊢
        obtain ⟨v, h3, rfl, rfl⟩ := h
        exact ⟨v, h3, rfl, trivial⟩
      | _ => simp [stp] at h
    | _ => simp [stp] at h
  | alloc t => simp [fixed] at hf
  | box t y => simp [fixed] at hf
  | buildSlice t n ps => simp [fixed] at hf
  | makeSlice t l c => simp [fixed] at hf
  | store t y v => simp [fixed] at hf
  | _ => simp [stp] at h
end

/-- A fixed operation turns only what it touches. -/
theorem stp_touch {P : Program} {e : Env} {H H1 : List Ob} {op : Op} {x : AVal} {W : List Nat} (hf : fixed op = true) (ht : (touch e H op).all (W.contains ·) = true) (h : stp P e H op = some (x, H1)) : Agree W H H1 := by
  have app : ∀ o, (W.contains H.length) = true → Agree W H (H ++ [o]) := by
    intro o hw n ver hn
    unfold obj
    by_cases hlt : n < H.length
    · rw [List.getElem?_append_left hlt]
    · have hne : n ≠ H.length := by rintro rfl; rw [hw] at hn; cases hn
      rw [List.getElem?_eq_none (l := H) (by omega), List.getElem?_eq_none (l := H ++ [o]) (by simp; omega)]
  have set : ∀ n o, (W.contains n) = true → Agree W H (H.set n o) := by
    intro n o hw m ver hm
    unfold obj
    rw [List.getElem?_set_ne]
    rintro rfl
    rw [hw] at hm
    cases hm
  cases op with
  | alloc t =>
    simp only [touch, List.all_cons, List.all_nil, Bool.and_true] at ht
    simp only [stp] at h
    split at h
    · simp only [Option.some.injEq, Prod.mk.injEq] at h
      obtain ⟨_, rfl⟩ := h
      exact app _ ht
    · cases h
  | box t y =>
    simp only [touch, List.all_cons, List.all_nil, Bool.and_true] at ht
    simp only [stp] at h
    split at h
    · split at h
      · simp only [Option.some.injEq, Prod.mk.injEq] at h
        obtain ⟨_, rfl⟩ := h
        exact app _ ht
      · cases h
    · cases h
  | buildSlice t n ps =>
    simp only [touch, List.all_cons, List.all_nil, Bool.and_true] at ht
    simp only [stp] at h
    split at h
    · split at h
      · simp only [Option.map_eq_some_iff, Prod.mk.injEq] at h
        obtain ⟨_, _, _, rfl⟩ := h
        exact app _ ht
      · cases h
    · cases h
  | makeSlice t l c =>
    simp only [touch, List.all_cons, List.all_nil, Bool.and_true] at ht
    simp only [stp] at h
    split at h
    · split at h
      · simp only [Option.some.injEq, Prod.mk.injEq] at h
        obtain ⟨_, rfl⟩ := h
        exact app _ ht
      · cases h
    · cases h
  | store t y v =>
    simp only [stp] at h
    split at h
    · rename_i h1 h2 h3
      simp only [touch, h2, List.all_cons, List.all_nil, Bool.and_true] at ht
      split at h
      case h_2 => cases h
      split at h
      case isFalse => cases h
      split at h
      case h_2 => cases h
      split at h
      case isFalse => cases h
      simp only [Option.some.injEq, Prod.mk.injEq] at h
      obtain ⟨_, rfl⟩ := h
      exact set _ _ ht
    · cases h
  | call c =>
    obtain ⟨callee, args, argTypes⟩ := c
    cases callee with
    | builtin b =>
      cases b with
      | append =>
        simp only [stp] at h
        split at h
        case h_2 => cases h
        rename_i s y t t' ha hty
        split at h
        case h_2 => cases h
        rename_i ls lx hs hy
        simp only [touch, ha, List.map_cons, List.map_nil, hs] at ht
        unfold appendV at h
        split at h
        case h_2 => cases h
        split at h
        case isFalse => cases h
        split at h
        · split at h
          · simp only [Option.some.injEq, Prod.mk.injEq] at h
            obtain ⟨_, rfl⟩ := h
            simp only [List.all_cons, List.all_nil, Bool.and_true] at ht
            exact app _ ht
          · cases h
        · split at h
          case h_2 => cases h
          split at h
          · simp only [Option.some.injEq, Prod.mk.injEq] at h
            obtain ⟨_, rfl⟩ := h
            simp only [List.all_cons, List.all_nil, Bool.and_true] at ht
            exact set _ _ ht
          · cases h
        · cases h
      | _ => simp [fixed] at hf
    | _ => simp [fixed] at hf
  | _ => simp [fixed] at hf

end Go.Nx
