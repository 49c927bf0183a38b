/- Rules of the walk. -/
import Derived.Test.YtdhhkpjbfkbcjaaFwA
import Derived.Scope
import Derived.ScopeJumps
/- A region: its operations in whatever order its edges allow; what is guarded is reckoned ahead, as if it were wanted. -/
namespace Go.Nx
set_option linter.unusedVariables false
set_option linter.unusedSimpArgs false

structure St where
  env : Env
  heap : List Ob

def Sat (n : Nat) (Γ0 : Ctx) (S : St) (a : Act) (w : World) : Prop :=
  a.defers = [] ∧ a.tmps.size = n ∧ ∃ Γ, Γ.w = w ∧ Γ0.Ext Γ ∧ HeapOk Γ S.heap ∧ ∀ t x, S.env.get t = some x → ∃ y, a.tmps[t]? = some y ∧ concV Γ x y

def enters (P : Program) (f : FuncId) : Bool :=
  match P.funcs[f]? with
  | some fn => fn.name != "runtime.NumGoroutine" && fn.body.isSome
  | none => false

/-- What a call comes to, from a heap that is known. -/
def Call (P : Program) (f : FuncId) (args : List AVal) (H : List Ob) (K : AVal → List Ob → Prop) : Prop :=
  enters P f = true ∧ ∀ Γ, HeapOk Γ H → ∀ args' : Array Value, concVs Γ args args'.toList → Calls P f args' Γ.w fun e w' =>
    ∃ y r Γ' H', e = .returned y ∧ K r H' ∧ Γ'.w = w' ∧ Γ.Ext Γ' ∧ HeapOk Γ' H' ∧ concV Γ' r y

/-- A call that leaves the heap alone and answers one thing. -/
def DCall (P : Program) (f : FuncId) (args : List AVal) (H : List Ob) (r : AVal) : Prop := Call P f args H fun r' H' => r' = r ∧ H' = H

structure Obl where
  act : Bool
  f : FuncId
  args : List AVal
  H : Option (List Ob)
  r : AVal
def Obl.ok (P : Program) (o : Obl) : Prop := o.act = true → match o.H with
  | some H => DCall P o.f o.args H o.r
  | none => ∀ H, DCall P o.f o.args H o.r

def actE (e : Env) : List (Nat × Bool) → Option Bool
  | [] => some true
  | (s, w) :: r => match e.get s, actE e r with
    | some (.c (.v (.bool b))), some c => some ((b == w) && c)
    | _, _ => none

def gE (b : Bool) (H : List Ob) (r : Option (AVal × List Ob)) : Option (AVal × List Ob) :=
  match r with
  | some (x, H1) => some (x, bif b then H1 else H)
  | none => bif b then none else some (unit, H)

def putE (e : Env) (d : Option Nat) (x : AVal) : Env :=
  match d with
  | some t => (t, x) :: e
  | none => e

def allV : List (Option AVal) → Option (List AVal)
  | [] => some []
  | some x :: r => (allV r).map (x :: ·)
  | none :: _ => none

/-- Operations that turn the heap. -/
def fixed : Op → Bool
  | .alloc _ | .box _ _ | .buildSlice _ _ _ | .makeSlice _ _ _ | .store _ _ _ => true
  | .call { callee := .builtin .append, .. } | .call { callee := .builtin .copy, .. } | .call { callee := .builtin .clear, .. } => true
  | _ => false

/-- What a drawn region may turn: objects; and the functions called there that hand back an array of their own. -/
structure WW where
  hs : List Nat
  ow : List FuncId
def owOf : Option WW → List FuncId
  | some W => W.ow
  | none => []
/-- The same, and calls of functions that hand back an array of their own. -/
def fixedO (ow : List FuncId) : Op → Bool
  | .call { callee := .value (.func c), .. } => ow.contains c
  | op => fixed op
def touch (e : Env) (H : List Ob) : Op → List Nat
  | .store _ a _ => match evO e a with
    | some (.c (.ptr h _ _ _)) => [h]
    | _ => []
  | .call { callee := .builtin .append, args, .. } => match args.toList.map (evO e) with
    | some (.c (.sl h _ _ _)) :: _ => [h]
    | _ => [H.length]
  | .call { callee := .builtin .copy, args, .. } | .call { callee := .builtin .clear, args, .. } => match args.toList.map (evO e) with
    | some (.c (.sl h _ _ _)) :: _ => [h]
    | _ => []
  | _ => [H.length]

def hOk (W : List Nat) : Option AVal → Bool
  | some (.c (.ptr h _ _ _)) => !W.contains h
  | some (.c (.sl h _ _ _)) => !W.contains h
  | _ => true

def wOk (W : Option WW) (ex : Bool) (e : Env) (H : List Ob) (op : Op) : Bool :=
  match W with
  | none => true
  | some W => if fixedO W.ow op then ex || (touch e H op).all (W.hs.contains ·) else !ex || op.operands.toList.all fun p => hOk W.hs (evO e p)

theorem Env.get_put (e : Env) (d : Option Nat) (x : AVal) (t : Nat) : (putE e d x).get t = if d = some t then some x else e.get t := by
  cases d with
  | none => simp [putE]
  | some s => simp [putE, Env.get]

end Go.Nx
/- What the edges must say, and that then every order comes to the same. -/
namespace Go.Nx
set_option linter.unusedVariables false
set_option linter.unusedSimpArgs false

/-! The operations that leave the heap alone. -/

theorem stp_mobile {P : Program} {e : Env} {H H1 : List Ob} {op : Op} {x : AVal} (hf : fixed op = false) (h : stp P e H op = some (x, H1)) : H1 = H := by
  unfold stp at h
  split at h <;> first | (simp [fixed] at hf; done) | skip
  all_goals (try (simp only [Option.map_eq_some_iff, Prod.mk.injEq] at h; obtain ⟨_, _, _, rfl⟩ := h; rfl))
  all_goals (repeat' (split at h))
  all_goals (try cases h)
  all_goals (try rfl)
  all_goals (try (simp only [Option.map_eq_some_iff, Prod.mk.injEq] at h; obtain ⟨_, _, _, rfl⟩ := h; rfl))

def Agree (W : List Nat) (H H' : List Ob) : Prop := ∀ h ver, W.contains h = false → obj H' h ver = obj H h ver

section
variable {W : List Nat} {H H' : List Ob} (hA : Agree W H H')
include hA
theorem ldN_frame {n : Nat} {p : Leaf} (hp : hOk W (some (.c p)) = true) : ldN H' n p = ldN H n p := by
  cases p <;> simp [ldN, hOk] at hp ⊢
  rw [hA _ _ (by simpa using hp)]
theorem ld1_frame {p : Leaf} (hp : hOk W (some (.c p)) = true) : ld1 H' p = ld1 H p := by
  cases p <;> simp [ld1, hOk] at hp ⊢
  rw [hA _ _ (by simpa using hp)]
theorem nilB_frame {p : Leaf} (hp : hOk W (some (.c p)) = true) : nilB H' p = nilB H p := by
  cases p with
  | sl h ver lo len => simp only [nilB]; rw [hA _ _ (by simpa [hOk] using hp)]
  | v x => cases x with
    | slice a n c => cases a <;> cases n <;> cases c <;> rfl
    | _ => rfl
  | _ => rfl
theorem view_frame {p : Leaf} (hp : hOk W (some (.c p)) = true) : view H' p = view H p := by
  cases p with
  | sl h ver lo len => simp only [view]; rw [hA _ _ (by simpa [hOk] using hp)]
  | v x => cases x with
    | slice a n c => cases a <;> cases n <;> cases c <;> rfl
    | _ => rfl
  | _ => rfl
theorem binV_frame {P : Program} {op : BinOp} {t : TypeId} {u v : AVal} (hu : hOk W (some u) = true) (hv : hOk W (some v) = true) : binV P H' op t u v = binV P H op t u v := by
  cases u with
  | c a =>
    cases v with
    | c b =>
      have := nilB_frame hA hu
      unfold binV
      split <;> first | rfl | skip
      simp only [AVal.c.injEq] at *
      rename_i h1 h2
      subst h1 h2
      rw [this]
    | _ => simp [binV]
  | _ => cases v <;> simp [binV]
theorem sliceV_frame {P : Program} {t : TypeId} {x : Leaf} {lo hi : Option Int} (hx : hOk W (some (.c x)) = true) : sliceV P H' t x lo hi = sliceV P H t x lo hi := by
  cases x with
  | sl h ver lo0 len => unfold sliceV; simp only; rw [hA _ _ (by simpa [hOk] using hx)]
  | v x => cases x with
    | slice a n c => cases a <;> cases n <;> cases c <;> rfl
    | _ => rfl
  | _ => rfl
theorem indexAddrV_frame {P : Program} {t : TypeId} {x : Leaf} {i : Int} (hx : hOk W (some (.c x)) = true) : indexAddrV P H' t x i = indexAddrV P H t x i := by
  have hv := view_frame hA hx
  cases x with
  | sl h ver lo len => unfold indexAddrV; simp only; rw [hA _ _ (by simpa [hOk] using hx)]
  | ptr h ver r k => unfold indexAddrV; simp only; rw [hA _ _ (by simpa [hOk] using hx)]
  | v x => unfold indexAddrV; simp only; rw [hv]
  | _ => rfl

theorem stp_frame {P : Program} {e : Env} {op : Op} {x : AVal} {H1 : List Ob} (hf : fixed op = false) (hop : ∀ p ∈ op.operands.toList, hOk W (evO e p) = true) (h : stp P e H op = some (x, H1)) : stp P e H' op = some (x, H') := by
  cases op with
  | move y => simp only [stp, Option.map_eq_some_iff, Prod.mk.injEq] at h ⊢; obtain ⟨v, h1, rfl, rfl⟩ := h; exact ⟨v, h1, rfl, trivial⟩
  | assign y => simp only [stp, Option.map_eq_some_iff, Prod.mk.injEq] at h ⊢; obtain ⟨v, h1, rfl, rfl⟩ := h; exact ⟨v, h1, rfl, trivial⟩
  | pick c p q =>
    simp only [stp] at h ⊢
    split at h
    · rename_i h1 h2 h3
      simp only [Option.some.injEq, Prod.mk.injEq] at h
      simp [h1, h2, h3, h.1]
    · cases h
  | build t ps =>
    simp only [stp] at h ⊢
    split at h
    · simp only [Option.map_eq_some_iff, Prod.mk.injEq] at h ⊢
      obtain ⟨v, h1, rfl, rfl⟩ := h
      exact ⟨v, h1, rfl, trivial⟩
    · cases h
  | load t y =>
    have hy := hop y (by simp [Op.operands])
    simp only [stp] at h ⊢
    split at h
    · rename_i n p h1 h2
      rw [h2] at hy
      simp only [Option.map_eq_some_iff, Prod.mk.injEq] at h ⊢
      obtain ⟨v, h3, rfl, rfl⟩ := h
      exact ⟨v, by rw [ldN_frame hA hy]; exact h3, rfl, trivial⟩
    · rename_i n p h1 h2
      rw [h2] at hy
      simp only [Option.map_eq_some_iff, Prod.mk.injEq] at h ⊢
      obtain ⟨v, h3, rfl, rfl⟩ := h
      exact ⟨v, by rw [ld1_frame hA hy]; exact h3, rfl, trivial⟩
    · cases h
  | nilCheck y =>
    have hy := hop y (by simp [Op.operands])
    simp only [stp] at h ⊢
    split at h
    · rename_i hd ver i k h1
      rw [h1] at hy
      simp only [Option.map_eq_some_iff, Prod.mk.injEq] at h ⊢
      obtain ⟨v, h3, rfl, rfl⟩ := h
      exact ⟨v, by rw [hA hd ver (by simpa [hOk] using hy)]; exact h3, rfl, trivial⟩
    · simp only [Option.some.injEq, Prod.mk.injEq] at h ⊢
      exact ⟨h.1, trivial⟩
    · simp only [Option.some.injEq, Prod.mk.injEq] at h ⊢
      exact ⟨h.1, trivial⟩
    · cases h
  | binOp op t y z t' =>
    have hy := hop y (by simp [Op.operands])
    have hz := hop z (by simp [Op.operands])
    simp only [stp] at h ⊢
    split at h
    · rename_i u v h1 h2
      rw [h1] at hy
      rw [h2] at hz
      simp only [Option.map_eq_some_iff, Prod.mk.injEq] at h ⊢
      obtain ⟨l, h3, rfl, rfl⟩ := h
      exact ⟨l, by rw [binV_frame hA hy hz]; exact h3, rfl, trivial⟩
    · cases h
  | unOp op t y =>
    simp only [stp] at h ⊢
    split at h
    · rename_i h1; simp only [Option.some.injEq, Prod.mk.injEq] at h; simp [h1, h.1]
    · rename_i h1; simp only [Option.some.injEq, Prod.mk.injEq] at h; simp [h1, h.1]
    · cases h
  | convert s d y =>
    simp only [stp] at h ⊢
    split at h
    · rename_i h1 h2 h3; simp only [Option.some.injEq, Prod.mk.injEq] at h; simp [h1, h2, h3, h.1]
    · cases h
  | makeFunc f first caps =>
    cases f with
    | func f =>
      simp only [stp] at h ⊢
      split at h
      · rename_i h1
        rw [if_pos h1]
        simp only [Option.map_eq_some_iff, Prod.mk.injEq] at h ⊢
        obtain ⟨v, h3, rfl, rfl⟩ := h
        exact ⟨v, h3, rfl, trivial⟩
      · cases h
    | _ => simp [stp] at h
  | slice t y lo hi mx =>
    cases mx with
    | some m => simp [stp] at h
    | none =>
      have hy := hop y (by simp [Op.operands])
      simp only [stp] at h ⊢
      split at h
      · rename_i l lo' hi' h1 h2 h3
        rw [h1] at hy
        simp only [Option.map_eq_some_iff, Prod.mk.injEq] at h ⊢
        obtain ⟨v, h4, rfl, rfl⟩ := h
        exact ⟨v, by rw [sliceV_frame hA hy]; exact h4, rfl, trivial⟩
      · cases h
  | fieldAddr s y f =>
    have hy := hop y (by simp [Op.operands])
    simp only [stp] at h ⊢
    split at h
    · rename_i off n g hd ver i k h1 h2
      rw [h2] at hy
      split at h
      · cases h
      · rename_i hn
        rw [if_neg hn]
        simp only [Option.map_eq_some_iff, Prod.mk.injEq] at h ⊢
        obtain ⟨v, h3, rfl, rfl⟩ := h
        exact ⟨v, by rw [hA hd ver (by simpa [hOk] using hy)]; exact h3, rfl, trivial⟩
    · rename_i off n g rows i k h1 h2
      split at h
      · cases h
      · rename_i hn
        rw [if_neg hn]
        simp only [Option.some.injEq, Prod.mk.injEq] at h
        simp [h.1]
    · cases h
  | field s y f =>
    simp only [stp] at h ⊢
    split at h
    · simp only [Option.map_eq_some_iff, Prod.mk.injEq] at h ⊢
      obtain ⟨v, h3, rfl, rfl⟩ := h
      exact ⟨v, h3, rfl, trivial⟩
    · cases h
  | indexAddr t y i =>
    have hy := hop y (by simp [Op.operands])
    simp only [stp] at h ⊢
    split at h
    · rename_i l k n h1 h2
      rw [h1] at hy
      simp only [Option.map_eq_some_iff, Prod.mk.injEq] at h ⊢
      obtain ⟨v, h3, rfl, rfl⟩ := h
      exact ⟨v, by rw [indexAddrV_frame hA hy]; exact h3, rfl, trivial⟩
    · cases h
  | index t y i =>
    simp only [stp] at h ⊢
    split at h
    · split at h
      · rename_i hb
        rw [if_pos hb]
        simp only [Option.map_eq_some_iff, Prod.mk.injEq] at h ⊢
        obtain ⟨v, h3, rfl, rfl⟩ := h
        exact ⟨v, h3, rfl, trivial⟩
      · cases h
    · cases h
  | extract y i =>
    simp only [stp] at h ⊢
    split at h
    · simp only [Option.map_eq_some_iff, Prod.mk.injEq] at h ⊢
      obtain ⟨v, h3, rfl, rfl⟩ := h
      exact ⟨v, h3, rfl, trivial⟩
    · cases h
  | call c =>
    obtain ⟨callee, args, argTypes⟩ := c
    cases callee with
    | builtin b =>
      cases b with
      | len =>
        simp only [stp] at h ⊢
        split at h
        · split at h
          · simp only [Option.map_eq_some_iff, Prod.mk.injEq] at h ⊢
            obtain ⟨v, h3, rfl, rfl⟩ := h
            exact ⟨v, h3, rfl, trivial⟩
          · cases h
        · cases h
      | append => simp [fixed] at hf
      | cap =>
        simp only [stp] at h ⊢
        split at h
        · split at h
          · simp only [Option.some.injEq, Prod.mk.injEq] at h ⊢
            exact ⟨h.1, trivial⟩
          · cases h
        · cases h
      | copy => simp [fixed] at hf
      | clear => simp [fixed] at hf
      | min =>
        simp only [stp, Option.map_eq_some_iff, Prod.mk.injEq] at h ⊢
        obtain ⟨v, h3, rfl, rfl⟩ := h
        exact ⟨v, h3, rfl, trivial⟩
      | max =>
        simp only [stp, Option.map_eq_some_iff, Prod.mk.injEq] at h ⊢
        obtain ⟨v, h3, rfl, rfl⟩ := h
        exact ⟨v, h3, rfl, trivial⟩
      | _ => simp [stp] at h
    | _ => simp [stp] at h
  | alloc t => simp [fixed] at hf
  | box t y => simp [fixed] at hf
  | buildSlice t n ps => simp [fixed] at hf
  | makeSlice t l c => simp [fixed] at hf
  | store t y v => simp [fixed] at hf
  | _ => simp [stp] at h
end

/-- A fixed operation turns only what it touches. -/
theorem stp_touch {P : Program} {e : Env} {H H1 : List Ob} {op : Op} {x : AVal} {W : List Nat} (hf : fixed op = true) (ht : (touch e H op).all (W.contains ·) = true) (h : stp P e H op = some (x, H1)) : Agree W H H1 := by
  have app : ∀ o, (W.contains H.length) = true → Agree W H (H ++ [o]) := by
    intro o hw n ver hn
    unfold obj
    by_cases hlt : n < H.length
    · rw [List.getElem?_append_left hlt]
    · have hne : n ≠ H.length := by rintro rfl; rw [hw] at hn; cases hn
      rw [List.getElem?_eq_none (l := H) (by omega), List.getElem?_eq_none (l := H ++ [o]) (by simp; omega)]
  have set : ∀ n o, (W.contains n) = true → Agree W H (H.set n o) := by
    intro n o hw m ver hm
    unfold obj
    rw [List.getElem?_set_ne]
    rintro rfl
    rw [hw] at hm
    cases hm
  cases op with
  | alloc t =>
    simp only [touch, List.all_cons, List.all_nil, Bool.and_true] at ht
    simp only [stp] at h
    split at h
    · simp only [Option.some.injEq, Prod.mk.injEq] at h
      obtain ⟨_, rfl⟩ := h
      exact app _ ht
    · cases h
  | box t y =>
    simp only [touch, List.all_cons, List.all_nil, Bool.and_true] at ht
    simp only [stp] at h
    split at h
    · split at h
      · simp only [Option.some.injEq, Prod.mk.injEq] at h
        obtain ⟨_, rfl⟩ := h
        exact app _ ht
      · cases h
    · cases h
  | buildSlice t n ps =>
    simp only [touch, List.all_cons, List.all_nil, Bool.and_true] at ht
    simp only [stp] at h
    split at h
    · split at h
      · simp only [Option.map_eq_some_iff, Prod.mk.injEq] at h
        obtain ⟨_, _, _, rfl⟩ := h
        exact app _ ht
      · cases h
    · cases h
  | makeSlice t l c =>
    simp only [touch, List.all_cons, List.all_nil, Bool.and_true] at ht
    simp only [stp] at h
    split at h
    · split at h
      · simp only [Option.some.injEq, Prod.mk.injEq] at h
        obtain ⟨_, rfl⟩ := h
        exact app _ ht
      · cases h
    · cases h
  | store t y v =>
    simp only [stp] at h
    split at h
    · rename_i h1 h2 h3
      simp only [touch, h2, List.all_cons, List.all_nil, Bool.and_true] at ht
      split at h
      case h_2 => cases h
      split at h
      case isFalse => cases h
      split at h
      case h_2 => cases h
      split at h
      case isFalse => cases h
      simp only [Option.some.injEq, Prod.mk.injEq] at h
      obtain ⟨_, rfl⟩ := h
      exact set _ _ ht
    · cases h
  | call c =>
    obtain ⟨callee, args, argTypes⟩ := c
    cases callee with
    | builtin b =>
      cases b with
      | append =>
        simp only [stp] at h
        split at h
        case h_2 => cases h
        rename_i s y t t' ha hty
        split at h
        case h_2 => cases h
        rename_i ls lx hs hy
        simp only [touch, ha, List.map_cons, List.map_nil, hs] at ht
        unfold appendV at h
        split at h
        case h_3 => cases h
        case h_2 =>
          unfold appendZ at h
          split at h
          case h_2 => cases h
          split at h
          case isFalse => cases h
          simp only [Option.some.injEq, Prod.mk.injEq] at h
          obtain ⟨_, rfl⟩ := h
          simp only [List.all_cons, List.all_nil, Bool.and_true] at ht
          exact app _ ht
        split at h
        case isFalse => cases h
        split at h
        · split at h
          · simp only [Option.some.injEq, Prod.mk.injEq] at h
            obtain ⟨_, rfl⟩ := h
            simp only [List.all_cons, List.all_nil, Bool.and_true] at ht
            exact app _ ht
          · cases h
        · split at h
          case h_2 => cases h
          split at h
          · simp only [Option.some.injEq, Prod.mk.injEq] at h
            obtain ⟨_, rfl⟩ := h
            simp only [List.all_cons, List.all_nil, Bool.and_true] at ht
            exact set _ _ ht
          · cases h
        · cases h
      | copy =>
        simp only [stp] at h
        split at h
        case h_2 => cases h
        rename_i s y t t' ha hty
        split at h
        case h_2 => cases h
        rename_i ls lx hs hy
        simp only [touch, ha, List.map_cons, List.map_nil, hs] at ht
        unfold copyV at h
        split at h
        case h_2 => cases h
        split at h
        case h_2 => cases h
        split at h
        case isFalse => cases h
        simp only [Option.some.injEq, Prod.mk.injEq] at h
        obtain ⟨_, rfl⟩ := h
        simp only [List.all_cons, List.all_nil, Bool.and_true] at ht
        exact set _ _ ht
      | clear =>
        simp only [stp] at h
        split at h
        case h_2 => cases h
        rename_i s t ha hty
        split at h
        case h_2 => cases h
        rename_i ls hs
        simp only [touch, ha, List.map_cons, List.map_nil, hs] at ht
        unfold clearV at h
        split at h
        case h_2 => cases h
        split at h
        case h_2 => cases h
        split at h
        case isFalse => cases h
        simp only [Option.some.injEq, Prod.mk.injEq] at h
        obtain ⟨_, rfl⟩ := h
        simp only [List.all_cons, List.all_nil, Bool.and_true] at ht
        exact set _ _ ht
      | _ => simp [fixed] at hf
    | _ => simp [fixed] at hf
  | _ => simp [fixed] at hf

end Go.Nx
/- A region, soundly. -/
namespace Go.Nx
set_option linter.unusedVariables false
set_option linter.unusedSimpArgs false

def isCall : Op → Bool
  | .call { callee := .value _, .. } => true
  | _ => false
theorem fixedO_op {ow : List FuncId} {op : Op} (h : isCall op = false) : fixedO ow op = fixed op := by
  unfold fixedO
  split
  · simp [isCall] at h
  · rfl
theorem fixedO_false {ow : List FuncId} {op : Op} (h : fixedO ow op = false) : fixed op = false := by
  unfold fixedO at h
  split at h
  · rfl
  · exact h

/-- What is known of a result and of a heap may be known less well. -/
def Frz (x0 : AVal) (H0 : List Ob) (x : AVal) (H' : List Ob) : Prop := ∀ Γ y, HeapOk Γ H0 → concV Γ x0 y → ∃ Γ', Γ'.w = Γ.w ∧ Γ.Ext Γ' ∧ HeapOk Γ' H' ∧ concV Γ' x y
theorem Frz.refl (x : AVal) (H : List Ob) : Frz x H x H := fun Γ y h hc => ⟨Γ, rfl, .refl Γ, h, hc⟩
theorem Frz.trans {x0 x1 x2 : AVal} {H0 H1 H2 : List Ob} (h : Frz x0 H0 x1 H1) (h' : Frz x1 H1 x2 H2) : Frz x0 H0 x2 H2 := fun Γ y hk hc => by
  obtain ⟨Γ', e1, e2, e3, e4⟩ := h Γ y hk hc
  obtain ⟨Γ'', g1, g2, g3, g4⟩ := h' Γ' y e3 e4
  exact ⟨Γ'', g1.trans e1, e2.trans g2, g3, g4⟩
/-- What an operation does, told by its sense. -/
def SemO (P : Program) (e : Env) (H : List Ob) (op : Op) (x : AVal) (H' : List Ob) : Prop :=
  (∀ c y z, op ≠ .pick c y z) ∧ ∀ (Γ : Ctx) (a : Act) (o : Oper), o.op = op → HeapOk Γ H → (∀ p ∈ op.operands, Good Γ e a p) → OpRes Γ ((execOp a.eval o).run P Γ.w) x H'
/-- One operation of the reckoning. -/
def StepR (P : Program) (W : Option WW) (g : List (Nat × Bool)) (ex : Bool) (o : Oper) (e : Env) (H : List Ob) (b : Bool) (x : AVal) (H' : List Ob) : Prop :=
  actE e g = some b ∧ ((b = false ∧ H' = H) ∨ (∃ f args ts c caps as, o.op = .call { callee := .value f, args := args, argTypes := ts } ∧ evO e f = some (.c (.clo c caps)) ∧ allV (args.toList.map (evO e)) = some as ∧ H' = H ∧
      Obl.ok P ⟨b, c, as ++ caps.map .c, if ex then none else some H, x⟩) ∨
    (isCall o.op = false ∧ wOk W ex e H o.op = true ∧ gE b H (stp P e H o.op) = some (x, H')) ∨
    (b = true ∧ ex = false ∧ ∃ c args ts as, o.op = .call { callee := .value (.func c), args := args, argTypes := ts } ∧ (owOf W).contains c = true ∧ allV (args.toList.map (evO e)) = some as ∧ (∀ W0, W = some W0 → Agree W0.hs H H') ∧
      Call P c as H fun r' H1 => r' = x ∧ H1 = H') ∨
    (b = true ∧ isCall o.op = false ∧ fixed o.op = true ∧ wOk W ex e H o.op = true ∧ SemO P e H o.op x H' ∧ ∀ W0, W = some W0 → Agree W0.hs H H'))

/-- The region, reckoned in the order of the text. -/
inductive SpecR (P : Program) (W : Option WW) : List Oper → List (List (Nat × Bool)) → List Bool → Env → List Ob → Env → List Ob → Prop
  | nil {gs ex e H} : SpecR P W [] gs ex e H e H
  | cons {o os gs ex e H b x H1 e' H'} (h : StepR P W (gs.headD []) (ex.headD false) o e H b x H1) (hr : SpecR P W os gs.tail ex.tail (putE e o.dst x) H1 e' H') : SpecR P W (o :: os) gs ex e H e' H'

theorem specR_trace {P : Program} {W : Option WW} {ops : List Oper} {gs : List (List (Nat × Bool))} {ex : List Bool} {e : Env} {H : List Ob} {e' : Env} {H' : List Ob} (h : SpecR P W ops gs ex e H e' H') :
    ∃ (E : Nat → Env) (HH : Nat → List Ob) (X : Nat → AVal) (A : Nat → Bool), E 0 = e ∧ HH 0 = H ∧ E ops.length = e' ∧ HH ops.length = H' ∧
      ∀ (k : Nat) (o : Oper), ops[k]? = some o → StepR P W (gs.getD k []) (ex.getD k false) o (E k) (HH k) (A k) (X k) (HH (k + 1)) ∧ E (k + 1) = putE (E k) o.dst (X k) := by
  induction h with
  | nil => exact ⟨fun _ => _, fun _ => _, fun _ => unit, fun _ => true, rfl, rfl, rfl, rfl, fun k o hk => by simp at hk⟩
  | @cons o os gs ex e H b x H1 e' H' hs hr ih =>
    obtain ⟨E, HH, X, A, h1, h2, h3, h4, h5⟩ := ih
    refine ⟨fun k => match k with | 0 => e | k + 1 => E k, fun k => match k with | 0 => H | k + 1 => HH k, fun k => match k with | 0 => x | k + 1 => X k, fun k => match k with | 0 => b | k + 1 => A k, rfl, rfl, h3, h4, fun k o' hk => ?_⟩
    cases k with
    | zero =>
      simp at hk
      subst hk
      simp only [h1, h2, and_true]
      have e1 : gs.getD 0 [] = gs.headD [] := by cases gs <;> rfl
      have e2 : ex.getD 0 false = ex.headD false := by cases ex <;> rfl
      rw [e1, e2]
      exact hs
    | succ k =>
      have e1 : gs.getD (k + 1) [] = gs.tail.getD k [] := by cases gs <;> simp
      have e2 : ex.getD (k + 1) false = ex.tail.getD k false := by cases ex <;> simp
      rw [e1, e2]
      exact h5 k o' (by simpa using hk)

/-! What the edges must say. -/
def maskOf (acc : List Nat) (o : Oper) : Nat := o.after.toList.foldl (fun s ed => if Region.binds .any ed then s ||| (2 ^ ed.on ||| acc.getD ed.on 0) else s) 0
def masks : List Oper → List Nat → List Nat
  | [], acc => acc
  | o :: os, acc => masks os (acc ++ [maskOf acc o])
def anc (ms : List Nat) (j k : Nat) : Bool := (ms.getD k 0).testBit j
def tmpsOf (op : Op) : List Nat := op.operands.toList.filterMap fun | .tmp t => some t | _ => none
def dstOf (ops : List Oper) (k : Nat) : Option Nat := (ops[k]?).bind (·.dst)
def subG (a b : List (Nat × Bool)) : Bool := a.all fun g => b.contains g
/-- What must be wanted where an operand is. -/
def needG (op : Op) (g : List (Nat × Bool)) (t : Nat) : List (Nat × Bool) :=
  match op with
  | .pick (.tmp c) p q =>
    if t = c then g else match p, q with
      | .tmp a, .tmp b => if t = a ∧ t = b then g else if t = a then (c, true) :: g else (c, false) :: g
      | .tmp a, _ => if t = a then (c, true) :: g else g
      | _, .tmp b => if t = b then (c, false) :: g else g
      | _, _ => g
  | _ => g
def chkOp (ow : List FuncId) (ops : List Oper) (gs : List (List (Nat × Bool))) (ex : List Bool) (draw : Bool) (n : Nat) (ms : List Nat) (k : Nat) (o : Oper) : Bool :=
  let len := ops.length
  let g := gs.getD k []
  (o.after.toList.all fun ed => !Region.binds .any ed || ed.on < k) &&
  (match o.dst with | some d => d < n | none => true) &&
  ((List.range len).all fun j => j == k || o.dst == none || dstOf ops j != o.dst) &&
  (match o.guard with
    | none => g == []
    | some (j, w) => j < k && (match dstOf ops j with | some s => g == (s, w) :: gs.getD j [] | none => false) && (!draw || anc ms j k)) &&
  ((tmpsOf o.op).all fun t => o.dst != some t && (List.range len).all fun j => if dstOf ops j = some t then (if j < k then (!draw || anc ms j k) && subG (gs.getD j []) (needG o.op g t) else !draw || anc ms k j) else true) &&
  (g.all fun (s, _) => o.dst != some s && (List.range len).all fun j => if dstOf ops j = some s then j < k && (!draw || anc ms j k) else true) &&
  (!draw || (List.range len).all fun j => if j < k then (match ops[j]? with
      | some p => (if fixedO ow o.op && fixedO ow p.op then anc ms j k else true) && (if fixedO ow o.op && !fixedO ow p.op then (ex.getD j false && !ex.getD k false) || anc ms j k else true) && (if !fixedO ow o.op && fixedO ow p.op then (ex.getD k false && !ex.getD j false) || anc ms j k else true)
      | none => true) else true)
def chk (ow : List FuncId) (ops : List Oper) (gs : List (List (Nat × Bool))) (ex : List Bool) (draw : Bool) (n : Nat) : Bool :=
  let ms := masks ops []
  (List.range ops.length).all fun k => match ops[k]? with
    | some o => chkOp ow ops gs ex draw n ms k o
    | none => true

theorem masks_append : ∀ (ops : List Oper) (acc : List Nat), ∃ l, masks ops acc = acc ++ l ∧ l.length = ops.length ∧ ∀ (k : Nat) (o : Oper), ops[k]? = some o → l[k]? = some (maskOf (acc ++ l.take k) o)
  | [], acc => ⟨[], by simp [masks], rfl, by simp⟩
  | o :: os, acc => by
    obtain ⟨l, h1, h2, h3⟩ := masks_append os (acc ++ [maskOf acc o])
    refine ⟨maskOf acc o :: l, by simp [masks, h1], by simp [h2], fun k p hk => ?_⟩
    cases k with
    | zero => simp at hk; subst hk; simp
    | succ k =>
      have := h3 k p (by simpa using hk)
      simpa using this

theorem maskOf_testBit (acc : List Nat) (o : Oper) (j : Nat) (h : (maskOf acc o).testBit j = true) : ∃ ed ∈ o.after.toList, Region.binds .any ed = true ∧ (ed.on = j ∨ (acc.getD ed.on 0).testBit j = true) := by
  unfold maskOf at h
  have key : ∀ (l : List Edge) (s : Nat), (l.foldl (fun s ed => if Region.binds .any ed then s ||| (2 ^ ed.on ||| acc.getD ed.on 0) else s) s).testBit j = true →
      s.testBit j = true ∨ ∃ ed ∈ l, Region.binds .any ed = true ∧ (ed.on = j ∨ (acc.getD ed.on 0).testBit j = true) := by
    intro l
    induction l with
    | nil => intro s h; exact .inl h
    | cons ed l ih =>
      intro s h
      simp only [List.foldl_cons] at h
      rcases ih _ h with h1 | ⟨ed', h1, h2, h3⟩
      · split at h1
        · rename_i hb
          rw [Nat.testBit_or, Nat.testBit_or] at h1
          simp only [Bool.or_eq_true] at h1
          rcases h1 with h1 | h1 | h1
          · exact .inl h1
          · right
            refine ⟨ed, by simp, hb, .inl ?_⟩
            simpa [Nat.testBit_two_pow] using h1
          · exact .inr ⟨ed, by simp, hb, .inr h1⟩
        · exact .inl h1
      · exact .inr ⟨ed', by simp [h1], h2, h3⟩
  rcases key _ 0 h with h1 | h1
  · simp at h1
  · exact h1

/-- What an operation waits for has been done. -/
theorem anc_listed {ops : List Oper} {listed : Nat → Prop} (hlt : ∀ (k : Nat) (o : Oper), ops[k]? = some o → ∀ ed ∈ o.after.toList, Region.binds .any ed = true → ed.on < k)
    (hcl : ∀ (k : Nat) (o : Oper), ops[k]? = some o → listed k → ∀ ed ∈ o.after.toList, Region.binds .any ed = true → listed ed.on) :
    ∀ (k : Nat) (o : Oper), ops[k]? = some o → (∀ ed ∈ o.after.toList, Region.binds .any ed = true → listed ed.on) → ∀ j, anc (masks ops []) j k = true → listed j := by
  obtain ⟨l, h1, h2, h3⟩ := masks_append ops []
  simp only [List.nil_append] at h1 h3
  intro k
  induction k using Nat.strongRecOn with
  | _ k ih =>
    intro o ho hdep j hj
    have hkl : k < ops.length := (List.getElem?_eq_some_iff.1 ho).1
    have hm := h3 k o ho
    unfold anc at hj
    rw [h1, List.getD_eq_getElem?_getD, hm, Option.getD_some] at hj
    obtain ⟨ed, he1, he2, he3⟩ := maskOf_testBit _ o j hj
    rcases he3 with rfl | he3
    · exact hdep ed he1 he2
    · have hlt' := hlt k o ho ed he1 he2
      obtain ⟨o', ho'⟩ : ∃ o', ops[ed.on]? = some o' := ⟨ops[ed.on]'(by omega), List.getElem?_eq_getElem (by omega)⟩
      refine ih ed.on hlt' o' ho' (hcl ed.on o' ho' (hdep ed he1 he2)) j ?_
      unfold anc
      rw [h1]
      rw [List.getD_eq_getElem?_getD, List.getElem?_take_of_lt hlt'] at he3
      rw [List.getD_eq_getElem?_getD]
      exact he3

end Go.Nx
/- A region, soundly: one operation. -/
namespace Go.Nx
set_option linter.unusedVariables false
set_option linter.unusedSimpArgs false

theorem callFunc_enters {P : Program} {f : FuncId} (h : enters P f = true) (args : Array Value) (w : World) : (callFunc f args).run P w = .ok (.enter f args) w := by
  unfold enters at h
  split at h
  · rename_i fn hf
    simp only [Bool.and_eq_true, bne_iff_ne, ne_eq, Option.isSome_iff_ne_none] at h
    have hb : fn.body.isNone = false := by
      cases hb : fn.body with
      | none => exact absurd hb h.2
      | some b => rfl
    simp only [callFunc, Sem.run_bind, run_program, Result.andThen_ok, hf]
    simp [h.1, h.2]
  · cases h

theorem call_run {P : Program} {w : World} {o : Oper} {f : Operand} {args : Array Operand} {ts : Array TypeId} (ho : o.op = .call { callee := .value f, args := args, argTypes := ts }) {ρ : Operand → Value} {c : FuncId} {ys : Array Value}
    (hf : ρ f = .func (.func c) #[] ys) (he : enters P c = true) : (execOp ρ o).run P w = .ok (.enter c (args.map ρ ++ ys)) w := by
  simp [execOp, ho, resolve, hf, Deferred.ofValue, invoke, callFunc_enters he]

theorem concVs_append {Γ : Ctx} : ∀ {as bs : List AVal} {xs ys : List Value}, concVs Γ as xs → concVs Γ bs ys → concVs Γ (as ++ bs) (xs ++ ys)
  | [], bs, xs, ys, h, h' => by
    simp only [concVs] at h
    subst h
    simpa using h'
  | a :: as, bs, xs, ys, h, h' => by
    simp only [concVs] at h
    obtain ⟨y, ys', rfl, h2, h3⟩ := h
    simp only [List.cons_append, concVs]
    exact ⟨y, _, rfl, h2, concVs_append h3 h'⟩

theorem concVs_leaves {Γ : Ctx} : ∀ {ls : List Leaf} {ys : List Value}, concAll Γ ls ys → concVs Γ (ls.map .c) ys
  | [], ys, h => by simpa [concAll, concVs] using h
  | l :: ls, ys, h => by
    simp only [concAll] at h
    obtain ⟨y, ys', rfl, h2, h3⟩ := h
    simp only [List.map_cons, concVs, concV]
    exact ⟨y, _, rfl, h2, concVs_leaves h3⟩

theorem allV_spec {Γ : Ctx} {e : Env} {a : Act} : ∀ (ops : List Operand) (as : List AVal), (∀ p ∈ ops, Good Γ e a p) → allV (ops.map (evO e)) = some as → concVs Γ as (ops.map a.eval)
  | [], as, _, h => by
    simp [allV] at h
    subst h
    simp [concVs]
  | p :: ps, as, hg, h => by
    simp only [List.map_cons] at h
    unfold allV at h
    split at h
    · rename_i heq; cases heq
    · rename_i x r heq
      simp only [List.cons.injEq] at heq
      obtain ⟨h1, rfl⟩ := heq
      simp only [Option.map_eq_some_iff] at h
      obtain ⟨as', h2, rfl⟩ := h
      simp only [List.map_cons, concVs]
      exact ⟨_, _, rfl, hg p (by simp) _ h1, allV_spec ps as' (fun q hq => hg q (by simp [hq])) h2⟩
    · cases h

theorem actE_true {e : Env} : ∀ {g : List (Nat × Bool)}, actE e g = some true → ∀ s w, (s, w) ∈ g → e.get s = some (.c (.v (.bool w)))
  | [], _, s, w, h => by simp at h
  | (s', w') :: r, h, s, w, hm => by
    simp only [actE] at h
    split at h
    · rename_i b c h1 h2
      simp only [Option.some.injEq, Bool.and_eq_true, beq_iff_eq] at h
      obtain ⟨rfl, rfl⟩ := h
      rcases List.mem_cons.1 hm with hm | hm
      · cases hm; exact h1
      · exact actE_true h2 s w hm
    · cases h

theorem actE_of {e : Env} : ∀ {g : List (Nat × Bool)}, (∀ s w, (s, w) ∈ g → e.get s = some (.c (.v (.bool w)))) → actE e g = some true
  | [], _ => rfl
  | (s, w) :: r, h => by
    simp [actE, h s w (by simp), actE_of (g := r) (fun s' w' hm => h s' w' (by simp [hm]))]

theorem actE_congr {e e' : Env} : ∀ {g : List (Nat × Bool)}, (∀ s w, (s, w) ∈ g → e'.get s = e.get s) → actE e' g = actE e g
  | [], _ => rfl
  | (s, w) :: r, h => by
    simp [actE, h s w (by simp), actE_congr (g := r) (fun s' w' hm => h s' w' (by simp [hm]))]

section
variable {P : Program} {W : Option WW} {ops : Array Oper} {gs : List (List (Nat × Bool))} {ex : List Bool} {draw : Bool} {n : Nat} {Γ0 : Ctx} {e0 : Env}
  {E : Nat → Env} {HH : Nat → List Ob} {X : Nat → AVal} {A : Nat → Bool}

/-- The reckoning's trace. -/
structure Trace (P : Program) (W : Option WW) (ops : List Oper) (gs : List (List (Nat × Bool))) (ex : List Bool) (e0 : Env) (E : Nat → Env) (HH : Nat → List Ob) (X : Nat → AVal) (A : Nat → Bool) : Prop where
  zero : E 0 = e0
  step : ∀ (k : Nat) (o : Oper), ops[k]? = some o → StepR P W (gs.getD k []) (ex.getD k false) o (E k) (HH k) (A k) (X k) (HH (k + 1))
  env : ∀ (k : Nat) (o : Oper), ops[k]? = some o → E (k + 1) = putE (E k) o.dst (X k)

theorem chk_op {ow : List FuncId} {l : List Oper} (h : chk ow l gs ex draw n = true) {k : Nat} {o : Oper} (ho : l[k]? = some o) : chkOp ow l gs ex draw n (masks l []) k o = true := by
  unfold chk at h
  rw [List.all_eq_true] at h
  have := h k (by rw [List.mem_range]; exact (List.getElem?_eq_some_iff.1 ho).1)
  simpa [ho] using this

structure Checked (ow : List FuncId) (l : List Oper) (gs : List (List (Nat × Bool))) (ex : List Bool) (draw : Bool) (n k : Nat) (o : Oper) : Prop where
  edges : ∀ ed ∈ o.after.toList, Region.binds .any ed = true → ed.on < k
  dst : ∀ d, o.dst = some d → d < n
  own : ∀ j, j < l.length → j ≠ k → ∀ d, o.dst = some d → dstOf l j ≠ some d
  guard0 : o.guard = none → gs.getD k [] = []
  guard1 : ∀ j w, o.guard = some (j, w) → j < k ∧ (∃ s, dstOf l j = some s ∧ gs.getD k [] = (s, w) :: gs.getD j []) ∧ (draw = true → anc (masks l []) j k = true)
  tmps : ∀ t ∈ tmpsOf o.op, o.dst ≠ some t ∧ ∀ j, j < l.length → dstOf l j = some t → (j < k → (draw = true → anc (masks l []) j k = true) ∧ subG (gs.getD j []) (needG o.op (gs.getD k []) t) = true) ∧ (¬ j < k → draw = true → anc (masks l []) k j = true)
  slots : ∀ s w, (s, w) ∈ gs.getD k [] → o.dst ≠ some s ∧ ∀ j, j < l.length → dstOf l j = some s → j < k ∧ (draw = true → anc (masks l []) j k = true)
  order : draw = true → ∀ j, j < k → ∀ p, l[j]? = some p → (fixedO ow o.op = true → fixedO ow p.op = true → anc (masks l []) j k = true) ∧
    (fixedO ow o.op = true → fixedO ow p.op = false → (ex.getD j false = true ∧ ex.getD k false = false) ∨ anc (masks l []) j k = true) ∧ (fixedO ow o.op = false → fixedO ow p.op = true → (ex.getD k false = true ∧ ex.getD j false = false) ∨ anc (masks l []) j k = true)

theorem chkOp_spec {ow : List FuncId} {l : List Oper} {k : Nat} {o : Oper} (h : chkOp ow l gs ex draw n (masks l []) k o = true) : Checked ow l gs ex draw n k o := by
  unfold chkOp at h
  simp only [Bool.and_eq_true] at h
  obtain ⟨⟨⟨⟨⟨⟨h1, h2⟩, h3⟩, h4⟩, h5⟩, h6⟩, h7⟩ := h
  refine ⟨?_, ?_, ?_, ?_, ?_, ?_, ?_, ?_⟩
  · intro ed he hb
    rw [List.all_eq_true] at h1
    have := h1 ed he
    simpa [hb] using this
  · intro d hd
    simpa [hd] using h2
  · intro j hj hjk d hd hc
    rw [List.all_eq_true] at h3
    have := h3 j (by simpa using hj)
    simp [hjk, hd, hc] at this
  · intro hg
    simpa [hg] using h4
  · intro j w hg
    simp only [hg, Bool.and_eq_true, decide_eq_true_eq] at h4
    obtain ⟨⟨a1, a2⟩, a3⟩ := h4
    refine ⟨a1, ?_, fun hd => by simpa [hd] using a3⟩
    split at a2
    · rename_i s hs
      exact ⟨s, hs, by simpa using a2⟩
    · cases a2
  · intro t ht
    rw [List.all_eq_true] at h5
    have := h5 t ht
    simp only [Bool.and_eq_true, bne_iff_ne, ne_eq, List.all_eq_true, List.mem_range] at this
    refine ⟨this.1, fun j hj hd => ?_⟩
    have h := this.2 j hj
    rw [if_pos hd] at h
    constructor
    · intro hlt
      rw [if_pos hlt] at h
      simp only [Bool.and_eq_true, Bool.or_eq_true, Bool.not_eq_true'] at h
      exact ⟨fun hdr => by simpa [hdr] using h.1, h.2⟩
    · intro hlt hdr
      rw [if_neg hlt] at h
      simpa [hdr] using h
  · intro s w hm
    rw [List.all_eq_true] at h6
    have := h6 (s, w) hm
    simp only [Bool.and_eq_true, bne_iff_ne, ne_eq, List.all_eq_true, List.mem_range] at this
    refine ⟨this.1, fun j hj hd => ?_⟩
    have h := this.2 j hj
    rw [if_pos hd] at h
    simp only [Bool.and_eq_true, decide_eq_true_eq, Bool.or_eq_true, Bool.not_eq_true'] at h
    exact ⟨h.1, fun hdr => by simpa [hdr] using h.2⟩
  · intro hd j hj p hp
    simp only [hd, Bool.not_true, Bool.false_or, List.all_eq_true, List.mem_range] at h7
    have h := h7 j (List.getElem?_eq_some_iff.1 hp).1
    rw [if_pos hj, hp] at h
    simp only [Bool.and_eq_true] at h
    refine ⟨fun a b => by simpa [a, b] using h.1.1, fun a b => by simpa [a, b] using h.1.2, fun a b => by simpa [a, b] using h.2⟩

theorem Trace.get1 {l : List Oper} (ht : Trace P W l gs ex e0 E HH X A) {j t : Nat} : ∀ (i : Nat), j < i → i ≤ l.length → dstOf l j = some t → (∀ m, j < m → m < i → dstOf l m ≠ some t) → (E i).get t = some (X j)
  | 0, h, _, _, _ => by omega
  | i + 1, h, hi, hd, hu => by
    have ho : l[i]? = some (l[i]'(by omega)) := List.getElem?_eq_getElem (by omega)
    rw [ht.env i _ ho, Env.get_put]
    by_cases he : j = i
    · subst he
      have : (l[j]'(by omega)).dst = some t := by simpa [dstOf, ho] using hd
      simp [this]
    · have hne : (l[i]'(by omega)).dst ≠ some t := by
        have := hu i (by omega) (by omega)
        simpa [dstOf, ho] using this
      rw [if_neg hne]
      exact ht.get1 i (by omega) (by omega) hd (fun m h1 h2 => hu m h1 (by omega))

theorem Trace.get0 {l : List Oper} (ht : Trace P W l gs ex e0 E HH X A) {t : Nat} : ∀ (j i : Nat), j ≤ i → i ≤ l.length → (∀ m, j ≤ m → m < i → dstOf l m ≠ some t) → (E i).get t = (E j).get t
  | j, 0, hj, _, _ => by rw [show j = 0 by omega]
  | j, i + 1, hj, hi, hu => by
    by_cases he : j = i + 1
    · rw [he]
    · have ho : l[i]? = some (l[i]'(by omega)) := List.getElem?_eq_getElem (by omega)
      have hne : (l[i]'(by omega)).dst ≠ some t := by
        have := hu i (by omega) (by omega)
        simpa [dstOf, ho] using this
      rw [ht.env i _ ho, Env.get_put, if_neg hne]
      exact ht.get0 j i (by omega) (by omega) (fun m h1 h2 => hu m h1 (by omega))

theorem Trace.still {l : List Oper} (ht : Trace P W l gs ex e0 E HH X A) {k : Nat} {o : Oper} (ho : l[k]? = some o) (hf : fixedO (owOf W) o.op = false ∨ A k = false) : HH (k + 1) = HH k := by
  obtain ⟨h1, h2⟩ := ht.step k o ho
  rcases h2 with ⟨_, hH⟩ | ⟨f, args, ts, c, caps, as, hop, _, _, hH, _⟩ | ⟨hc, hw, hg⟩ | ⟨hb, _, c, args, ts, as, hop, how, _⟩ | ⟨hb, hc5, hf5, _⟩
  · exact hH
  · exact hH
  rotate_left
  rotate_left
  · exfalso
    rcases hf with hf | hf
    · rw [fixedO_op hc5, hf5] at hf
      cases hf
    · rw [hb] at hf
      cases hf
  rotate_left
  · exfalso
    rcases hf with hf | hf
    · rw [hop] at hf
      simp only [fixedO] at hf
      rw [how] at hf
      cases hf
    · rw [hb] at hf
      cases hf
  · unfold gE at hg
    split at hg
    · rename_i x H1 hs
      simp only [Option.some.injEq, Prod.mk.injEq] at hg
      obtain ⟨_, hg⟩ := hg
      rcases hf with hf | hf
      · have := stp_mobile (fixedO_false hf) hs
        subst this
        rw [← hg]
        cases A k <;> rfl
      · rw [hf] at hg
        exact hg.symm
    · cases hA : A k <;> rw [hA] at hg
      · simp at hg
        exact hg.2.symm
      · simp at hg

theorem Trace.const {l : List Oper} (ht : Trace P W l gs ex e0 E HH X A) : ∀ (j i : Nat), j ≤ i → i ≤ l.length → (∀ (m : Nat) (o : Oper), j ≤ m → m < i → l[m]? = some o → fixedO (owOf W) o.op = false) → HH i = HH j
  | j, 0, hj, _, _ => by rw [show j = 0 by omega]
  | j, i + 1, hj, hi, hu => by
    by_cases he : j = i + 1
    · rw [he]
    · have ho : l[i]? = some (l[i]'(by omega)) := List.getElem?_eq_getElem (by omega)
      rw [ht.still ho (.inl (hu i _ (by omega) (by omega) ho))]
      exact ht.const j i (by omega) (by omega) (fun m o h1 h2 h3 => hu m o h1 (by omega) h3)

theorem Agree.refl (W : List Nat) (H : List Ob) : Agree W H H := fun _ _ _ => rfl
theorem Agree.symm {W : List Nat} {H H' : List Ob} (h : Agree W H H') : Agree W H' H := fun n v hn => (h n v hn).symm
theorem Agree.trans {W : List Nat} {H H' H'' : List Ob} (h : Agree W H H') (h' : Agree W H' H'') : Agree W H H'' := fun n v hn => (h' n v hn).trans (h n v hn)

theorem Trace.agree1 {l : List Oper} {W' : WW} (ht : Trace P (some W') l gs ex e0 E HH X A) {k : Nat} {o : Oper} (ho : l[k]? = some o) (hx : fixedO W'.ow o.op = true → ex.getD k false = false) : Agree W'.hs (HH k) (HH (k + 1)) := by
  by_cases hf : fixedO W'.ow o.op = false ∨ A k = false
  · rw [ht.still ho hf]; exact .refl _ _
  · have hf1 : fixedO W'.ow o.op = true := by
      cases h : fixedO W'.ow o.op with
      | true => rfl
      | false => exact absurd (.inl h) hf
    have hA : A k = true := by
      cases h : A k with
      | true => rfl
      | false => exact absurd (.inr h) hf
    obtain ⟨h1, h2⟩ := ht.step k o ho
    rcases h2 with ⟨_, hH⟩ | ⟨f, args, ts, c, caps, as, hop, _, _, hH, _⟩ | ⟨hc, hw, hg⟩ | ⟨hb, hex, c, args, ts, as, hop, how, _, hag, _⟩ | ⟨hb, hc5, hf5, _, _, hag⟩
    · rw [hH]; exact .refl _ _
    · rw [hH]; exact .refl _ _
    rotate_left
    · exact hag _ rfl
    · exact hag _ rfl
    · unfold gE at hg
      split at hg
      · rename_i x H1 hs
        simp only [Option.some.injEq, Prod.mk.injEq, hA, cond_true] at hg
        obtain ⟨_, rfl⟩ := hg
        refine stp_touch (by rw [← fixedO_op (ow := W'.ow) hc]; exact hf1) ?_ hs
        simpa only [wOk, hf1, hx hf1, if_true, Bool.false_or] using hw
      · simp [hA] at hg

theorem Trace.agree {l : List Oper} {W' : WW} (ht : Trace P (some W') l gs ex e0 E HH X A) : ∀ (j i : Nat), j ≤ i → i ≤ l.length → (∀ (m : Nat) (p : Oper), j ≤ m → m < i → l[m]? = some p → fixedO W'.ow p.op = true → ex.getD m false = false) → Agree W'.hs (HH j) (HH i)
  | j, 0, hj, _, _ => by rw [show j = 0 by omega]; exact .refl _ _
  | j, i + 1, hj, hi, hx => by
    by_cases he : j = i + 1
    · rw [he]; exact .refl _ _
    · have ho : l[i]? = some (l[i]'(by omega)) := List.getElem?_eq_getElem (by omega)
      exact (ht.agree j i (by omega) (by omega) (fun m p h1 h2 => hx m p h1 (by omega))).trans (ht.agree1 ho (hx i _ (by omega) (by omega) ho))

end
end Go.Nx
/- A region, soundly: one operation done. -/
namespace Go.Nx
set_option linter.unusedVariables false
set_option linter.unusedSimpArgs false

section
variable {P : Program} {W : Option WW} {ops : Array Oper} {gs : List (List (Nat × Bool))} {ex : List Bool} {draw : Bool} {n : Nat} {Γ0 : Ctx} {e0 : Env}
  {E : Nat → Env} {HH : Nat → List Ob} {X : Nat → AVal} {A : Nat → Bool} {Q : Exit → Act → World → Prop}

/-- What holds where the operations of L have been done. -/
structure Inv (ow : List FuncId) (n : Nat) (Γ0 : Ctx) (l : List Oper) (e0 : Env) (HH : Nat → List Ob) (X : Nat → AVal) (A : Nat → Bool) (L : Nat → Prop) (a : Act) (w : World) : Prop where
  dfr : a.defers = []
  sz : a.tmps.size = n
  ctx : ∃ Γ c, Γ.w = w ∧ Γ0.Ext Γ ∧ HeapOk Γ (HH c) ∧ c ≤ l.length ∧ (∀ (k : Nat) (o : Oper), l[k]? = some o → fixedO ow o.op = true → (k < c ↔ L k)) ∧
    (∀ t x, e0.get t = some x → (∀ k, k < l.length → dstOf l k = some t → ¬ L k) → ∃ y, a.tmps[t]? = some y ∧ concV Γ x y) ∧
    (∀ k t, k < l.length → L k → dstOf l k = some t → (A k = true → ∃ y, a.tmps[t]? = some y ∧ concV Γ (X k) y) ∧ (A k = false → a.tmps[t]? = some undef))

theorem dstOf_some {l : List Oper} {k : Nat} {o : Oper} (ho : l[k]? = some o) : dstOf l k = o.dst := by simp [dstOf, ho]

theorem put_get {a : Act} {d : Option Nat} {v : Value} {t : Nat} (hne : d ≠ some t) : (a.put d v).tmps[t]? = a.tmps[t]? := by
  cases d with
  | none => rfl
  | some s => simp only [Act.put]; rw [Array.getElem?_setIfInBounds_ne]; intro e; exact hne (by rw [e])

theorem put_same {a : Act} {s : Nat} {v : Value} (h : s < a.tmps.size) : (a.put (some s) v).tmps[s]? = some v := by
  simp [Act.put, h]

theorem put_size {a : Act} {d : Option Nat} {v : Value} : (a.put d v).tmps.size = a.tmps.size := by cases d <;> simp [Act.put]
theorem put_defers {a : Act} {d : Option Nat} {v : Value} : (a.put d v).defers = a.defers := by cases d <;> rfl

/-- The state behind one operation. -/
theorem Inv.next {ow : List FuncId} {l : List Oper} {L : Nat → Prop} {a : Act} {w' : World} {i : Nat} {o : Oper} (ho : l[i]? = some o) (hc : Checked ow l gs ex draw n i o) (hi : ¬ L i) {Γ Γ' : Ctx} {c' : Nat} {v : Value}
    (dfr : a.defers = []) (sz : a.tmps.size = n) (hext0 : Γ0.Ext Γ)
    (h1 : ∀ t x, e0.get t = some x → (∀ k, k < l.length → dstOf l k = some t → ¬ L k) → ∃ y, a.tmps[t]? = some y ∧ concV Γ x y)
    (h2 : ∀ k t, k < l.length → L k → dstOf l k = some t → (A k = true → ∃ y, a.tmps[t]? = some y ∧ concV Γ (X k) y) ∧ (A k = false → a.tmps[t]? = some undef))
    (hw : Γ'.w = w') (hext : Γ.Ext Γ') (hok : HeapOk Γ' (HH c')) (hcl : c' ≤ l.length) (hcut : ∀ (k : Nat) (p : Oper), l[k]? = some p → fixedO ow p.op = true → (k < c' ↔ (L k ∨ k = i)))
    (hv1 : A i = true → concV Γ' (X i) v) (hv2 : A i = false → v = undef) :
    Inv ow n Γ0 l e0 HH X A (fun k => L k ∨ k = i) (a.put o.dst v) w' := by
  have hil : i < l.length := (List.getElem?_eq_some_iff.1 ho).1
  refine ⟨by rw [put_defers]; exact dfr, by rw [put_size]; exact sz, Γ', c', hw, hext0.trans hext, hok, hcl, hcut, fun t x hx hno => ?_, fun k t hk hL hd => ?_⟩
  · have hne : o.dst ≠ some t := fun hd => hno i hil (by rw [dstOf_some ho]; exact hd) (.inr rfl)
    obtain ⟨y, g1, g2⟩ := h1 t x hx (fun k hk hd hL => hno k hk hd (.inl hL))
    exact ⟨y, by rw [put_get hne]; exact g1, concV_mono hext.le _ _ g2⟩
  · by_cases hki : k = i
    · subst hki
      rw [dstOf_some ho] at hd
      have hlt := hc.dst t hd
      have hs : (a.put o.dst v).tmps[t]? = some v := by rw [hd]; exact put_same (by rw [sz]; exact hlt)
      exact ⟨fun hA => ⟨v, hs, hv1 hA⟩, fun hA => by rw [hs, hv2 hA]⟩
    · have hL' : L k := hL.resolve_right hki
      have hne : o.dst ≠ some t := by
        intro hod
        exact hc.own k hk hki t hod hd
      obtain ⟨g1, g2⟩ := h2 k t hk hL' hd
      refine ⟨fun hA => ?_, fun hA => by rw [put_get hne]; exact g2 hA⟩
      obtain ⟨y, g3, g4⟩ := g1 hA
      exact ⟨y, by rw [put_get hne]; exact g3, concV_mono hext.le _ _ g4⟩

theorem sim_step (hW : draw = true → ∃ W', W = some W') (hchk : chk (owOf W) ops.toList gs ex draw n = true) (ht : Trace P W ops.toList gs ex e0 E HH X A) {L : Nat → Prop} {a : Act} {w : World} (hI : Inv (owOf W) n Γ0 ops.toList e0 HH X A L a w)
    {i : Nat} {o : Oper} (ho : ops.toList[i]? = some o) (hi : ¬ L i) (hneed : ∀ j, j < i → (draw = true → anc (masks ops.toList []) j i = true) → L j) (hlate : ∀ j, j < ops.toList.length → i < j → (draw = true → anc (masks ops.toList []) i j = true) → ¬ L j)
    {K : Act → World → Prop} (hK : ∀ a' w', Inv (owOf W) n Γ0 ops.toList e0 HH X A (fun k => L k ∨ k = i) a' w' → K a' w') : wpOp P ops Q i K a w := by
  have hc := chkOp_spec (chk_op hchk ho)
  have hil : i < ops.toList.length := (List.getElem?_eq_some_iff.1 ho).1
  obtain ⟨dfr, sz, Γ, c, rfl, hext0, hok, hcl, hcut, h1, h2⟩ := hI
  have hoa : ops[i]? = some o := by simpa using ho
  obtain ⟨hact, hstep⟩ := ht.step i o ho
  -- what is known of the operands' slots
  have hget : ∀ j t, j < i → dstOf ops.toList j = some t → (E i).get t = some (X j) := by
    intro j t hj hd
    refine ht.get1 i hj (by omega) hd (fun m hm1 hm2 hdm => ?_)
    have hoj : ops.toList[j]? = some (ops.toList[j]'(by omega)) := List.getElem?_eq_getElem (by omega)
    have hcj := chkOp_spec (chk_op hchk hoj)
    exact hcj.own m (by omega) (by omega) t (by rw [← dstOf_some hoj]; exact hd) hdm
  have hAsub : ∀ j, j < i → ∀ t, dstOf ops.toList j = some t → (∀ s b, (s, b) ∈ gs.getD j [] → (E i).get s = some (.c (.v (.bool b)))) → A j = true := by
    intro j hj t hd hs
    have hoj : ops.toList[j]? = some (ops.toList[j]'(by omega)) := List.getElem?_eq_getElem (by omega)
    have hcj := chkOp_spec (chk_op hchk hoj)
    have hactj := (ht.step j _ hoj).1
    have : actE (E j) (gs.getD j []) = some true := by
      refine actE_of fun s b hm => ?_
      rw [← hs s b hm]
      exact (ht.get0 j i (by omega) (by omega) (fun m hm1 hm2 hdm => by
        have := (hcj.slots s b hm).2 m (by omega) hdm
        omega)).symm
    rw [this] at hactj
    exact (Option.some.inj hactj).symm
  -- is it wanted?
  have hwant : Region.wanted o (yielded ops a.tmps) = A i := by
    cases hg : o.guard with
    | none =>
      have := hc.guard0 hg
      rw [this] at hact
      simp only [actE, Option.some.injEq] at hact
      simp [Region.wanted, hg, hact]
    | some jw =>
      obtain ⟨j, b⟩ := jw
      obtain ⟨hj, ⟨s, hd, hgs⟩, hanc⟩ := hc.guard1 j b hg
      have hL := hneed j hj hanc
      have hgj := hget j s hj hd
      rw [hgs] at hact
      simp only [actE, hgj] at hact
      split at hact
      case h_2 => cases hact
      rename_i v c' hXj hact'
      simp only [Option.some.injEq] at hXj
      have hoj : ops.toList[j]? = some (ops.toList[j]'(by omega)) := List.getElem?_eq_getElem (by omega)
      have hcj := chkOp_spec (chk_op hchk hoj)
      have hactj := (ht.step j _ hoj).1
      have hcong : actE (E i) (gs.getD j []) = actE (E j) (gs.getD j []) := actE_congr fun s' w' hm => ht.get0 j i (by omega) (by omega) (fun m hm1 hm2 hdm => by
        have := (hcj.slots s' w' hm).2 m (by omega) hdm
        omega)
      rw [hcong, hactj] at hact'
      cases hact'
      simp only [Option.some.injEq] at hact
      have hdo : ((ops[j]?).bind (·.dst)) = some s := by
        have : dstOf ops.toList j = some s := hd
        simpa [dstOf] using this
      obtain ⟨g1, g2⟩ := h2 j s (by omega) hL hd
      simp only [Region.wanted, hg, yielded, hdo, Option.bind_some]
      cases hAj : A j with
      | true =>
        obtain ⟨y, g3, g4⟩ := g1 hAj
        rw [hXj] at g4
        simp only [concV, conc] at g4
        rw [g3, g4.1, ← hact, hAj]
        simp
      | false =>
        rw [g2 hAj, ← hact, hAj]
        simp [undef]
  unfold wpOp
  simp only [hoa]
  rw [hwant]
  -- the heap where one is
  have hfix : fixedO (owOf W) o.op = true → HH c = HH i ∧ c ≤ i := by
    intro hf
    have hci : c ≤ i := by
      rcases Nat.lt_or_ge i c with h | h
      · exact absurd ((hcut i o ho hf).1 h) hi
      · exact h
    refine ⟨(ht.const c i hci (by omega) (fun m p hm1 hm2 hp => ?_)).symm, hci⟩
    cases hfp : fixedO (owOf W) p.op with
    | false => rfl
    | true =>
      have hL : L m := hneed m hm2 (fun hd => (hc.order hd m hm2 p hp).1 hf hfp)
      have := (hcut m p hp hfp).2 hL
      omega
  have hmob : fixedO (owOf W) o.op = false → (draw = true → ex.getD i false = false) → HH c = HH i := by
    intro hf hex
    rcases Nat.le_total c i with hci | hci
    · refine (ht.const c i hci (by omega) (fun m p hm1 hm2 hp => ?_)).symm
      cases hfp : fixedO (owOf W) p.op with
      | false => rfl
      | true =>
        have hL : L m := hneed m hm2 (fun hd => by
          rcases (hc.order hd m hm2 p hp).2.2 hf hfp with h | h
          · rw [hex hd] at h; cases h.1
          · exact h)
        have := (hcut m p hp hfp).2 hL
        omega
    · refine ht.const i c hci hcl (fun m p hm1 hm2 hp => ?_)
      cases hfp : fixedO (owOf W) p.op with
      | false => rfl
      | true =>
        have hL : L m := (hcut m p hp hfp).1 hm2
        have hmi : m ≠ i := fun e => hi (e ▸ hL)
        have hml : m < ops.toList.length := (List.getElem?_eq_some_iff.1 hp).1
        refine absurd hL (hlate m hml (by omega) (fun hd => ?_))
        have hcm := chkOp_spec (chk_op hchk hp)
        rcases (hcm.order hd i (by omega) o ho).2.1 hfp hf with h | h
        · rw [hex hd] at h; cases h.1
        · exact h
  have hcutm : fixedO (owOf W) o.op = false → ∀ (k : Nat) (p : Oper), ops.toList[k]? = some p → fixedO (owOf W) p.op = true → (k < c ↔ (L k ∨ k = i)) := by
    intro hf k p hp hfp
    rw [hcut k p hp hfp]
    constructor
    · exact .inl
    · rintro (h | rfl)
      · exact h
      · rw [ho] at hp
        cases hp
        rw [hf] at hfp
        cases hfp
  have hcutf : fixedO (owOf W) o.op = true → ∀ (k : Nat) (p : Oper), ops.toList[k]? = some p → fixedO (owOf W) p.op = true → (k < i + 1 ↔ (L k ∨ k = i)) := by
    intro hf k p hp hfp
    have hkl : k < ops.toList.length := (List.getElem?_eq_some_iff.1 hp).1
    constructor
    · intro hk
      by_cases he : k = i
      · exact .inr he
      · exact .inl (hneed k (by omega) (fun hd => (hc.order hd k (by omega) p hp).1 hf hfp))
    · rintro (h | rfl)
      · rcases Nat.lt_or_ge i k with hik | hik
        · have hcm := chkOp_spec (chk_op hchk hp)
          exact absurd h (hlate k hkl hik (fun hd => (hcm.order hd i hik o ho).1 hfp hf))
        · omega
      · omega
  cases hA : A i with
  | false =>
    rw [if_neg (by simp)]
    have hst := ht.still ho (.inr hA)
    by_cases hf : fixedO (owOf W) o.op = true
    · obtain ⟨e1, e2⟩ := hfix hf
      exact hK _ _ (Inv.next ho hc hi dfr sz hext0 h1 h2 rfl (.refl Γ) (c' := i + 1) (by rw [hst, ← e1]; exact hok) (by omega) (hcutf hf) (fun h => by rw [hA] at h; cases h) (fun _ => rfl))
    · have hf : fixedO (owOf W) o.op = false := by simpa using hf
      exact hK _ _ (Inv.next ho hc hi dfr sz hext0 h1 h2 rfl (.refl Γ) (c' := c) hok hcl (hcutm hf) (fun h => by rw [hA] at h; cases h) (fun _ => rfl))
  | true =>
    rw [if_pos rfl]
    left
    rw [hA] at hact hstep
    have hsat := actE_true hact
    -- the operands hold what is known of them
    have hgood : ∀ (t : Nat) (G : List (Nat × Bool)), t ∈ tmpsOf o.op → (∀ s b, (s, b) ∈ G → (E i).get s = some (.c (.v (.bool b)))) → (∀ j, j < i → dstOf ops.toList j = some t → subG (gs.getD j []) G = true) → Good Γ (E i) a (.tmp t) := by
      intro t G htm hG hsub av hav
      obtain ⟨hown, htj⟩ := hc.tmps t htm
      simp only [evO] at hav
      by_cases hex : ∃ j, j < i ∧ dstOf ops.toList j = some t
      · obtain ⟨j, hj, hd⟩ := hex
        have hL := hneed j hj ((htj j (by omega) hd).1 hj).1
        rw [hget j t hj hd] at hav
        cases hav
        have hs := hsub j hj hd
        unfold subG at hs
        rw [List.all_eq_true] at hs
        have hAj := hAsub j hj t hd (fun s b hm => hG s b (by simpa using hs (s, b) hm))
        obtain ⟨y, g3, g4⟩ := (h2 j t (by omega) hL hd).1 hAj
        simpa [Act.eval, Array.getD_eq_getD_getElem?, g3] using g4
      · have hno : ∀ m, 0 ≤ m → m < i → dstOf ops.toList m ≠ some t := fun m _ hm hd => hex ⟨m, hm, hd⟩
        have h0 := ht.get0 (t := t) 0 i (by omega) (by omega) hno
        rw [ht.zero] at h0
        rw [h0] at hav
        obtain ⟨y, g3, g4⟩ := h1 t av hav (fun k hk hd hLk => by
          by_cases hki : k < i
          · exact hex ⟨k, hki, hd⟩
          · by_cases hke : k = i
            · exact hi (hke ▸ hLk)
            · exact hlate k hk (by omega) (fun hdr => (htj k hk hd).2 hki hdr) hLk)
        simpa [Act.eval, Array.getD_eq_getD_getElem?, g3] using g4
    have hneedG : ∀ t ∈ tmpsOf o.op, ∀ j, j < i → dstOf ops.toList j = some t → subG (gs.getD j []) (needG o.op (gs.getD i []) t) = true := fun t htm j hj hd => (((hc.tmps t htm).2 j (by omega) hd).1 hj).2
    have hgood' : (∀ x y z, o.op ≠ .pick x y z) → ∀ p ∈ o.op.operands, Good Γ (E i) a p := by
      intro hnp p hp
      cases p with
      | const v => exact good_const'
      | global g => exact good_global
      | func f => exact good_func
      | tmp t =>
        have htm : t ∈ tmpsOf o.op := by
          unfold tmpsOf
          rw [List.mem_filterMap]
          exact ⟨.tmp t, by simpa using hp, rfl⟩
        refine hgood t (gs.getD i []) htm hsat (fun j hj hd => ?_)
        have := hneedG t htm j hj hd
        unfold needG at this
        split at this
        · rename_i c' p' q' heq
          exact absurd heq (hnp _ _ _)
        · exact this
    have hfin : ∀ (c' : Nat), OpRes Γ ((execOp a.eval o).run P Γ.w) (X i) (HH c') → c' ≤ ops.toList.length → (∀ (k : Nat) (p : Oper), ops.toList[k]? = some p → fixedO (owOf W) p.op = true → (k < c' ↔ (L k ∨ k = i))) → o.wp P a Γ.w K Q := by
      intro c' hop hc'l hcut'
      obtain ⟨y, Γ'', hr, hext, hok2, hcv2⟩ := hop
      have hnx := hK _ _ (Inv.next (v := y) ho hc hi dfr sz hext0 h1 h2 rfl hext (c' := c') hok2 hc'l hcut' (fun _ => hcv2) (fun h => by rw [hA] at h; cases h))
      unfold Oper.wp
      rcases hr with hr | ⟨hr, rfl⟩
      · rw [hr, Oper.upon_value]; exact hnx
      · rw [hr, Oper.upon_skip]; exact hnx
    have hres : ∀ (c' : Nat), stp P (E i) (HH c) o.op = some (X i, HH c') → c' ≤ ops.toList.length → (∀ (k : Nat) (p : Oper), ops.toList[k]? = some p → fixedO (owOf W) p.op = true → (k < c' ↔ (L k ∨ k = i))) → o.wp P a Γ.w K Q := by
      intro c' hs hc'l hcut'
      have hop : OpRes Γ ((execOp a.eval o).run P Γ.w) (X i) (HH c') := by
        by_cases hpk : ∃ x y z, o.op = .pick x y z
        · obtain ⟨pc, pp, pq, hpk⟩ := hpk
          have hopn : o.op.operands = #[pc, pp, pq] := by rw [hpk]; rfl
          have htm : ∀ t, (.tmp t : Operand) ∈ o.op.operands → t ∈ tmpsOf o.op := by
            intro t htm
            unfold tmpsOf
            rw [List.mem_filterMap]
            exact ⟨.tmp t, by simpa using htm, rfl⟩
          have hgd : ∀ (p : Operand) (G : List (Nat × Bool)), p ∈ o.op.operands → (∀ s b, (s, b) ∈ G → (E i).get s = some (.c (.v (.bool b)))) → (∀ t, p = .tmp t → ∀ j, j < i → dstOf ops.toList j = some t → subG (gs.getD j []) G = true) → Good Γ (E i) a p := by
            intro p G hp hG hs
            cases p with
            | const v => exact good_const'
            | global g => exact good_global
            | func f => exact good_func
            | tmp t => exact hgood t G (htm t hp) hG (hs t rfl)
          have sub2 : ∀ (g : List (Nat × Bool)) (x : Nat × Bool) (G : List (Nat × Bool)), subG G g = true → subG G (x :: g) = true := by
            intro g x G h
            unfold subG at *
            rw [List.all_eq_true] at *
            intro y hy
            have := h y hy
            simp only [List.contains_eq_mem, List.mem_cons, decide_eq_true_eq] at *
            exact .inr this
          refine pick_sound hok hpk hs ?_ ?_ ?_
          · refine hgd pc (gs.getD i []) (by rw [hopn]; simp) hsat (fun t hpt j hj hd => ?_)
            have := hneedG t (htm t (by rw [hopn, hpt]; simp)) j hj hd
            rw [hpk, hpt] at this
            simpa [needG] using this
          · intro hcT
            cases hpc : pc with
            | tmp cs =>
              rw [hpc] at hcT
              simp only [evO] at hcT
              refine hgd pp ((cs, true) :: gs.getD i []) (by rw [hopn]; simp) (fun s b hm => ?_) (fun t hpt j hj hd => ?_)
              · rcases List.mem_cons.1 hm with hm | hm
                · cases hm; exact hcT
                · exact hsat s b hm
              · have := hneedG t (htm t (by rw [hopn, hpt]; simp)) j hj hd
                rw [hpk, hpt, hpc] at this
                unfold needG at this
                simp only at this
                split at this
                · exact sub2 _ _ _ this
                · cases pq <;> simp only [and_true, if_true, true_and] at this
                  all_goals first
                    | exact this
                    | (split at this
                       · exact sub2 _ _ _ this
                       · exact this)
            | _ =>
              refine hgd pp (gs.getD i []) (by rw [hopn]; simp) hsat (fun t hpt j hj hd => ?_)
              have := hneedG t (htm t (by rw [hopn, hpt]; simp)) j hj hd
              rw [hpk, hpc] at this
              simpa [needG] using this
          · intro hcF
            cases hpc : pc with
            | tmp cs =>
              rw [hpc] at hcF
              simp only [evO] at hcF
              refine hgd pq ((cs, false) :: gs.getD i []) (by rw [hopn]; simp) (fun s b hm => ?_) (fun t hpt j hj hd => ?_)
              · rcases List.mem_cons.1 hm with hm | hm
                · cases hm; exact hcF
                · exact hsat s b hm
              · have := hneedG t (htm t (by rw [hopn, hpt]; simp)) j hj hd
                rw [hpk, hpt, hpc] at this
                unfold needG at this
                simp only at this
                split at this
                · exact sub2 _ _ _ this
                · cases pp <;> simp only [and_true, if_true, true_and] at this
                  all_goals first
                    | exact this
                    | (split at this
                       · exact sub2 _ _ _ this
                       · exact this)
            | _ =>
              refine hgd pq (gs.getD i []) (by rw [hopn]; simp) hsat (fun t hpt j hj hd => ?_)
              have := hneedG t (htm t (by rw [hopn, hpt]; simp)) j hj hd
              rw [hpk, hpc] at this
              simpa [needG] using this
        · exact stp_sound hok (hgood' (fun x y z h => hpk ⟨x, y, z, h⟩)) hs
      exact hfin c' hop hc'l hcut'
    rcases hstep with ⟨hfalse, _⟩ | ⟨f, args, ts, cf, caps, as, hop, hev, hall, hHH, hobl⟩ | ⟨hcall, hwok, hgE⟩ | ⟨_, hexf, cf, args, ts, as, hop, how, hall, _, hcl2⟩ | ⟨_, hcall5, hfx5, hwok5, hsem5, _⟩
    · cases hfalse
    · -- a call
      have hnp : ∀ x y z, o.op ≠ .pick x y z := by intro x y z; rw [hop]; simp
      have hg' := hgood' hnp
      have hopn : o.op.operands = #[f] ++ args := by rw [hop]; rfl
      have hcf := hg' f (by rw [hopn]; simp) _ hev
      simp only [concV, conc] at hcf
      obtain ⟨ys, hfe, hys⟩ := hcf
      have has := allV_spec (Γ := Γ) (a := a) args.toList as (fun p hp => hg' p (by rw [hopn]; simp [by simpa using hp])) hall
      have hHc : ex.getD i false = false → HH c = HH i := fun hexf => by
        cases hf : fixedO (owOf W) o.op with
        | true => exact (hfix hf).1
        | false => exact hmob hf (fun _ => hexf)
      have hD : DCall P cf (as ++ caps.map .c) (HH c) (X i) := by
        have := hobl rfl
        by_cases hex : ex.getD i false = true
        · simp only [hex, if_true] at this
          exact this (HH c)
        · have hexf : ex.getD i false = false := by simpa using hex
          simp only [hexf, Bool.false_eq_true, if_false] at this
          rw [hHc hexf]
          exact this
      have hrun := call_run (P := P) (w := Γ.w) hop hfe hD.1
      unfold Oper.wp
      rw [hrun, Oper.upon_enter]
      refine (hD.2 Γ hok (args.map a.eval ++ ys) (by simpa using concVs_append has (concVs_leaves hys))).mono fun e w' he => ?_
      obtain ⟨y, r, Γ', H', rfl, ⟨rfl, rfl⟩, rfl, hext, hok', hcv⟩ := he
      cases hf : fixedO (owOf W) o.op with
      | true =>
        exact hK _ _ (Inv.next ho hc hi dfr sz hext0 h1 h2 rfl hext (c' := i + 1) (by rw [hHH, ← (hfix hf).1]; exact hok') (by omega) (hcutf hf) (fun _ => hcv) (fun h => by rw [hA] at h; cases h))
      | false => exact hK _ _ (Inv.next ho hc hi dfr sz hext0 h1 h2 rfl hext (c' := c) hok' hcl (hcutm hf) (fun _ => hcv) (fun h => by rw [hA] at h; cases h))
    rotate_left
    rotate_left
    · -- known less well
      have hf : fixedO (owOf W) o.op = true := by rw [fixedO_op hcall5]; exact hfx5
      obtain ⟨e1, e2⟩ := hfix hf
      exact hfin (i + 1) (hsem5.2 Γ a o rfl (by rw [← e1]; exact hok) (hgood' hsem5.1)) (by omega) (hcutf hf)
    rotate_left
    · -- a call that turns the heap
      have hnp : ∀ x y z, o.op ≠ .pick x y z := by intro x y z; rw [hop]; simp
      have hg' := hgood' hnp
      have hf : fixedO (owOf W) o.op = true := by rw [hop]; exact how
      have hopn : o.op.operands = #[.func cf] ++ args := by rw [hop]; rfl
      have has := allV_spec (Γ := Γ) (a := a) args.toList as (fun p hp => hg' p (by rw [hopn]; simp [by simpa using hp])) hall
      have hHc := (hfix hf).1
      have hrun := call_run (P := P) (w := Γ.w) (ρ := a.eval) (ys := #[]) hop rfl hcl2.1
      unfold Oper.wp
      rw [hrun, Oper.upon_enter]
      refine (hcl2.2 Γ (by rw [← hHc]; exact hok) (args.map a.eval ++ #[]) (by simpa using has)).mono fun e w' he => ?_
      obtain ⟨y, r, Γ', H', rfl, ⟨rfl, rfl⟩, rfl, hext, hok', hcv⟩ := he
      exact hK _ _ (Inv.next ho hc hi dfr sz hext0 h1 h2 rfl hext (c' := i + 1) hok' (by omega) (hcutf hf) (fun _ => hcv) (fun h => by rw [hA] at h; cases h))
    · -- an operation
      have hst : stp P (E i) (HH i) o.op = some (X i, HH (i + 1)) := by
        unfold gE at hgE
        split at hgE
        · rename_i x H1 hs
          simp only [cond_true, Option.some.injEq, Prod.mk.injEq] at hgE
          rw [hs, hgE.1, hgE.2]
        · simp at hgE
      by_cases hf : fixedO (owOf W) o.op = true
      · obtain ⟨e1, e2⟩ := hfix hf
        exact hres (i + 1) (by rw [e1]; exact hst) (by omega) (hcutf hf)
      · have hf : fixedO (owOf W) o.op = false := by simpa using hf
        have hH1 := ht.still ho (.inl hf)
        rw [hH1] at hst
        by_cases hex : draw = true ∧ ex.getD i false = true
        · obtain ⟨W', rfl⟩ := hW hex.1
          have hag : Agree W'.hs (HH i) (HH c) := by
            rcases Nat.le_total c i with hci | hci
            · refine (ht.agree c i hci (by omega) (fun m p hm1 hm2 hp hfp => ?_)).symm
              rcases (hc.order hex.1 m hm2 p hp).2.2 hf hfp with h | h
              · exact h.2
              · have hL : L m := hneed m hm2 (fun _ => h)
                have := (hcut m p hp hfp).2 hL
                omega
            · refine ht.agree i c hci hcl (fun m p hm1 hm2 hp hfp => ?_)
              have hL : L m := (hcut m p hp hfp).1 hm2
              have hmi : m ≠ i := fun e => hi (e ▸ hL)
              have hml : m < ops.toList.length := (List.getElem?_eq_some_iff.1 hp).1
              have hcm := chkOp_spec (chk_op hchk hp)
              rcases (hcm.order hex.1 i (by omega) o ho).2.1 hfp hf with h | h
              · exact h.2
              · exact absurd hL (hlate m hml (by omega) (fun _ => h))
          have hopk : ∀ p ∈ o.op.operands.toList, hOk W'.hs (evO (E i) p) = true := by
            have hf' : fixedO W'.ow o.op = false := hf
            simp only [wOk, hf', Bool.false_eq_true, if_false, hex.2, Bool.not_true, Bool.false_or, List.all_eq_true] at hwok
            exact hwok
          exact hres c (stp_frame hag (fixedO_false hf) hopk hst) hcl (hcutm hf)
        · have he : HH c = HH i := hmob hf (fun hd => by
            cases h : ex.getD i false with
            | false => rfl
            | true => exact absurd ⟨hd, h⟩ hex)
          exact hres c (by rw [he]; exact hst) hcl (hcutm hf)

end
end Go.Nx
/- A region: the rule. -/
namespace Go.Nx
set_option linter.unusedVariables false
set_option linter.unusedSimpArgs false

def sel (live : List Nat) (e : Env) : Env := live.filterMap fun t => (e.get t).map (t, ·)
def liveOk (ops : List Oper) (gs : List (List (Nat × Bool))) (live : List Nat) : Bool :=
  live.all fun t => (List.range ops.length).all fun k => dstOf ops k != some t || gs.getD k [] == []

theorem sel_get {live : List Nat} {e : Env} {t : Nat} {x : AVal} (h : (sel live e).get t = some x) : t ∈ live ∧ e.get t = some x := by
  induction live with
  | nil => simp [sel, Env.get] at h
  | cons s l ih =>
    unfold sel at h
    rw [List.filterMap_cons] at h
    cases hs : e.get s with
    | none =>
      simp only [hs, Option.map_none] at h
      have := ih h
      exact ⟨by simp [this.1], this.2⟩
    | some v =>
      simp only [hs, Option.map_some, Env.get] at h
      split at h
      · rename_i he
        subst he
        cases h
        exact ⟨by simp, hs⟩
      · have := ih h
        exact ⟨by simp [this.1], this.2⟩

section
variable {P : Program} {W : Option WW} {ops : Array Oper} {gs : List (List (Nat × Bool))} {ex : List Bool} {draw : Bool} {n : Nat} {Γ0 : Ctx} {e0 : Env}
  {E : Nat → Env} {HH : Nat → List Ob} {X : Nat → AVal} {A : Nat → Bool} {Q : Exit → Act → World → Prop}

theorem Inv.start {l : List Oper} {H : List Ob} (h0 : HH 0 = H) {a : Act} {w : World} (hs : Sat n Γ0 ⟨e0, H⟩ a w) {L : Nat → Prop} (hL : ∀ k, ¬ L k) : Inv (owOf W) n Γ0 l e0 HH X A L a w := by
  obtain ⟨d, s, Γ, hw, hext, hok, henv⟩ := hs
  exact ⟨d, s, Γ, 0, hw, hext, by rw [h0]; exact hok, Nat.zero_le _, fun k o _ _ => ⟨fun h => by omega, fun h => absurd h (hL k)⟩, fun t x hx _ => henv t x hx, fun k t _ hk => absurd hk (hL k)⟩

theorem Inv.done {l : List Oper} (ht : Trace P W l gs ex e0 E HH X A) (hchk : chk (owOf W) l gs ex draw n = true) {L : Nat → Prop} {a : Act} {w : World} (hI : Inv (owOf W) n Γ0 l e0 HH X A L a w) (hL : ∀ k, k < l.length → L k) {live : List Nat} (hlive : liveOk l gs live = true) :
    Sat n Γ0 ⟨sel live (E l.length), HH l.length⟩ a w := by
  obtain ⟨dfr, sz, Γ, c, hw, hext, hok, hcl, hcut, h1, h2⟩ := hI
  have hH : HH l.length = HH c := by
    refine ht.const c l.length hcl (Nat.le_refl _) (fun m p hm1 hm2 hp => ?_)
    cases hfp : fixedO (owOf W) p.op with
    | false => rfl
    | true =>
      have := (hcut m p hp hfp).2 (hL m hm2)
      omega
  refine ⟨dfr, sz, Γ, hw, hext, by rw [hH]; exact hok, fun t x hx => ?_⟩
  obtain ⟨htl, hx⟩ := sel_get hx
  by_cases hex : ∃ k, k < l.length ∧ dstOf l k = some t
  · obtain ⟨k, hk, hd⟩ := hex
    have hok' : l[k]? = some (l[k]'(by omega)) := List.getElem?_eq_getElem (by omega)
    have hck := chkOp_spec (chk_op hchk hok')
    have hg := ht.get1 l.length hk (Nat.le_refl _) hd (fun m hm1 hm2 hdm => by
      exact hck.own m (by omega) (by omega) t (by rw [← dstOf_some hok']; exact hd) hdm)
    rw [hg] at hx
    cases hx
    unfold liveOk at hlive
    rw [List.all_eq_true] at hlive
    have h3 := hlive t htl
    rw [List.all_eq_true] at h3
    have h4 := h3 k (by simpa using hk)
    have h5 : gs.getD k [] = [] := by simpa [hd] using h4
    have hact := (ht.step k _ hok').1
    rw [h5] at hact
    simp only [actE, Option.some.injEq] at hact
    exact (h2 k t hk (hL k hk) hd).1 hact.symm
  · have h0 := ht.get0 (t := t) 0 l.length (Nat.zero_le _) (Nat.le_refl _) (fun m _ hm hd => hex ⟨m, hm, hd⟩)
    rw [ht.zero] at h0
    rw [h0] at hx
    exact h1 t x hx (fun k hk hd _ => hex ⟨k, hk, hd⟩)

theorem Inv.congr {l : List Oper} {L L' : Nat → Prop} {a : Act} {w : World} (h : Inv (owOf W) n Γ0 l e0 HH X A L a w) (hL : ∀ k, L k ↔ L' k) : Inv (owOf W) n Γ0 l e0 HH X A L' a w := by
  have : L = L' := funext fun k => propext (hL k)
  rw [← this]
  exact h

theorem sim_text (hchk : chk (owOf W) ops.toList gs ex false n = true) (ht : Trace P W ops.toList gs ex e0 E HH X A) (hQ : ∀ a w, Inv (owOf W) n Γ0 ops.toList e0 HH X A (fun k => k < ops.toList.length) a w → Q .normal a w) :
    ∀ (m i : Nat), i + m = ops.toList.length → ∀ a w, Inv (owOf W) n Γ0 ops.toList e0 HH X A (fun k => k < i) a w → wpOps P ops Q (List.range' i m) a w
  | 0, i, hi, a, w, hI => by
    simp only [List.range'_zero, wpOps]
    exact hQ a w (by rw [← hi]; exact hI)
  | m + 1, i, hi, a, w, hI => by
    rw [List.range'_succ, wpOps_cons]
    have ho : ops.toList[i]? = some (ops.toList[i]'(by omega)) := List.getElem?_eq_getElem (by omega)
    refine sim_step (draw := false) (by simp) hchk ht hI ho (by omega) (fun j hj _ => hj) (fun j hj hij _ h => by omega) (fun a' w' hI' => ?_)
    exact sim_text hchk ht hQ m (i + 1) (by omega) a' w' (hI'.congr fun k => by omega)

theorem countP_lt {l : List Nat} {p q : Nat → Bool} (h : ∀ x, q x = true → p x = true) {y : Nat} (hy : y ∈ l) (hp : p y = true) (hq : q y = false) : l.countP q < l.countP p := by
  induction l with
  | nil => cases hy
  | cons x l ih =>
    rw [List.countP_cons, List.countP_cons]
    have hle : l.countP q ≤ l.countP p := List.countP_mono_left fun x _ hx => h x hx
    rcases List.mem_cons.1 hy with rfl | hy
    · rw [hp, hq]; simp; omega
    · have := ih hy
      have : (if q x = true then 1 else 0) ≤ (if p x = true then 1 else 0) := by
        cases hqx : q x with
        | false => simp
        | true => rw [h x hqx]; simp
      omega

theorem getD_tf {listed : Array Bool} {k : Nat} (hk : k < listed.size) : listed.getD k true = listed.getD k false := by simp [Array.getD, hk]

theorem sim_any (hW : ∃ W', W = some W') (hchk : chk (owOf W) ops.toList gs ex true n = true) (ht : Trace P W ops.toList gs ex e0 E HH X A) (hQ : ∀ a w, Inv (owOf W) n Γ0 ops.toList e0 HH X A (fun k => k < ops.toList.length) a w → Q .normal a w) :
    ∀ (fuel : Nat) (listed : Array Bool), listed.size = ops.toList.length → (List.range ops.toList.length).countP (fun k => !listed.getD k false) ≤ fuel →
      (∀ (k : Nat) (o : Oper), ops.toList[k]? = some o → listed.getD k false = true → ∀ ed ∈ o.after.toList, Region.binds .any ed = true → listed.getD ed.on false = true) →
      ∀ a w, Inv (owOf W) n Γ0 ops.toList e0 HH X A (fun k => listed.getD k false = true) a w → wpAny P .any ops Q fuel listed a w := by
  have hedges : ∀ (k : Nat) (o : Oper), ops.toList[k]? = some o → ∀ ed ∈ o.after.toList, Region.binds .any ed = true → ed.on < k := fun k o ho => (chkOp_spec (chk_op hchk ho)).edges
  -- where nothing is ready all is done
  have hall : ∀ (listed : Array Bool), listed.size = ops.toList.length → Region.ready .any ops listed = [] → ∀ k, k < ops.toList.length → listed.getD k false = true := by
    intro listed hsz hr k
    induction k using Nat.strongRecOn with
    | _ k ih =>
      intro hk
      cases hl : listed.getD k false with
      | true => rfl
      | false =>
        exfalso
        have ho : ops.toList[k]? = some (ops.toList[k]'(by omega)) := List.getElem?_eq_getElem (by omega)
        have hmem : k ∈ Region.ready .any ops listed := by
          rw [mem_ready]
          refine ⟨by rw [getD_tf (by omega)]; exact hl, ops.toList[k]'(by omega), by rw [← Array.getElem?_toList]; exact ho, fun ed he hb => ?_⟩
          have := hedges k _ ho ed (by simpa using he) hb
          exact ih ed.on this (by omega)
        rw [hr] at hmem
        cases hmem
  have hfin : ∀ (listed : Array Bool) a w, listed.size = ops.toList.length → Region.ready .any ops listed = [] → Inv (owOf W) n Γ0 ops.toList e0 HH X A (fun k => listed.getD k false = true) a w → Q .normal a w := by
    intro listed a w hsz hr hI
    refine hQ a w (hI.congr fun k => ⟨fun h => ?_, fun h => hall listed hsz hr k h⟩)
    rcases Nat.lt_or_ge k ops.toList.length with hk | hk
    · exact hk
    · rw [Array.getD_eq_getD_getElem?, Array.getElem?_eq_none (by omega)] at h
      cases h
  intro fuel
  induction fuel with
  | zero =>
    intro listed hsz hcnt hcl a w hI
    have hr : Region.ready .any ops listed = [] := by
      cases hr : Region.ready .any ops listed with
      | nil => rfl
      | cons k r =>
        exfalso
        have hm : k ∈ Region.ready .any ops listed := by rw [hr]; simp
        obtain ⟨h1, o, ho, _⟩ := mem_ready.1 hm
        have hk : k < ops.toList.length := by simpa using (Array.getElem?_eq_some_iff.1 ho).1
        rw [getD_tf (by omega)] at h1
        have h0 := List.countP_eq_zero.1 (Nat.le_zero.1 hcnt) k (by simpa using hk)
        rw [h1] at h0
        simp at h0
    exact ⟨hr, hfin listed a w hsz hr hI⟩
  | succ fuel ih =>
    intro listed hsz hcnt hcl a w hI
    refine ⟨fun hr => hfin listed a w hsz hr hI, fun i hi => ?_⟩
    obtain ⟨h1, o, ho, hdep⟩ := mem_ready.1 hi
    have hol : ops.toList[i]? = some o := by simpa using ho
    have hk : i < ops.toList.length := (List.getElem?_eq_some_iff.1 hol).1
    rw [getD_tf (by omega)] at h1
    have hset : ∀ k, (listed.setIfInBounds i true).getD k false = true ↔ (listed.getD k false = true ∨ k = i) := by
      intro k
      by_cases hki : k = i
      · subst hki
        simp [Array.getD_eq_getD_getElem?, hsz]
        simpa using hk
      · rw [Array.getD_eq_getD_getElem?, Array.getElem?_setIfInBounds_ne (fun e => hki e.symm), ← Array.getD_eq_getD_getElem?]
        simp [hki]
    refine sim_step (draw := true) (fun _ => hW) hchk ht hI hol (by rw [h1]; simp) (fun j hj hanc => ?_) (fun j hj hij hanc hL => ?_) (fun a' w' hI' => ?_)
    · exact anc_listed (listed := fun k => listed.getD k false = true) hedges hcl i o hol (fun ed he hb => hdep ed (by simpa using he) hb) j (hanc rfl)
    · have hoj : ops.toList[j]? = some (ops.toList[j]'(by omega)) := List.getElem?_eq_getElem (by omega)
      have := anc_listed (listed := fun k => listed.getD k false = true) hedges hcl j _ hoj (hcl j _ hoj hL) i (hanc rfl)
      rw [h1] at this
      cases this
    · refine ih _ (by simp [hsz]) ?_ ?_ a' w' (hI'.congr fun k => (hset k).symm)
      · have hlt := countP_lt (l := List.range ops.toList.length) (p := fun k => !listed.getD k false) (q := fun k => !(listed.setIfInBounds i true).getD k false) (y := i) (fun x hx => by
          cases hl : listed.getD x false with
          | false => rfl
          | true => rw [(hset x).2 (.inl hl)] at hx; cases hx) (by simpa using hk) (by rw [h1]; rfl) (by rw [(hset i).2 (.inr rfl)]; rfl)
        omega
      · intro k p hp hL ed he hb
        rw [hset] at hL ⊢
        rcases hL with hL | rfl
        · exact .inl (hcl k p hp hL ed he hb)
        · rw [hol] at hp
          cases hp
          exact .inl (hdep ed (by simpa using he) hb)

theorem Sat.drew {S : St} {a : Act} {w : World} (h : Sat n Γ0 S a w) : Sat n Γ0 S a { w with drawn := w.drawn + 1 } := by
  obtain ⟨d, s, Γ, rfl, hext, hok, henv⟩ := h
  refine ⟨d, s, Γ.drew, rfl, hext.trans (Ext_drew Γ), HeapOk_drew hok, fun t x hx => ?_⟩
  obtain ⟨y, h1, h2⟩ := henv t x hx
  exact ⟨y, h1, concV_mono (Le_drew Γ) _ _ h2⟩

/-- A region comes to what the reckoning says. -/
theorem region_rule (id : Nat) (hm : P.follows .mixedOrders = true) (hW : draw = true → ∃ W', W = some W') (hchk : chk (owOf W) ops.toList gs ex draw n = true) {e' : Env} {H H' : List Ob}
    (hs : SpecR P W ops.toList gs ex e0 H e' H') {live : List Nat} (hlive : liveOk ops.toList gs live = true) {a : Act} {w : World} (h : Sat n Γ0 ⟨e0, H⟩ a w)
    (hQ : ∀ a w, Sat n Γ0 ⟨sel live e', H'⟩ a w → Q .normal a w) : (Code.region id ops draw).wp P Q a w := by
  obtain ⟨E, HH, X, A, h1, h2, h3, h4, h5⟩ := specR_trace hs
  have ht : Trace P W ops.toList gs ex e0 E HH X A := ⟨h1, fun k o ho => (h5 k o ho).1, fun k o ho => (h5 k o ho).2⟩
  cases draw with
  | false =>
    refine wp_region ?_
    rw [List.range_eq_range']
    have hl : ops.size = ops.toList.length := by simp
    rw [hl]
    refine sim_text hchk ht (fun a w hI => ?_) ops.toList.length 0 (by omega) a w (Inv.start h2 h (fun k => by omega))
    have := Inv.done ht hchk hI (fun k hk => hk) hlive
    rw [h3, h4] at this
    exact hQ a w this
  | true =>
    refine wp_region_any hm ?_
    have hl : ops.size = ops.toList.length := by simp
    refine sim_any (hW rfl) hchk ht (fun a w hI => ?_) ops.size (Array.replicate ops.size false) (by simp) ?_ (fun k o _ hk => ?_) a _ (Inv.start h2 h.drew (fun k hk => ?_))
    · have := Inv.done ht hchk hI (fun k hk => hk) hlive
      rw [h3, h4] at this
      exact hQ a w this
    · have := List.countP_le_length (p := fun k => !(Array.replicate ops.size false).getD k false) (l := List.range ops.toList.length)
      rw [List.length_range] at this
      omega
    · simp [Array.getD_eq_getD_getElem?, Array.getElem?_replicate] at hk
      split at hk <;> simp at hk
    · simp [Array.getD_eq_getD_getElem?, Array.getElem?_replicate] at hk
      split at hk <;> simp at hk

end
end Go.Nx
/- The rules of the walk: code, loops, calls. -/
namespace Go.Nx
set_option linter.unusedVariables false
set_option linter.unusedSimpArgs false

/-- What stays fixed in a walk through one function: its program, how many slots, what there was. -/
structure Fr where
  P : Program
  n : Nat
  Γ : Ctx

def Wp (F : Fr) (c : Code) (Q : Exit → St → Prop) (S : St) : Prop :=
  ∀ a w, Sat F.n F.Γ S a w → c.wp F.P (fun ex a' w' => ∃ S', Q ex S' ∧ Sat F.n F.Γ S' a' w') a w

abbrev Exit.andThen (k : St → Prop) (Q : Exit → St → Prop) : Exit → St → Prop
  | .normal, S => k S
  | e, S => Q e S
abbrev Exit.ofBlock (id : Nat) (Q : Exit → St → Prop) : Exit → St → Prop
  | .exit id', S => match Nat.beq id' id with
    | true => Q .normal S
    | false => Q (.exit id') S
  | e, S => Q e S

section
variable {F : Fr} {Q : Exit → St → Prop} {S : St}

theorem Wp.seq {x y : Code} (h : Wp F x (Exit.andThen (Wp F y Q) Q) S) : Wp F (.seq x y) Q S := by
  intro a w hs
  refine wp_seq (wp_mono (h a w hs) fun e a' w' he => ?_)
  obtain ⟨S', hq, hs'⟩ := he
  cases e with
  | normal => exact hq a' w' hs'
  | _ => exact ⟨S', hq, hs'⟩

theorem Wp.skip (h : Q .normal S) : Wp F .skip Q S := fun a w hs => wp_skip ⟨S, h, hs⟩
theorem Wp.ret (h : Q .ret S) : Wp F .ret Q S := fun a w hs => wp_ret ⟨S, h, hs⟩
theorem Wp.exit {id : Nat} (h : Q (.exit id) S) : Wp F (.exit id) Q S := fun a w hs => wp_exit ⟨S, h, hs⟩
theorem Wp.goto {l : Nat} (h : Q (.goto l) S) : Wp F (.goto l) Q S := fun a w hs => wp_goto ⟨S, h, hs⟩

theorem Wp.block {id : Nat} {c : Code} (h : Wp F c (Exit.ofBlock id Q) S) : Wp F (.block id c) Q S := by
  intro a w hs
  refine wp_block (wp_mono (h a w hs) fun e a' w' he => ?_)
  obtain ⟨S', hq, hs'⟩ := he
  cases e with
  | exit id' =>
    simp only [Exit.ofBlock] at hq
    simp only [Exit.inBlock]
    split
    · rename_i hid
      subst hid
      simp only [Nat.beq_refl] at hq
      exact ⟨S', hq, hs'⟩
    · rename_i hid
      have : Nat.beq id' id = false := by
        cases h : Nat.beq id' id with
        | true => exact absurd (Nat.eq_of_beq_eq_true h) hid
        | false => rfl
      simp only [this] at hq
      exact ⟨S', hq, hs'⟩
  | _ => exact ⟨S', hq, hs'⟩

theorem Wp.cond {t : Nat} {x y : Code} {b : Bool} (hb : S.env.get t = some (.c (.v (.bool b)))) (ht : b = true → Wp F x Q S) (hf : b = false → Wp F y Q S) : Wp F (.cond (.tmp t) x y) Q S := by
  intro a w hs
  obtain ⟨d, s, Γ, rfl, hext, hok, henv⟩ := hs
  obtain ⟨v, h1, h2⟩ := henv t _ hb
  simp only [concV, conc] at h2
  have he : a.eval (.tmp t) = .bool b := by simp [Act.eval, Array.getD_eq_getD_getElem?, h1, h2.1]
  exact wp_cond_split he (fun h => ht h a _ ⟨d, s, Γ, rfl, hext, hok, henv⟩) (fun h => hf h a _ ⟨d, s, Γ, rfl, hext, hok, henv⟩)

theorem Wp.mono {c : Code} {Q' : Exit → St → Prop} (h : Wp F c Q S) (hq : ∀ e S', Q e S' → Q' e S') : Wp F c Q' S :=
  fun a w hs => wp_mono (h a w hs) fun e a' w' ⟨S', h1, h2⟩ => ⟨S', hq e S' h1, h2⟩

/-- What is known may be known less well. -/
def St.Weak (F : Fr) (S S' : St) : Prop := ∀ a w, Sat F.n F.Γ S a w → Sat F.n F.Γ S' a w

theorem St.Weak.refl {S : St} : S.Weak F S := fun _ _ h => h
theorem St.Weak.trans {S S' S'' : St} (h : S.Weak F S') (h' : S'.Weak F S'') : S.Weak F S'' := fun a w hs => h' a w (h a w hs)

theorem Wp.weak {c : Code} {S' : St} (hw : S.Weak F S') (h : Wp F c Q S') : Wp F c Q S := fun a w hs => h a w (hw a w hs)

/-- A loop: what holds at each round's head, under a number that each round lowers. -/
theorem Wp.loop {c : Code} (I : Nat → St → Prop) (m : Nat) (h0 : I m S) (round : ∀ m S, I m S → Wp F c (Exit.andThen (fun S' => ∃ m', m' < m ∧ ∃ S'', S'.Weak F S'' ∧ I m' S'') Q) S) : Wp F (.loop c) Q S := by
  intro a w hs b k cs
  have key : ∀ m S a w, I m S → Sat F.n F.Γ S a w →
      ∃ e a' w', (∃ S', Q e S' ∧ Sat F.n F.Γ S' a' w') ∧ Arrives F.P (lone (b.at a (.code c :: .inLoop c :: k)) cs w) b k cs e a' w' := by
    intro m
    induction m using Nat.strongRecOn with
    | _ m ih =>
      intro S a w hI hs
      obtain ⟨e, a₁, w₁, ⟨S', hq, hs'⟩, harr⟩ := round m S hI a w hs b (.inLoop c :: k) cs
      cases e with
      | normal =>
        obtain ⟨m', hlt, S'', hweak, hI'⟩ := hq
        obtain ⟨e₂, a₂, w₂, hq₂, harr₂⟩ := ih m' hlt S'' a₁ w₁ hI' (hweak _ _ hs')
        exact ⟨e₂, a₂, w₂, hq₂, .of_steps (Steps.trans harr (.one step_inLoop)) harr₂⟩
      | exit id => exact ⟨_, a₁, w₁, ⟨S', hq, hs'⟩, .pass (x := .inLoop c) rfl (fun _ _ => .inl (by simp)) harr⟩
      | goto l => exact ⟨_, a₁, w₁, ⟨S', hq, hs'⟩, .pass (x := .inLoop c) rfl (fun _ _ => .inl (by simp)) harr⟩
      | ret => exact ⟨_, a₁, w₁, ⟨S', hq, hs'⟩, .pass (x := .inLoop c) rfl (fun _ _ => .inl (by simp)) harr⟩
      | panic ch => exact ⟨_, a₁, w₁, ⟨S', hq, hs'⟩, .pass (x := .inLoop c) rfl (fun _ _ => .inl (by simp)) harr⟩
      | outgrown => exact ⟨_, a₁, w₁, ⟨S', hq, hs'⟩, .pass (x := .inLoop c) rfl (fun _ _ => .inl (by simp)) harr⟩
  obtain ⟨e, a', w', hq, harr⟩ := key m S a w h0 hs
  exact ⟨e, a', w', hq, .of_steps (.one step_loop) harr⟩

/-- A region without calls that turn the heap. -/
theorem Wp.region {id : Nat} {ops : Array Oper} (draw : Bool) (W : Option WW) (gs : List (List (Nat × Bool))) (ex : List Bool) (live : List Nat) {n : Nat} (hm : F.P.follows .mixedOrders = true) (hn : F.n = n) (hW : draw = true → ∃ W', W = some W')
    (hchk : (chk (owOf W) ops.toList gs ex draw n && liveOk ops.toList gs live) = true) {e' : Env} {H' : List Ob} {S1 : St} (hs : SpecR F.P W ops.toList gs ex S.env S.heap e' H') (hS1 : St.mk (sel live e') H' = S1) (hQ : Q .normal S1) : Wp F (.region id ops draw) Q S := by
  intro a w hsat
  subst hn
  rw [Bool.and_eq_true] at hchk
  exact region_rule id hm hW hchk.1 hs hchk.2 hsat (fun a w h => ⟨S1, hQ, by rw [← hS1]; exact h⟩)

theorem Wp.regionL {id : Nat} {l : List Oper} (draw : Bool) (W : Option WW) (gs : List (List (Nat × Bool))) (ex : List Bool) (live : List Nat) {n : Nat} (hm : F.P.follows .mixedOrders = true) (hn : F.n = n) (hW : (draw && W.isNone) = false)
    (hchk : (chk (owOf W) l gs ex draw n && liveOk l gs live) = true) {e' : Env} {H' : List Ob} {S1 : St} (hs : SpecR F.P W l gs ex S.env S.heap e' H') (hS1 : St.mk (sel live e') H' = S1) (hQ : Q .normal S1) : Wp F (.region id l.toArray draw) Q S :=
  Wp.region draw W gs ex live hm hn (fun hd => by
    subst hd
    cases W with
    | none => simp at hW
    | some W => exact ⟨W, rfl⟩) (by simpa using hchk) (by simpa using hs) hS1 hQ

end

/-! A function: from its body to a call of it. -/
def envOf : Nat → List AVal → Env
  | _, [] => []
  | k, x :: xs => (k, x) :: envOf (k + 1) xs

theorem envOf_get {Γ : Ctx} : ∀ (k : Nat) (xs : List AVal) (ys : List Value) (t : Nat) (x : AVal), concVs Γ xs ys → (envOf k xs).get t = some x → k ≤ t ∧ ∃ y, ys[t - k]? = some y ∧ concV Γ x y
  | k, [], ys, t, x, _, h => by simp [envOf, Env.get] at h
  | k, a :: xs, ys, t, x, hc, h => by
    simp only [concVs] at hc
    obtain ⟨y, ys', rfl, h2, h3⟩ := hc
    simp only [envOf, Env.get] at h
    split at h
    · rename_i he
      subst he
      cases h
      exact ⟨Nat.le_refl _, y, by simp, h2⟩
    · obtain ⟨g1, z, g2, g3⟩ := envOf_get (k + 1) xs ys' t x h3 h
      refine ⟨by omega, z, ?_, g3⟩
      rw [show t - k = (t - (k + 1)) + 1 by omega]
      simpa using g2

/-- What is handed back. -/
def resV (P : Program) (S : St) : ResultVar → Option AVal
  | .tmp t => S.env.get t
  | .cell t ty => match tk P ty, S.env.get t with
    | some (true, n), some (.c p) => (ldN S.heap n p).map .agg
    | some (false, _), some (.c p) => (ld1 S.heap p).map .c
    | _, _ => none
def retV (P : Program) (S : St) (rs : List ResultVar) : Option AVal :=
  match rs.mapM (resV P S) with
  | some [x] => some x
  | some xs => some (.tup xs)
  | none => none

theorem retV_sound {P : Program} {Γ : Ctx} {S : St} (hok : HeapOk Γ S.heap) {a : Act} (henv : ∀ t x, S.env.get t = some x → ∃ y, a.tmps[t]? = some y ∧ concV Γ x y) {fn : Func} {x : AVal} (h : retV P S fn.results.toList = some x) :
    ∃ v, (results fn a.tmps).run P Γ.w = .ok v Γ.w ∧ concV Γ x v := by
  have one : ∀ (r : ResultVar) (x : AVal), resV P S r = some x → ∃ v, ((match r with | .tmp t => pure (a.tmps.getD t undef) | .cell t ty => do loadVar ty (← asAddr (a.tmps.getD t undef)) : Sem Value)).run P Γ.w = .ok v Γ.w ∧ concV Γ x v := by
    intro r x hr
    cases r with
    | tmp t =>
      obtain ⟨y, h1, h2⟩ := henv t x hr
      exact ⟨y, by simp [Array.getD_eq_getD_getElem?, h1], h2⟩
    | cell t ty =>
      have hld : ∀ p y, conc Γ p y → (∃ n cs, ldN S.heap n p = some cs) ∨ (∃ l, ld1 S.heap p = some l) → ∃ ad, y = .pointer (some ad) := by
        intro p y hc h
        rcases h with ⟨n, cs, h⟩ | ⟨l, h⟩
        · obtain ⟨r, k, hp, _⟩ := ldN_spec h
          obtain ⟨b, o, rfl, _⟩ := readable hok hc hp
          exact ⟨_, rfl⟩
        · obtain ⟨r, k, hp, _⟩ := ld1_spec h
          obtain ⟨b, o, rfl, _⟩ := readable hok hc hp
          exact ⟨_, rfl⟩
      simp only [resV] at hr
      split at hr
      · rename_i n p ht hp
        simp only [Option.map_eq_some_iff] at hr
        obtain ⟨cs, h1, rfl⟩ := hr
        obtain ⟨y, g1, g2⟩ := henv t _ hp
        simp only [concV] at g2
        obtain ⟨ys, g3, g4⟩ := (load_sound (P := P) hok g2).1 n cs ht h1
        obtain ⟨ad, rfl⟩ := hld p y g2 (.inl ⟨n, cs, h1⟩)
        refine ⟨.agg ys, ?_, ⟨ys, rfl, g4⟩⟩
        simp only [Instr.loadAt, Instr.sureAddr, Sem.run_bind, Sem.run_pure, Result.andThen_ok] at g3
        simp [Array.getD_eq_getD_getElem?, g1, asAddr, g3]
      · rename_i n p ht hp
        simp only [Option.map_eq_some_iff] at hr
        obtain ⟨l, h1, rfl⟩ := hr
        obtain ⟨y, g1, g2⟩ := henv t _ hp
        simp only [concV] at g2
        obtain ⟨z, g3, g4⟩ := (load_sound (P := P) hok g2).2 n l ht h1
        obtain ⟨ad, rfl⟩ := hld p y g2 (.inr ⟨l, h1⟩)
        refine ⟨z, ?_, by simpa [concV] using g4⟩
        simp only [Instr.loadAt, Instr.sureAddr, Sem.run_bind, Sem.run_pure, Result.andThen_ok] at g3
        simp [Array.getD_eq_getD_getElem?, g1, asAddr, g3]
      · cases hr
  have all : ∀ (rs : List ResultVar) (xs : List AVal), rs.mapM (resV P S) = some xs → ∃ vs, (rs.mapM (fun r => (match r with | .tmp t => pure (a.tmps.getD t undef) | .cell t ty => do loadVar ty (← asAddr (a.tmps.getD t undef)) : Sem Value))).run P Γ.w = .ok vs Γ.w ∧ concVs Γ xs vs := by
    intro rs
    induction rs with
    | nil => intro xs h; simp at h; subst h; exact ⟨[], by simp, by simp [concVs]⟩
    | cons r rs ih =>
      intro xs h
      simp only [List.mapM_cons, Option.bind_eq_bind, Option.bind_eq_some_iff, Option.pure_def, Option.some.injEq] at h
      obtain ⟨x, h1, xs', h2, rfl⟩ := h
      obtain ⟨v, g1, g2⟩ := one r x h1
      obtain ⟨vs, g3, g4⟩ := ih xs' h2
      refine ⟨v :: vs, ?_, ?_⟩
      · simp only [List.mapM_cons, Sem.run_bind, g1, Result.andThen_ok, g3, Sem.run_pure]
      · simp only [concVs]
        exact ⟨v, vs, rfl, g2, g4⟩
  unfold retV at h
  cases hm : fn.results.toList.mapM (resV P S) with
  | none => rw [hm] at h; simp at h
  | some xs =>
    rw [hm] at h
    obtain ⟨vs, g1, g2⟩ := all _ xs hm
    have hrun : (results fn a.tmps).run P Γ.w = .ok (if h : vs.toArray.size = 1 then vs.toArray[0] else .tuple vs.toArray) Γ.w := by
      unfold results
      rw [Array.mapM_eq_mapM_toList]
      simp only [Sem.run_bind, Sem.run_map]
      have g1' : (fn.results.toList.mapM (fun x => match x with | ResultVar.tmp t => (pure (a.tmps.getD t undef) : Sem Value) | ResultVar.cell a_1 t => do loadVar t (← asAddr (a.tmps.getD a_1 undef)))).run P Γ.w = .ok vs Γ.w := by
        rw [← g1]
      have g2' := congrArg (fun r => (Result.andThen r fun a w' => Result.ok a.toArray w').andThen fun a w' => Sem.run P (pure (if h : a.size = 1 then a[0] else Value.tuple a)) w') g1'
      refine Eq.trans ?_ (g2'.trans (by simp))
      congr 3
    match xs, h with
    | [], h =>
      simp only [concVs] at g2
      subst g2
      simp only [Option.some.injEq] at h
      subst h
      exact ⟨_, hrun, by simp [concV, concVs]⟩
    | [y], h =>
      simp only [concVs] at g2
      obtain ⟨z, _, rfl, g2, rfl⟩ := g2
      simp only [Option.some.injEq] at h
      subst h
      exact ⟨_, hrun, by simpa using g2⟩
    | y :: z :: r, h =>
      simp only [Option.some.injEq] at h
      subst h
      have g2' := g2
      simp only [concVs] at g2
      obtain ⟨a1, _, rfl, _, a2, _, rfl, _, _⟩ := g2
      refine ⟨_, hrun, ?_⟩
      rw [dif_neg (by simp)]
      exact ⟨_, rfl, g2'⟩

/-- How a body may end. -/
def Ret (P : Program) (fn : Func) (K : AVal → List Ob → Prop) : Exit → St → Prop
  | .normal, S | .ret, S => ∃ x, retV P S fn.results.toList = some x ∧ K x S.heap
  | _, _ => False

theorem Call.of_body {P : Program} {f : FuncId} {fn : Func} {c : Code} {args : List AVal} {H : List Ob} {K : AVal → List Ob → Prop} (hf : P.funcs[f]? = some fn) (hb : fn.body = some c) (he : enters P f = true) {n : Nat} (hn : fn.ntmps = n) (hl : Nat.ble args.length n = true)
    (h : ∀ Γ, HeapOk Γ H → Wp ⟨P, n, Γ⟩ c (Ret P fn K) ⟨envOf 0 args, H⟩) : Call P f args H K := by
  have hl := Nat.le_of_ble_eq_true hl
  refine ⟨he, fun Γ hok args' hc => ?_⟩
  have hlen : ∀ (xs : List AVal) (ys : List Value), concVs Γ xs ys → ys.length = xs.length := by
    intro xs
    induction xs with
    | nil => intro ys h; simp only [concVs] at h; subst h; rfl
    | cons x xs ih => intro ys h; simp only [concVs] at h; obtain ⟨y, ys', rfl, _, h3⟩ := h; simp [ih ys' h3]
  have hal := hlen _ _ hc
  simp only [Array.length_toList] at hal
  refine calls_of_wp hf hb (wp_mono (h Γ hok _ Γ.w ⟨rfl, by simp [hn]; omega, Γ, rfl, .refl Γ, hok, fun t x hx => ?_⟩) fun e a' w' he => ?_)
  · obtain ⟨_, y, g1, g2⟩ := envOf_get 0 args args'.toList t x hc hx
    refine ⟨y, ?_, g2⟩
    have hlt : t < args'.size := by
      have := (List.getElem?_eq_some_iff.1 g1).1
      simpa using this
    rw [Array.getElem?_append_left hlt]
    simpa using g1
  · obtain ⟨S', hq, d, s, Γ', rfl, hext, hok', henv⟩ := he
    have fin : (∃ x, retV P S' fn.results.toList = some x ∧ K x S'.heap) → a'.defers = [] ∧ ∃ v, (results fn a'.tmps).run P Γ'.w = .ok v Γ'.w ∧ (∃ y r Γ'' H', Ending.returned v = .returned y ∧ K r H' ∧ Γ''.w = Γ'.w ∧ Γ.Ext Γ'' ∧ HeapOk Γ'' H' ∧ concV Γ'' r y) := by
      rintro ⟨x, h1, h2⟩
      obtain ⟨v, g1, g2⟩ := retV_sound (P := P) hok' henv h1
      exact ⟨d, v, g1, v, x, Γ', S'.heap, rfl, h2, rfl, hext, hok', g2⟩
    cases e with
    | normal => exact fin hq
    | ret => exact fin hq
    | _ => exact hq.elim

end Go.Nx
/- A call that is proved from nothing of the call's own holds wherever it is made. -/
namespace Go.Nx
set_option linter.unusedVariables false
set_option linter.unusedSimpArgs false
set_option linter.unusedSectionVars false

mutual
/-- No object of the call's own is named. -/
def hfL : Leaf → Bool
  | .v _ => true
  | .slv rows => hfRows rows
  | .slq rows => hfRows rows
  | .ptr _ _ _ _ => false
  | .sl _ _ _ _ => false
  | .fptr rows _ _ => hfRows rows
  | .clo _ caps => hfAll caps
def hfRows : List (List Leaf) → Bool
  | [] => true
  | r :: rs => hfAll r && hfRows rs
def hfAll : List Leaf → Bool
  | [] => true
  | l :: ls => hfL l && hfAll ls
end

mutual
def hfV : AVal → Bool
  | .c l => hfL l
  | .agg cs => hfAll cs
  | .tup vs => hfVs vs
def hfVs : List AVal → Bool
  | [] => true
  | v :: vs => hfV v && hfVs vs
end

section
variable {Γ Γ' : Ctx} (hw : Γ'.w = Γ.w) (hF : ∀ b, Γ.F b → Γ'.F b)
include hw hF
mutual
theorem conc_hf : ∀ (l : Leaf) (y : Value), hfL l = true → conc Γ l y → conc Γ' l y
  | .v x, y, _, hc => by simpa [conc] using hc
  | .slv rows, y, h, hc => by
    simp only [hfL] at h
    simp only [conc] at hc ⊢
    rcases hc with hc | ⟨a, cap, sz, h1, h2, h3⟩
    · exact .inl hc
    · refine .inr ⟨a, cap, sz, h1, h2, ?_⟩
      rcases h3 with h3 | ⟨h3, h4, h5⟩
      · exact .inl h3
      · exact .inr ⟨h3, hF _ h4, concRows_hf _ _ _ rows h h5⟩
  | .slq rows, y, h, hc => by
    simp only [hfL] at h
    simp only [conc] at hc ⊢
    obtain ⟨a, cap, sz, h1, h2, h3⟩ := hc
    refine ⟨a, cap, sz, h1, h2, ?_⟩
    rcases h3 with h3 | ⟨h3, h4, h5⟩
    · exact .inl h3
    · exact .inr ⟨h3, hF _ h4, concRows_hf _ _ _ rows h h5⟩
  | .ptr _ _ _ _, _, h, _ => by simp [hfL] at h
  | .sl _ _ _ _, _, h, _ => by simp [hfL] at h
  | .fptr rows i k, y, h, hc => by
    simp only [hfL] at h
    simp only [conc] at hc ⊢
    obtain ⟨b, off, sz, h1, h2, h3⟩ := hc
    exact ⟨b, off, sz, h1, hF _ h2, concRows_hf _ _ _ rows h h3⟩
  | .clo f caps, y, h, hc => by
    simp only [hfL] at h
    simp only [conc] at hc ⊢
    obtain ⟨ys, h1, h2⟩ := hc
    exact ⟨ys, h1, concAll_hf caps _ h h2⟩
theorem concRows_hf : ∀ (b sz off : Nat) (rows : List (List Leaf)), hfRows rows = true → concRows Γ b sz off rows → concRows Γ' b sz off rows
  | _, _, _, [], _, _ => by simp [concRows]
  | b, sz, off, r :: rs, h, hc => by
    simp only [hfRows, Bool.and_eq_true] at h
    simp only [concRows] at hc ⊢
    exact ⟨hc.1, concRow_hf b _ r h.1 hc.2.1, concRows_hf b sz _ rs h.2 hc.2.2⟩
theorem concRow_hf : ∀ (b off : Nat) (r : List Leaf), hfAll r = true → concRow Γ b off r → concRow Γ' b off r
  | _, _, [], _, _ => by simp [concRow]
  | b, off, l :: ls, h, hc => by
    simp only [hfAll, Bool.and_eq_true] at h
    simp only [concRow] at hc ⊢
    obtain ⟨⟨y, h1, h2⟩, h3⟩ := hc
    exact ⟨⟨y, by rw [hw]; exact h1, conc_hf l y h.1 h2⟩, concRow_hf b _ ls h.2 h3⟩
theorem concAll_hf : ∀ (ls : List Leaf) (ys : List Value), hfAll ls = true → concAll Γ ls ys → concAll Γ' ls ys
  | [], ys, _, hc => by simpa [concAll] using hc
  | l :: ls, ys, h, hc => by
    simp only [hfAll, Bool.and_eq_true] at h
    simp only [concAll] at hc ⊢
    obtain ⟨y, ys', h1, h2, h3⟩ := hc
    exact ⟨y, ys', h1, conc_hf l y h.1 h2, concAll_hf ls ys' h.2 h3⟩
end
mutual
theorem concV_hf : ∀ (v : AVal) (y : Value), hfV v = true → concV Γ v y → concV Γ' v y
  | .c l, y, h, hc => by simp only [concV, hfV] at *; exact conc_hf hw hF l y h hc
  | .agg cs, y, h, hc => by
    simp only [concV, hfV] at *
    obtain ⟨ys, h1, h2⟩ := hc
    exact ⟨ys, h1, concAll_hf hw hF _ _ h h2⟩
  | .tup vs, y, h, hc => by
    simp only [concV, hfV] at *
    obtain ⟨ys, h1, h2⟩ := hc
    exact ⟨ys, h1, concVs_hf _ _ h h2⟩
theorem concVs_hf : ∀ (vs : List AVal) (ys : List Value), hfVs vs = true → concVs Γ vs ys → concVs Γ' vs ys
  | [], ys, _, hc => by simpa [concVs] using hc
  | v :: vs, ys, h, hc => by
    simp only [hfVs, Bool.and_eq_true] at h
    simp only [concVs] at hc ⊢
    obtain ⟨y, ys', h1, h2, h3⟩ := hc
    exact ⟨y, ys', h1, concV_hf v y h.1 h2, concVs_hf vs ys' h.2 h3⟩
end
end

/-! Names of objects, moved on. -/
def sh0 (n : Nat) : Leaf → Leaf
  | .ptr h ver i k => .ptr (n + h) ver i k
  | .sl h ver lo len => .sl (n + h) ver lo len
  | l => l
def shL (n : Nat) : Leaf → Leaf
  | .ptr h ver i k => .ptr (n + h) ver i k
  | .sl h ver lo len => .sl (n + h) ver lo len
  | .clo f caps => .clo f (caps.map (sh0 n))
  | l => l
def shV (n : Nat) : AVal → AVal
  | .c l => .c (shL n l)
  | .agg cs => .agg (cs.map (shL n))
  | .tup vs => .tup (vs.map fun | .c l => .c (shL n l) | .agg cs => .agg (cs.map (shL n)) | v => v)
def shO (n : Nat) : Ob → Ob
  | .live ver sz rows => .live ver sz (rows.map fun r => r.map (shL n))
  | .dead => .dead
/-- What may be moved: what is named lies on the surface. -/
def mv0 (m : Nat) : Leaf → Bool
  | .ptr h _ _ _ => decide (h < m)
  | .sl h _ _ _ => decide (h < m)
  | l => hfL l
def mvL (m : Nat) : Leaf → Bool
  | .ptr h _ _ _ => decide (h < m)
  | .sl h _ _ _ => decide (h < m)
  | .clo _ caps => caps.all (mv0 m)
  | l => hfL l
def mvV (m : Nat) : AVal → Bool
  | .c l => mvL m l
  | .agg cs => cs.all (mvL m)
  | .tup vs => vs.all fun | .c l => mvL m l | .agg cs => cs.all (mvL m) | .tup vs => hfVs vs
def mvO (m : Nat) : Ob → Bool
  | .live _ _ rows => rows.all fun r => r.all (mvL m)
  | .dead => true

section
variable {Γ Γ' : Ctx} {n m : Nat} (hw : Γ'.w = Γ.w) (hF : ∀ b, Γ.F b → Γ'.F b) (hh : ∀ (h : Nat) (p : Info × Nat), h < m → Γ.hs[h]? = some p → Γ'.hs[n + h]? = some p)
include hw hF hh
theorem conc_sh0 {l : Leaf} {y : Value} (hm : mv0 m l = true) (hc : conc Γ l y) : conc Γ' (sh0 n l) y := by
  cases l with
  | ptr h ver i k =>
    simp only [sh0, conc] at hc ⊢
    obtain ⟨inf, ver', p, h1, h2⟩ := hc
    exact ⟨inf, ver', p, hh _ _ (by simpa [mv0] using hm) h1, h2⟩
  | sl h ver lo len =>
    simp only [sh0, conc] at hc ⊢
    obtain ⟨inf, ver', a, cap, h1, h2⟩ := hc
    exact ⟨inf, ver', a, cap, hh _ _ (by simpa [mv0] using hm) h1, h2⟩
  | v x => simp only [sh0]; exact conc_hf hw hF _ y (by simpa [mv0] using hm) hc
  | slv rows => simp only [sh0]; exact conc_hf hw hF _ y (by simpa [mv0] using hm) hc
  | slq rows => simp only [sh0]; exact conc_hf hw hF _ y (by simpa [mv0] using hm) hc
  | fptr rows i k => simp only [sh0]; exact conc_hf hw hF _ y (by simpa [mv0] using hm) hc
  | clo f caps => simp only [sh0]; exact conc_hf hw hF _ y (by simpa [mv0] using hm) hc
theorem concAll_sh0 : ∀ {ls : List Leaf} {ys : List Value}, ls.all (mv0 m) = true → concAll Γ ls ys → concAll Γ' (ls.map (sh0 n)) ys
  | [], ys, _, h => by simpa [concAll] using h
  | l :: ls, ys, hm, h => by
    simp only [List.all_cons, Bool.and_eq_true] at hm
    simp only [concAll] at h
    obtain ⟨y, ys', rfl, h2, h3⟩ := h
    simp only [List.map_cons, concAll]
    exact ⟨y, ys', rfl, conc_sh0 hw hF hh hm.1 h2, concAll_sh0 hm.2 h3⟩
theorem conc_sh {l : Leaf} {y : Value} (hm : mvL m l = true) (hc : conc Γ l y) : conc Γ' (shL n l) y := by
  cases l with
  | ptr h ver i k =>
    simp only [shL, conc] at hc ⊢
    obtain ⟨inf, ver', p, h1, h2⟩ := hc
    exact ⟨inf, ver', p, hh _ _ (by simpa [mvL] using hm) h1, h2⟩
  | sl h ver lo len =>
    simp only [shL, conc] at hc ⊢
    obtain ⟨inf, ver', a, cap, h1, h2⟩ := hc
    exact ⟨inf, ver', a, cap, hh _ _ (by simpa [mvL] using hm) h1, h2⟩
  | v x => simp only [shL]; exact conc_hf hw hF _ y (by simpa [mvL] using hm) hc
  | slv rows => simp only [shL]; exact conc_hf hw hF _ y (by simpa [mvL] using hm) hc
  | slq rows => simp only [shL]; exact conc_hf hw hF _ y (by simpa [mvL] using hm) hc
  | fptr rows i k => simp only [shL]; exact conc_hf hw hF _ y (by simpa [mvL] using hm) hc
  | clo f caps =>
    simp only [shL, conc] at hc ⊢
    obtain ⟨ys, h1, h2⟩ := hc
    exact ⟨ys, h1, concAll_sh0 hw hF hh (by simpa [mvL] using hm) h2⟩

theorem concAll_sh : ∀ {ls : List Leaf} {ys : List Value}, ls.all (mvL m) = true → concAll Γ ls ys → concAll Γ' (ls.map (shL n)) ys
  | [], ys, _, h => by simpa [concAll] using h
  | l :: ls, ys, hm, h => by
    simp only [List.all_cons, Bool.and_eq_true] at hm
    simp only [concAll] at h
    obtain ⟨y, ys', rfl, h2, h3⟩ := h
    simp only [List.map_cons, concAll]
    exact ⟨y, ys', rfl, conc_sh hw hF hh hm.1 h2, concAll_sh hm.2 h3⟩

theorem concV_sh {v : AVal} {y : Value} (hm : mvV m v = true) (hc : concV Γ v y) : concV Γ' (shV n v) y := by
  cases v with
  | c l => simp only [mvV, shV, concV] at *; exact conc_sh hw hF hh hm hc
  | agg cs =>
    simp only [mvV, shV, concV] at *
    obtain ⟨ys, h1, h2⟩ := hc
    exact ⟨ys, h1, concAll_sh hw hF hh hm h2⟩
  | tup vs =>
    simp only [mvV, shV, concV] at *
    obtain ⟨ys, h1, h2⟩ := hc
    refine ⟨ys, h1, ?_⟩
    have key : ∀ (vs : List AVal) (ys : List Value), (vs.all fun | .c l => mvL m l | .agg cs => cs.all (mvL m) | .tup vs => hfVs vs) = true → concVs Γ vs ys → concVs Γ' (vs.map fun | .c l => .c (shL n l) | .agg cs => .agg (cs.map (shL n)) | v => v) ys := by
      intro vs
      induction vs with
      | nil => intro ys _ h; simpa [concVs] using h
      | cons v vs ih =>
        intro ys hm h
        simp only [List.all_cons, Bool.and_eq_true] at hm
        simp only [concVs] at h
        obtain ⟨y, ys', rfl, h2, h3⟩ := h
        simp only [List.map_cons, concVs]
        refine ⟨y, ys', rfl, ?_, ih ys' hm.2 h3⟩
        cases v with
        | c l => simp only [concV] at h2 ⊢; exact conc_sh hw hF hh hm.1 h2
        | agg cs =>
          simp only [concV] at h2 ⊢
          obtain ⟨zs, e1, e2⟩ := h2
          exact ⟨zs, e1, concAll_sh hw hF hh hm.1 e2⟩
        | tup us =>
          simp only [concV] at h2 ⊢
          obtain ⟨zs, e1, e2⟩ := h2
          exact ⟨zs, e1, concVs_hf hw hF us _ hm.1 e2⟩
    exact key vs _ hm h2

theorem concRow_sh {b : Nat} : ∀ {off : Nat} {r : List Leaf}, r.all (mvL m) = true → concRow Γ b off r → concRow Γ' b off (r.map (shL n))
  | _, [], _, _ => by simp [concRow]
  | off, l :: ls, hm, h => by
    simp only [List.all_cons, Bool.and_eq_true] at hm
    simp only [List.map_cons, concRow] at h ⊢
    obtain ⟨⟨y, h1, h2⟩, h3⟩ := h
    exact ⟨⟨y, by rw [hw]; exact h1, conc_sh hw hF hh hm.1 h2⟩, concRow_sh hm.2 h3⟩

theorem concRows_sh {b sz : Nat} : ∀ {off : Nat} {rows : List (List Leaf)}, (rows.all fun r => r.all (mvL m)) = true → concRows Γ b sz off rows → concRows Γ' b sz off (rows.map fun r => r.map (shL n))
  | _, [], _, _ => by simp [concRows]
  | off, r :: rs, hm, h => by
    simp only [List.all_cons, Bool.and_eq_true] at hm
    simp only [List.map_cons, concRows] at h ⊢
    exact ⟨by simpa using h.1, concRow_sh hw hF hh hm.1 h.2.1, concRows_sh hm.2 h.2.2⟩
end

/-- From nothing to anywhere. -/
theorem Call.lift {P : Program} {f : FuncId} {args : List AVal} {r : AVal} {objs : List Ob} (ha : hfVs args = true) (hr : mvV objs.length r = true) (ho : objs.all (mvO objs.length) = true) (h : Call P f args [] fun r' H' => r' = r ∧ ∃ junk, H' = objs ++ junk) (H : List Ob) :
    Call P f args H fun r' H' => r' = shV H.length r ∧ H' = H ++ objs.map (shO H.length) := by
  refine ⟨h.1, fun Γ hok args' hc => ?_⟩
  let Γ1 : Ctx := { w := Γ.w, F := Γ.F, X := fun _ => False, hs := [] }
  have hok1 : HeapOk Γ1 [] := ⟨rfl, fun h o hh => by simp at hh, fun h h' v v' z z' rows rows' inf inf' b h1 => by simp at h1, hok.F, fun b hb => hb.elim⟩
  refine (h.2 Γ1 hok1 args' (concVs_hf (Γ := Γ) (Γ' := Γ1) rfl (fun _ h => h) args _ ha hc)).mono fun e w' he => ?_
  obtain ⟨y, r', Γ1', H', rfl, ⟨rfl, junk, rfl⟩, rfl, hext, hok', hcv⟩ := he
  have hln := hok'.len
  simp only [List.length_append] at hln
  have hold : ∀ b, b < Γ.w.heap.size → Γ1'.w.heap[b]? = Γ.w.heap[b]? := fun b hb => hext.frame b hb (fun h => h)
  have hFn : ∀ b, Γ1'.F b → Γ.F b ∨ Γ.w.heap.size ≤ b := fun b hb => by
    rcases hext.Fnew b hb with h1 | h1 | h1
    · exact .inl h1
    · exact h1.elim
    · exact .inr h1
  have hXn : ∀ b, Γ1'.X b → Γ.w.heap.size ≤ b := fun b hb => by
    rcases hext.Xnew b hb with h1 | h1
    · exact h1.elim
    · exact h1
  obtain ⟨Γ', hΓ'⟩ : ∃ Γ' : Ctx, Γ' = { w := Γ1'.w, F := Γ1'.F, X := fun b => Γ.X b ∨ Γ1'.X b, hs := Γ.hs ++ Γ1'.hs.take objs.length } := ⟨_, rfl⟩
  have ew : Γ'.w = Γ1'.w := by rw [hΓ']
  have eF : ∀ b, Γ1'.F b → Γ'.F b := by rw [hΓ']; exact fun _ h => h
  have hleft : ∀ h, h < H.length → Γ'.hs[h]? = Γ.hs[h]? := fun h hlt => by
    rw [hΓ']
    exact List.getElem?_append_left (by rw [← hok.len]; exact hlt)
  have hright : ∀ h, h < objs.length → Γ'.hs[H.length + h]? = Γ1'.hs[h]? := fun h hlt => by
    rw [hΓ']
    show (Γ.hs ++ _)[_]? = _
    rw [List.getElem?_append_right (by rw [hok.len]; omega), hok.len, Nat.add_sub_cancel_left, List.getElem?_take_of_lt hlt]
  have hnew : ∀ (h : Nat) (p : Info × Nat), h < objs.length → Γ1'.hs[h]? = some p → Γ'.hs[H.length + h]? = some p := fun h p hlt hh => by rw [hright h hlt]; exact hh
  have hle : Γ.Le Γ' := ⟨fun b hb => eF b (hext.le.F b hb), fun b hb => by rw [ew]; exact hext.le.mem b hb, fun h inf ver hh => ⟨inf, ver, by
    rw [hleft h (by rw [hok.len]; exact (List.getElem?_eq_some_iff.1 hh).1)]; exact hh, Nat.le_refl _, fun _ => rfl⟩⟩
  refine ⟨y, _, Γ', _, rfl, ⟨rfl, rfl⟩, ew, ⟨hle, by rw [ew]; exact hext.os, by rw [ew]; exact hext.tape, by rw [ew]; exact hext.output, by rw [ew]; exact hext.size, fun b hb _ => by rw [ew]; exact hold b hb, fun b hb => ?_, fun b hb => ?_⟩, ?_, concV_sh ew eF hnew hr hcv⟩
  · rw [hΓ'] at hb
    rcases hFn b hb with h1 | h1
    · exact .inl h1
    · exact .inr (.inr h1)
  · rw [hΓ'] at hb
    rcases hb with h1 | h1
    · exact .inl h1
    · exact .inr (hXn b h1)
  · have oldobj : ∀ (h : Nat) (o : Ob), H[h]? = some o → ObOk Γ' h o := fun h o hh => by
      have hlt : h < H.length := (List.getElem?_eq_some_iff.1 hh).1
      refine (hok.ob h o hh).keep hle (fun _ _ _ _ => hleft h hlt) (fun ver z rows inf b _ _ _ hx hf => ⟨by rw [ew]; exact hold b (hok.X b hx), ?_, by rw [hΓ']; exact .inl hx⟩)
      intro hf'
      rw [hΓ'] at hf'
      rcases hFn b hf' with h1 | h1
      · exact hf h1
      · have := hok.X b hx
        omega
    have newobj : ∀ (h : Nat) (o : Ob), objs[h]? = some o → ObOk Γ' (H.length + h) (shO H.length o) := fun h o hh => by
      have hlt : h < objs.length := (List.getElem?_eq_some_iff.1 hh).1
      have hob := hok'.ob h o (by rw [List.getElem?_append_left hlt]; exact hh)
      have hmv : mvO objs.length o = true := by
        rw [List.all_eq_true] at ho
        exact ho o (List.mem_of_getElem? hh)
      cases o with
      | dead => trivial
      | live ver sz rows =>
        obtain ⟨inf, h1, h2, h3⟩ := hob
        refine ⟨inf, hnew h _ hlt h1, h2, ?_⟩
        cases hb : inf.base with
        | none =>
          simp only [hb] at h3
          subst h3
          rfl
        | some b =>
          simp only [hb] at h3
          obtain ⟨g1, g2, g3, g4, g5, cells, T, g6, g7, g8⟩ := h3
          refine ⟨g1, by rw [hΓ']; exact .inr g2, by rw [hΓ']; exact g3, by simpa using g4, g5, cells, T, by rw [ew]; exact g6, g7, concRows_sh ew eF hnew (by simpa [mvO] using hmv) g8⟩
    have look : ∀ (n v z : Nat) (rows : List (List Leaf)), (H ++ objs.map (shO H.length))[n]? = some (.live v z rows) → (n < H.length ∧ H[n]? = some (.live v z rows)) ∨ ∃ h rows', n = H.length + h ∧ h < objs.length ∧ objs[h]? = some (.live v z rows') := by
      intro n v z rows hn
      by_cases hlt : n < H.length
      · rw [List.getElem?_append_left hlt] at hn
        exact .inl ⟨hlt, hn⟩
      · rw [List.getElem?_append_right (by omega), List.getElem?_map] at hn
        cases ho' : objs[n - H.length]? with
        | none => rw [ho'] at hn; simp at hn
        | some o =>
          rw [ho'] at hn
          simp only [Option.map_some, Option.some.injEq] at hn
          cases o with
          | dead => simp [shO] at hn
          | live v' z' rows' =>
            simp only [shO, Ob.live.injEq] at hn
            obtain ⟨rfl, rfl, _⟩ := hn
            exact .inr ⟨n - H.length, rows', by omega, (List.getElem?_eq_some_iff.1 ho').1, ho'⟩
    have xold : ∀ (h v z : Nat) (rows : List (List Leaf)) (inf : Info) (b : Nat), H[h]? = some (.live v z rows) → Γ.hs[h]? = some (inf, v) → inf.base = some b → b < Γ.w.heap.size := fun h v z rows inf b h1 h2 h3 => by
      obtain ⟨i2, g1, _, g2⟩ := hok.ob h _ h1
      rw [h2] at g1
      cases g1
      simp only [h3] at g2
      exact hok.X b g2.2.1
    have xnew : ∀ (h v z : Nat) (rows : List (List Leaf)) (inf : Info) (b : Nat), objs[h]? = some (.live v z rows) → Γ1'.hs[h]? = some (inf, v) → inf.base = some b → Γ.w.heap.size ≤ b := fun h v z rows inf b h1 h2 h3 => by
      obtain ⟨i2, g1, _, g2⟩ := hok'.ob h _ (by rw [List.getElem?_append_left (List.getElem?_eq_some_iff.1 h1).1]; exact h1)
      rw [h2] at g1
      cases g1
      simp only [h3] at g2
      exact hXn b g2.2.1
    refine ⟨?_, fun h o hh => ?_, fun h h' v v' z z' rows rows' inf inf' b h1 h2 h3 h4 h5 h6 => ?_, fun b hb => by rw [ew]; rw [hΓ'] at hb; exact hok'.F b hb, fun b hb => ?_⟩
    · rw [hΓ']
      simp only [List.length_append, List.length_map, List.length_take, hok.len]
      omega
    · by_cases hlt : h < H.length
      · rw [List.getElem?_append_left hlt] at hh
        exact oldobj h o hh
      · rw [List.getElem?_append_right (by omega), List.getElem?_map] at hh
        simp only [Option.map_eq_some_iff] at hh
        obtain ⟨o', ho', rfl⟩ := hh
        have := newobj _ _ ho'
        rwa [show H.length + (h - H.length) = h by omega] at this
    · rcases look h v z rows h1 with ⟨a1, a2⟩ | ⟨m, r1, rfl, a1, a2⟩ <;> rcases look h' v' z' rows' h2 with ⟨b1, b2⟩ | ⟨m', r2, rfl, b1, b2⟩
      · rw [hleft _ a1] at h3
        rw [hleft _ b1] at h4
        exact hok.apart h h' v v' z z' rows rows' inf inf' b a2 b2 h3 h4 h5 h6
      · rw [hleft _ a1] at h3
        rw [hright _ b1] at h4
        have := xold h v z rows inf b a2 h3 h5
        have := xnew m' v' z' r2 inf' b b2 h4 h6
        omega
      · rw [hright _ a1] at h3
        rw [hleft _ b1] at h4
        have := xnew m v z r1 inf b a2 h3 h5
        have := xold h' v' z' rows' inf' b b2 h4 h6
        omega
      · rw [hright _ a1] at h3
        rw [hright _ b1] at h4
        have := hok'.apart m m' v v' z z' r1 r2 inf inf' b (by rw [List.getElem?_append_left a1]; exact a2) (by rw [List.getElem?_append_left b1]; exact b2) h3 h4 h5 h6
        omega
    · rw [hΓ'] at hb
      rw [ew]
      rcases hb with h1 | h1
      · exact Nat.lt_of_lt_of_le (hok.X b h1) hext.size
      · exact hok'.X b h1

theorem Call.mono {P : Program} {f : FuncId} {args : List AVal} {H : List Ob} {K K' : AVal → List Ob → Prop} (h : Call P f args H K) (hk : ∀ r H', K r H' → K' r H') : Call P f args H K' :=
  ⟨h.1, fun Γ hok args' hc => (h.2 Γ hok args' hc).mono fun e w' ⟨y, r, Γ', H', h1, h2, h3⟩ => ⟨y, r, Γ', H', h1, hk _ _ h2, h3⟩⟩

/-- A call that hands back nothing of its own: everywhere. -/
theorem DCall.lift {P : Program} {f : FuncId} {args : List AVal} {r : AVal} (ha : hfVs args = true) (hr : mvV 0 r = true) (hs : ∀ n, shV n r = r) (h : Call P f args [] fun r' _ => r' = r) (H : List Ob) : DCall P f args H r := by
  have := Call.lift (r := r) (objs := []) ha hr rfl (h.mono fun r' H' h => ⟨h, H', rfl⟩) H
  exact this.mono fun r' H' ⟨h1, h2⟩ => ⟨by rw [h1, hs], by simpa using h2⟩

end Go.Nx
/- The operations, one rule each. -/
namespace Go.Nx
set_option linter.unusedVariables false
set_option linter.unusedSimpArgs false

section
variable {P : Program} {W : Option WW} {os : List Oper} {gs : List (List (Nat × Bool))} {ex : List Bool} {e e' : Env} {H H' H1 : List Ob} {ty : TypeId} {pos : String} {after : Array Edge} {guard : Option (Nat × Bool)} {b : Bool} {t : Nat}

theorem SpecR.mob {op : Op} {x : AVal} (hf : fixed op = false) (hc : isCall op = false) (ha : actE e (gs.headD []) = some b) (hw : wOk W (ex.headD false) e H op = true) (hs : stp P e H op = some (x, H))
    (hr : SpecR P W os gs.tail ex.tail ((t, x) :: e) H e' H') : SpecR P W (⟨some t, op, ty, pos, after, guard⟩ :: os) gs ex e H e' H' :=
  .cons (b := b) (x := x) (H1 := H) ⟨ha, .inr (.inr (.inl ⟨hc, hw, by simp [gE, hs]⟩))⟩ hr

theorem SpecR.fix {op : Op} {x : AVal} {d : Option Nat} (hc : isCall op = false) (ha : actE e (gs.headD []) = some true) (hw : wOk W (ex.headD false) e H op = true) (hs : stp P e H op = some (x, H1))
    (hr : SpecR P W os gs.tail ex.tail (putE e d x) H1 e' H') : SpecR P W (⟨d, op, ty, pos, after, guard⟩ :: os) gs ex e H e' H' :=
  .cons (b := true) (x := x) (H1 := H1) ⟨ha, .inr (.inr (.inl ⟨hc, hw, by simp [gE, hs]⟩))⟩ hr

/-- What isn't wanted. -/
theorem SpecR.off {op : Op} {d : Option Nat} (ha : actE e (gs.headD []) = some false) (hr : SpecR P W os gs.tail ex.tail (putE e d unit) H e' H') : SpecR P W (⟨d, op, ty, pos, after, guard⟩ :: os) gs ex e H e' H' :=
  .cons (b := false) (x := unit) (H1 := H) ⟨ha, .inl ⟨rfl, rfl⟩⟩ hr

theorem SpecR.call {f : Operand} {args : Array Operand} {ts : Array TypeId} {c : FuncId} {caps : List Leaf} {as : List AVal} {x : AVal} {d : Option Nat} (ha : actE e (gs.headD []) = some b) (hf : evO e f = some (.c (.clo c caps))) (has : allV (args.toList.map (evO e)) = some as)
    (hD : ∀ H, DCall P c (as ++ caps.map .c) H x) (hr : SpecR P W os gs.tail ex.tail (putE e d x) H e' H') : SpecR P W (⟨d, .call { callee := .value f, args := args, argTypes := ts }, ty, pos, after, guard⟩ :: os) gs ex e H e' H' :=
  .cons (b := b) (x := x) (H1 := H) ⟨ha, .inr (.inl ⟨f, args, ts, c, caps, as, rfl, hf, has, rfl, fun _ => by cases ex.headD false <;> simp [hD]⟩)⟩ hr

/-- The same, where it is proved of this heap alone, or under what is wanted. -/
theorem SpecR.callH {f : Operand} {args : Array Operand} {ts : Array TypeId} {c : FuncId} {caps : List Leaf} {as : List AVal} {x : AVal} {d : Option Nat} (ha : actE e (gs.headD []) = some b) (hf : evO e f = some (.c (.clo c caps))) (has : allV (args.toList.map (evO e)) = some as)
    (hx : ex.headD false = false) (hD : b = true → DCall P c (as ++ caps.map .c) H x) (hr : SpecR P W os gs.tail ex.tail (putE e d x) H e' H') : SpecR P W (⟨d, .call { callee := .value f, args := args, argTypes := ts }, ty, pos, after, guard⟩ :: os) gs ex e H e' H' :=
  .cons (b := b) (x := x) (H1 := H) ⟨ha, .inr (.inl ⟨f, args, ts, c, caps, as, rfl, hf, has, rfl, fun hb => by simp only [hx, Bool.false_eq_true, if_false]; exact hD hb⟩)⟩ hr
theorem SpecR.callG {f : Operand} {args : Array Operand} {ts : Array TypeId} {c : FuncId} {caps : List Leaf} {as : List AVal} {x : AVal} {d : Option Nat} (ha : actE e (gs.headD []) = some b) (hf : evO e f = some (.c (.clo c caps))) (has : allV (args.toList.map (evO e)) = some as)
    (hD : b = true → ∀ H, DCall P c (as ++ caps.map .c) H x) (hr : SpecR P W os gs.tail ex.tail (putE e d x) H e' H') : SpecR P W (⟨d, .call { callee := .value f, args := args, argTypes := ts }, ty, pos, after, guard⟩ :: os) gs ex e H e' H' :=
  .cons (b := b) (x := x) (H1 := H) ⟨ha, .inr (.inl ⟨f, args, ts, c, caps, as, rfl, hf, has, rfl, fun hb => by cases ex.headD false <;> simp [hD hb]⟩)⟩ hr

theorem SpecR.move {y : Operand} {x : AVal} (ha : actE e (gs.headD []) = some b) (hw : wOk W (ex.headD false) e H (.move y) = true) (h : evO e y = some x)
    (hr : SpecR P W os gs.tail ex.tail ((t, x) :: e) H e' H') : SpecR P W (⟨some t, .move y, ty, pos, after, guard⟩ :: os) gs ex e H e' H' := .mob rfl rfl ha hw (by simp [stp, h]) hr
theorem SpecR.assign {y : Operand} {x : AVal} (ha : actE e (gs.headD []) = some b) (hw : wOk W (ex.headD false) e H (.assign y) = true) (h : evO e y = some x)
    (hr : SpecR P W os gs.tail ex.tail ((t, x) :: e) H e' H') : SpecR P W (⟨some t, .assign y, ty, pos, after, guard⟩ :: os) gs ex e H e' H' := .mob rfl rfl ha hw (by simp [stp, h]) hr

/-- a && b -/
theorem SpecR.pickAnd {c p : Operand} {v x : Bool} (ha : actE e (gs.headD []) = some b) (hw : wOk W (ex.headD false) e H (.pick c p (.const (.bool false))) = true) (hc : evO e c = some (.c (B v))) (hp : evO e p = some (.c (B x)))
    (hr : SpecR P W os gs.tail ex.tail ((t, .c (B (v && x))) :: e) H e' H') : SpecR P W (⟨some t, .pick c p (.const (.bool false)), ty, pos, after, guard⟩ :: os) gs ex e H e' H' :=
  .mob rfl rfl ha hw (by
    have hk : evO e (.const (.bool false)) = some (.c (B false)) := rfl
    cases v <;> simp [stp, hc, hp, hk, pickV]) hr
/-- a || b -/
theorem SpecR.pickOr {c p : Operand} {v x : Bool} (ha : actE e (gs.headD []) = some b) (hw : wOk W (ex.headD false) e H (.pick c (.const (.bool true)) p) = true) (hc : evO e c = some (.c (B v))) (hp : evO e p = some (.c (B x)))
    (hr : SpecR P W os gs.tail ex.tail ((t, .c (B (v || x))) :: e) H e' H') : SpecR P W (⟨some t, .pick c (.const (.bool true)) p, ty, pos, after, guard⟩ :: os) gs ex e H e' H' :=
  .mob rfl rfl ha hw (by
    have hk : evO e (.const (.bool true)) = some (.c (B true)) := rfl
    cases v <;> simp [stp, hc, hp, hk, pickV]) hr
/-- a && b, where a is known to be false: b was not reckoned. -/
theorem SpecR.pickAnd0 {c p : Operand} {x : AVal} (ha : actE e (gs.headD []) = some b) (hw : wOk W (ex.headD false) e H (.pick c p (.const (.bool false))) = true) (hc : evO e c = some (.c (B false))) (hp : evO e p = some x)
    (hr : SpecR P W os gs.tail ex.tail ((t, .c (B false)) :: e) H e' H') : SpecR P W (⟨some t, .pick c p (.const (.bool false)), ty, pos, after, guard⟩ :: os) gs ex e H e' H' :=
  .mob rfl rfl ha hw (by
    have hk : evO e (.const (.bool false)) = some (.c (B false)) := rfl
    simp only [stp, hc, hp, hk]
    unfold pickV
    split
    · simp_all
    · simp) hr
theorem SpecR.load1 {ty0 n : Nat} {y : Operand} {p l : Leaf} (ht : tk P ty0 = some (false, n)) (ha : actE e (gs.headD []) = some b) (hw : wOk W (ex.headD false) e H (.load ty0 y) = true) (hy : evO e y = some (.c p)) (hl : ld1 H p = some l)
    (hr : SpecR P W os gs.tail ex.tail ((t, .c l) :: e) H e' H') : SpecR P W (⟨some t, .load ty0 y, ty, pos, after, guard⟩ :: os) gs ex e H e' H' := .mob rfl rfl ha hw (by simp [stp, ht, hy, hl]) hr
theorem SpecR.loadN {ty0 n : Nat} {y : Operand} {p : Leaf} {cs : List Leaf} (ht : tk P ty0 = some (true, n)) (ha : actE e (gs.headD []) = some b) (hw : wOk W (ex.headD false) e H (.load ty0 y) = true) (hy : evO e y = some (.c p)) (hl : ldN H n p = some cs)
    (hr : SpecR P W os gs.tail ex.tail ((t, .agg cs) :: e) H e' H') : SpecR P W (⟨some t, .load ty0 y, ty, pos, after, guard⟩ :: os) gs ex e H e' H' := .mob rfl rfl ha hw (by simp [stp, ht, hy, hl]) hr

/-- Where a field lies. -/
def fieldL (H : List Ob) (off : Nat) : Leaf → Option Leaf
  | .ptr h ver i k => match obj H h ver with
    | some _ => some (.ptr h ver i (k + off))
    | none => none
  | .fptr rows i k => some (.fptr rows i (k + off))
  | _ => none
theorem SpecR.fieldAddr {s f off n : Nat} {g : Bool} {y : Operand} {p l : Leaf} (ht : fo P s f = some (off, n, g)) (hn : (n == 0) = false) (ha : actE e (gs.headD []) = some b) (hw : wOk W (ex.headD false) e H (.fieldAddr s y f) = true) (hy : evO e y = some (.c p)) (hl : fieldL H off p = some l)
    (hr : SpecR P W os gs.tail ex.tail ((t, .c l) :: e) H e' H') : SpecR P W (⟨some t, .fieldAddr s y f, ty, pos, after, guard⟩ :: os) gs ex e H e' H' :=
  .mob rfl rfl ha hw (by
    have hn' : n ≠ 0 := by simpa using hn
    cases p <;> simp [fieldL] at hl
    · rename_i h ver i k
      cases ho : obj H h ver with
      | none => simp [ho] at hl
      | some zr => simp [ho] at hl; subst hl; simp [stp, ht, hy, hn', ho]
    · subst hl; simp [stp, ht, hy, hn']) hr
def alive (H : List Ob) : Leaf → Bool
  | .ptr h ver _ _ => (obj H h ver).isSome
  | .fptr _ _ _ => true
  | .clo _ _ => true
  | _ => false
theorem SpecR.nilCheck {y : Operand} {l : Leaf} (ha : actE e (gs.headD []) = some b) (hw : wOk W (ex.headD false) e H (.nilCheck y) = true) (hy : evO e y = some (.c l)) (hl : alive H l = true)
    (hr : SpecR P W os gs.tail ex.tail ((t, .c l) :: e) H e' H') : SpecR P W (⟨some t, .nilCheck y, ty, pos, after, guard⟩ :: os) gs ex e H e' H' :=
  .mob rfl rfl ha hw (by
    cases l <;> simp [alive] at hl
    · rename_i h ver i k
      obtain ⟨zr, ho⟩ := Option.isSome_iff_exists.1 hl
      simp [stp, hy, ho]
    · simp [stp, hy]
    · simp [stp, hy]) hr
theorem SpecR.field {s f off n : Nat} {g : Bool} {y : Operand} {cs : List Leaf} {x : AVal} (ht : fo P s f = some (off, n, g)) (ha : actE e (gs.headD []) = some b) (hw : wOk W (ex.headD false) e H (.field s y f) = true) (hy : evO e y = some (.agg cs)) (hl : mkSeg g cs off n = some x)
    (hr : SpecR P W os gs.tail ex.tail ((t, x) :: e) H e' H') : SpecR P W (⟨some t, .field s y f, ty, pos, after, guard⟩ :: os) gs ex e H e' H' := .mob rfl rfl ha hw (by simp [stp, ht, hy, hl]) hr
theorem SpecR.extract {y : Operand} {i : Nat} {vs : List AVal} {x : AVal} (ha : actE e (gs.headD []) = some b) (hw : wOk W (ex.headD false) e H (.extract y i) = true) (hy : evO e y = some (.tup vs)) (hl : vs[i]? = some x)
    (hr : SpecR P W os gs.tail ex.tail ((t, x) :: e) H e' H') : SpecR P W (⟨some t, .extract y i, ty, pos, after, guard⟩ :: os) gs ex e H e' H' := .mob rfl rfl ha hw (by simp [stp, hy, hl]) hr
theorem SpecR.int {op : BinOp} {ty0 ty1 : Nat} {y z : Operand} {k : IntKind} {m n : Int} {l : Leaf} (ha : actE e (gs.headD []) = some b) (hw : wOk W (ex.headD false) e H (.binOp op ty0 y z ty1) = true) (hy : evO e y = some (.c (.v (.int k m)))) (hz : evO e z = some (.c (.v (.int k n)))) (hl : intBin op k m n = some l)
    (hr : SpecR P W os gs.tail ex.tail ((t, .c l) :: e) H e' H') : SpecR P W (⟨some t, .binOp op ty0 y z ty1, ty, pos, after, guard⟩ :: os) gs ex e H e' H' := .mob rfl rfl ha hw (by simp [stp, hy, hz, binV, hl]) hr
theorem SpecR.eqAgg {ty0 ty1 : Nat} {y z : Operand} {as bs : List Leaf} {s : List Sh} {v : Bool} (ht : eqs P ty0 = some s) (ha : actE e (gs.headD []) = some b) (hw : wOk W (ex.headD false) e H (.binOp .eql ty0 y z ty1) = true) (hy : evO e y = some (.agg as)) (hz : evO e z = some (.agg bs)) (hl : eqCells s as bs = some v)
    (hr : SpecR P W os gs.tail ex.tail ((t, .c (B v)) :: e) H e' H') : SpecR P W (⟨some t, .binOp .eql ty0 y z ty1, ty, pos, after, guard⟩ :: os) gs ex e H e' H' := .mob rfl rfl ha hw (by simp [stp, hy, hz, binV, ht, hl]) hr
theorem SpecR.neAgg {ty0 ty1 : Nat} {y z : Operand} {as bs : List Leaf} {s : List Sh} {v : Bool} (ht : eqs P ty0 = some s) (ha : actE e (gs.headD []) = some b) (hw : wOk W (ex.headD false) e H (.binOp .neq ty0 y z ty1) = true) (hy : evO e y = some (.agg as)) (hz : evO e z = some (.agg bs)) (hl : eqCells s as bs = some v)
    (hr : SpecR P W os gs.tail ex.tail ((t, .c (B (!v))) :: e) H e' H') : SpecR P W (⟨some t, .binOp .neq ty0 y z ty1, ty, pos, after, guard⟩ :: os) gs ex e H e' H' := .mob rfl rfl ha hw (by simp [stp, hy, hz, binV, ht, hl]) hr
theorem SpecR.eqBool {ty0 ty1 : Nat} {y z : Operand} {u v : Bool} (ht : P.underlying ty0 = some .bool) (ha : actE e (gs.headD []) = some b) (hw : wOk W (ex.headD false) e H (.binOp .eql ty0 y z ty1) = true) (hy : evO e y = some (.c (B u))) (hz : evO e z = some (.c (B v)))
    (hr : SpecR P W os gs.tail ex.tail ((t, .c (B (u == v))) :: e) H e' H') : SpecR P W (⟨some t, .binOp .eql ty0 y z ty1, ty, pos, after, guard⟩ :: os) gs ex e H e' H' := .mob rfl rfl ha hw (by simp [stp, hy, hz, binV, ht]) hr
theorem SpecR.not {ty0 : Nat} {y : Operand} {v : Bool} (ha : actE e (gs.headD []) = some b) (hw : wOk W (ex.headD false) e H (.unOp .not ty0 y) = true) (hy : evO e y = some (.c (B v)))
    (hr : SpecR P W os gs.tail ex.tail ((t, .c (B (!v))) :: e) H e' H') : SpecR P W (⟨some t, .unOp .not ty0 y, ty, pos, after, guard⟩ :: os) gs ex e H e' H' := .mob rfl rfl ha hw (by simp [stp, hy]) hr
theorem SpecR.convert {ty0 ty1 : Nat} {y : Operand} {k0 k k2 : IntKind} {n : Int} (h0 : ik P ty0 = some k0) (h1 : ik P ty1 = some k) (ha : actE e (gs.headD []) = some b) (hw : wOk W (ex.headD false) e H (.convert ty0 ty1 y) = true) (hy : evO e y = some (.c (.v (.int k2 n))))
    (hr : SpecR P W os gs.tail ex.tail ((t, .c (.v (.int k (k.wrap n)))) :: e) H e' H') : SpecR P W (⟨some t, .convert ty0 ty1 y, ty, pos, after, guard⟩ :: os) gs ex e H e' H' := .mob rfl rfl ha hw (by simp [stp, h0, h1, hy]) hr
theorem SpecR.makeFunc {f : FuncId} {caps : Array Operand} {cs : List Leaf} (ha : actE e (gs.headD []) = some b) (hw : wOk W (ex.headD false) e H (.makeFunc (.func f) #[] caps) = true) (hl : leafL (caps.toList.map (evO e)) = some cs)
    (hr : SpecR P W os gs.tail ex.tail ((t, .c (.clo f cs)) :: e) H e' H') : SpecR P W (⟨some t, .makeFunc (.func f) #[] caps, ty, pos, after, guard⟩ :: os) gs ex e H e' H' := .mob rfl rfl ha hw (by simp [stp, hl]) hr
theorem SpecR.len {el : TypeId} {y : Operand} {ts : TypeId} {l : Leaf} {n : Nat} (ht : P.underlying ts = some (.slice el)) (ha : actE e (gs.headD []) = some b) (hw : wOk W (ex.headD false) e H (.call { callee := .builtin .len, args := #[y], argTypes := #[ts] }) = true) (hy : evO e y = some (.c l)) (hl : lenL l = some n)
    (hr : SpecR P W os gs.tail ex.tail ((t, .c (I (n : Int))) :: e) H e' H') : SpecR P W (⟨some t, .call { callee := .builtin .len, args := #[y], argTypes := #[ts] }, ty, pos, after, guard⟩ :: os) gs ex e H e' H' := .mob rfl rfl ha hw (by simp [stp, ht, hy, hl]) hr
theorem SpecR.minmax {bi : Builtin} {args : Array Operand} {ts : Array TypeId} {n : Int} (hbi : bi = .min ∨ bi = .max) (ha : actE e (gs.headD []) = some b) (hw : wOk W (ex.headD false) e H (.call { callee := .builtin bi, args := args, argTypes := ts }) = true) (hl : foldInt (if bi = .min then min else max) (args.toList.map (evO e)) = some n)
    (hr : SpecR P W os gs.tail ex.tail ((t, .c (I n)) :: e) H e' H') : SpecR P W (⟨some t, .call { callee := .builtin bi, args := args, argTypes := ts }, ty, pos, after, guard⟩ :: os) gs ex e H e' H' := by
  rcases hbi with rfl | rfl
  · exact .mob rfl rfl ha hw (by simp at hl; simp [stp, hl]) hr
  · exact .mob rfl rfl ha hw (by simp at hl; simp [stp, hl]) hr
/-- An element of a slice that is only read. -/
def asF : Leaf → Option (List (List Leaf))
  | .slv rows => some rows
  | .slq rows => some rows
  | _ => none
theorem SpecR.indexF {ts : TypeId} {y z : Operand} {el size : Nat} {rest : Nat × List Leaf} {l : Leaf} {k : IntKind} {n : Int} {rows : List (List Leaf)} {r : List Leaf} (ht : se P ts = some (el, size, rest)) (ha : actE e (gs.headD []) = some b) (hw : wOk W (ex.headD false) e H (.indexAddr ts y z) = true) (hy : evO e y = some (.c l)) (hz : evO e z = some (.c (.v (.int k n))))
    (hl : asF l = some rows) (hn : 0 ≤ n) (hi : rows[n.toNat]? = some r) (hs : r.length = size)
    (hr : SpecR P W os gs.tail ex.tail ((t, .c (.fptr rows n.toNat 0)) :: e) H e' H') : SpecR P W (⟨some t, .indexAddr ts y z, ty, pos, after, guard⟩ :: os) gs ex e H e' H' :=
  .mob rfl rfl ha hw (by
    have hlt : n.toNat < rows.length := (List.getElem?_eq_some_iff.1 hi).1
    have hb : 0 ≤ n ∧ n < rows.length := ⟨hn, by omega⟩
    unfold asF at hl
    split at hl <;> cases hl
    all_goals
      simp only [stp, hy, hz, indexAddrV, view, ht]
      rw [if_pos hb]
      simp [hi, hs]) hr
end
end Go.Nx
/- The same rules, ahead: what is to hold in the end is carried along. -/
namespace Go.Nx
set_option linter.unusedVariables false
set_option linter.unusedSimpArgs false

def RunR (P : Program) (W : Option WW) (os : List Oper) (gs : List (List (Nat × Bool))) (ex : List Bool) (e : Env) (H : List Ob) (K : Env → List Ob → Prop) : Prop :=
  ∃ e' H', SpecR P W os gs ex e H e' H' ∧ K e' H'

/-- The slots that are kept. -/
inductive Keeps (e : Env) : List Nat → Env → Prop
  | nil : Keeps e [] []
  | cons {t : Nat} {x : AVal} {l : List Nat} {r : Env} : e.get t = some x → Keeps e l r → Keeps e (t :: l) ((t, x) :: r)

theorem Keeps.sel {e : Env} {l : List Nat} {r : Env} (h : Keeps e l r) : sel l e = r := by
  induction h with
  | nil => rfl
  | cons h1 _ ih => unfold Nx.sel at ih ⊢; rw [List.filterMap_cons]; simp [h1, ih]

section
variable {P : Program} {W : Option WW} {os : List Oper} {gs : List (List (Nat × Bool))} {ex : List Bool} {e : Env} {H H1 : List Ob} {ty : TypeId} {pos : String} {after : Array Edge} {guard : Option (Nat × Bool)} {b : Bool} {t : Nat} {K : Env → List Ob → Prop}

theorem RunR.nil (h : K e H) : RunR P W [] gs ex e H K := ⟨e, H, .nil, h⟩

theorem Wp.go {F : Fr} {Q : Exit → St → Prop} {S : St} {id : Nat} {l : List Oper} (draw : Bool) (W : Option WW) (gs : List (List (Nat × Bool))) (ex : List Bool) (live : List Nat) {n : Nat} (hm : F.P.follows .mixedOrders = true) (hn : F.n = n) (hW : (draw && W.isNone) = false)
    (hchk : (chk (owOf W) l gs ex draw n && liveOk l gs live) = true) (h : RunR F.P W l gs ex S.env S.heap (fun e' H' => ∃ r, Keeps e' live r ∧ Q .normal ⟨r, H'⟩)) : Wp F (.region id l.toArray draw) Q S := by
  obtain ⟨e', H', h1, r, h2, h3⟩ := h
  exact Wp.regionL draw W gs ex live hm hn hW hchk h1 rfl (by rw [h2.sel]; exact h3)

theorem RunR.done {F : Fr} {Q : Exit → St → Prop} {live : List Nat} {r : Env} {y : Code} (h : Keeps e live r) (h2 : Wp F y Q ⟨r, H⟩) : RunR P W [] gs ex e H (fun e' H' => ∃ r, Keeps e' live r ∧ Wp F y Q ⟨r, H'⟩) := .nil ⟨r, h, h2⟩
theorem RunR.doneQ {Q : Exit → St → Prop} {live : List Nat} {r : Env} (h : Keeps e live r) (h2 : Q .normal ⟨r, H⟩) : RunR P W [] gs ex e H (fun e' H' => ∃ r, Keeps e' live r ∧ Q .normal ⟨r, H'⟩) := .nil ⟨r, h, h2⟩

theorem RunR.mob {op : Op} {x : AVal} (hf : fixed op = false) (hc : isCall op = false) (ha : actE e (gs.headD []) = some b) (hw : wOk W (ex.headD false) e H op = true) (hs : stp P e H op = some (x, H)) (hr : RunR P W os gs.tail ex.tail ((t, x) :: e) H K) : RunR P W (⟨some t, op, ty, pos, after, guard⟩ :: os) gs ex e H K := by
  obtain ⟨e', H', hr1, hr2⟩ := hr
  exact ⟨e', H', SpecR.mob hf hc ha hw hs hr1, hr2⟩
theorem RunR.fix {op : Op} {x : AVal} {d : Option Nat} (hc : isCall op = false) (ha : actE e (gs.headD []) = some true) (hw : wOk W (ex.headD false) e H op = true) (hs : stp P e H op = some (x, H1)) (hr : RunR P W os gs.tail ex.tail (putE e d x) H1 K) : RunR P W (⟨d, op, ty, pos, after, guard⟩ :: os) gs ex e H K := by
  obtain ⟨e', H', hr1, hr2⟩ := hr
  exact ⟨e', H', SpecR.fix hc ha hw hs hr1, hr2⟩
theorem RunR.off {op : Op} {d : Option Nat} (ha : actE e (gs.headD []) = some false) (hr : RunR P W os gs.tail ex.tail (putE e d unit) H K) : RunR P W (⟨d, op, ty, pos, after, guard⟩ :: os) gs ex e H K := by
  obtain ⟨e', H', hr1, hr2⟩ := hr
  exact ⟨e', H', SpecR.off ha hr1, hr2⟩
theorem RunR.call {f : Operand} {args : Array Operand} {ts : Array TypeId} {c : FuncId} {caps : List Leaf} {as : List AVal} {x : AVal} {d : Option Nat} (ha : actE e (gs.headD []) = some b) (hf : evO e f = some (.c (.clo c caps))) (has : allV (args.toList.map (evO e)) = some as) (hD : ∀ H, DCall P c (as ++ caps.map .c) H x) (hr : RunR P W os gs.tail ex.tail (putE e d x) H K) : RunR P W (⟨d, .call { callee := .value f, args := args, argTypes := ts }, ty, pos, after, guard⟩ :: os) gs ex e H K := by
  obtain ⟨e', H', hr1, hr2⟩ := hr
  exact ⟨e', H', SpecR.call ha hf has hD hr1, hr2⟩
theorem RunR.callH {f : Operand} {args : Array Operand} {ts : Array TypeId} {c : FuncId} {caps : List Leaf} {as : List AVal} {x : AVal} {d : Option Nat} (ha : actE e (gs.headD []) = some b) (hf : evO e f = some (.c (.clo c caps))) (has : allV (args.toList.map (evO e)) = some as) (hx : ex.headD false = false) (hD : b = true → DCall P c (as ++ caps.map .c) H x) (hr : RunR P W os gs.tail ex.tail (putE e d x) H K) : RunR P W (⟨d, .call { callee := .value f, args := args, argTypes := ts }, ty, pos, after, guard⟩ :: os) gs ex e H K := by
  obtain ⟨e', H', hr1, hr2⟩ := hr
  exact ⟨e', H', SpecR.callH ha hf has hx hD hr1, hr2⟩
theorem RunR.callG {f : Operand} {args : Array Operand} {ts : Array TypeId} {c : FuncId} {caps : List Leaf} {as : List AVal} {x : AVal} {d : Option Nat} (ha : actE e (gs.headD []) = some b) (hf : evO e f = some (.c (.clo c caps))) (has : allV (args.toList.map (evO e)) = some as) (hD : b = true → ∀ H, DCall P c (as ++ caps.map .c) H x) (hr : RunR P W os gs.tail ex.tail (putE e d x) H K) : RunR P W (⟨d, .call { callee := .value f, args := args, argTypes := ts }, ty, pos, after, guard⟩ :: os) gs ex e H K := by
  obtain ⟨e', H', hr1, hr2⟩ := hr
  exact ⟨e', H', SpecR.callG ha hf has hD hr1, hr2⟩
theorem RunR.move {y : Operand} {x : AVal} (ha : actE e (gs.headD []) = some b) (hw : wOk W (ex.headD false) e H (.move y) = true) (h : evO e y = some x) (hr : RunR P W os gs.tail ex.tail ((t, x) :: e) H K) : RunR P W (⟨some t, .move y, ty, pos, after, guard⟩ :: os) gs ex e H K := by
  obtain ⟨e', H', hr1, hr2⟩ := hr
  exact ⟨e', H', SpecR.move ha hw h hr1, hr2⟩
theorem RunR.assign {y : Operand} {x : AVal} (ha : actE e (gs.headD []) = some b) (hw : wOk W (ex.headD false) e H (.assign y) = true) (h : evO e y = some x) (hr : RunR P W os gs.tail ex.tail ((t, x) :: e) H K) : RunR P W (⟨some t, .assign y, ty, pos, after, guard⟩ :: os) gs ex e H K := by
  obtain ⟨e', H', hr1, hr2⟩ := hr
  exact ⟨e', H', SpecR.assign ha hw h hr1, hr2⟩
theorem RunR.pickAnd {c p : Operand} {v x : Bool} (ha : actE e (gs.headD []) = some b) (hw : wOk W (ex.headD false) e H (.pick c p (.const (.bool false))) = true) (hc : evO e c = some (.c (B v))) (hp : evO e p = some (.c (B x))) (hr : RunR P W os gs.tail ex.tail ((t, .c (B (v && x))) :: e) H K) : RunR P W (⟨some t, .pick c p (.const (.bool false)), ty, pos, after, guard⟩ :: os) gs ex e H K := by
  obtain ⟨e', H', hr1, hr2⟩ := hr
  exact ⟨e', H', SpecR.pickAnd ha hw hc hp hr1, hr2⟩
theorem RunR.pickOr {c p : Operand} {v x : Bool} (ha : actE e (gs.headD []) = some b) (hw : wOk W (ex.headD false) e H (.pick c (.const (.bool true)) p) = true) (hc : evO e c = some (.c (B v))) (hp : evO e p = some (.c (B x))) (hr : RunR P W os gs.tail ex.tail ((t, .c (B (v || x))) :: e) H K) : RunR P W (⟨some t, .pick c (.const (.bool true)) p, ty, pos, after, guard⟩ :: os) gs ex e H K := by
  obtain ⟨e', H', hr1, hr2⟩ := hr
  exact ⟨e', H', SpecR.pickOr ha hw hc hp hr1, hr2⟩
theorem RunR.pickAnd0 {c p : Operand} {x : AVal} (ha : actE e (gs.headD []) = some b) (hw : wOk W (ex.headD false) e H (.pick c p (.const (.bool false))) = true) (hc : evO e c = some (.c (B false))) (hp : evO e p = some x) (hr : RunR P W os gs.tail ex.tail ((t, .c (B false)) :: e) H K) : RunR P W (⟨some t, .pick c p (.const (.bool false)), ty, pos, after, guard⟩ :: os) gs ex e H K := by
  obtain ⟨e', H', hr1, hr2⟩ := hr
  exact ⟨e', H', SpecR.pickAnd0 ha hw hc hp hr1, hr2⟩
theorem RunR.load1 {ty0 n : Nat} {y : Operand} {p l : Leaf} (ht : tk P ty0 = some (false, n)) (ha : actE e (gs.headD []) = some b) (hw : wOk W (ex.headD false) e H (.load ty0 y) = true) (hy : evO e y = some (.c p)) (hl : ld1 H p = some l) (hr : RunR P W os gs.tail ex.tail ((t, .c l) :: e) H K) : RunR P W (⟨some t, .load ty0 y, ty, pos, after, guard⟩ :: os) gs ex e H K := by
  obtain ⟨e', H', hr1, hr2⟩ := hr
  exact ⟨e', H', SpecR.load1 ht ha hw hy hl hr1, hr2⟩
theorem RunR.loadN {ty0 n : Nat} {y : Operand} {p : Leaf} {cs : List Leaf} (ht : tk P ty0 = some (true, n)) (ha : actE e (gs.headD []) = some b) (hw : wOk W (ex.headD false) e H (.load ty0 y) = true) (hy : evO e y = some (.c p)) (hl : ldN H n p = some cs) (hr : RunR P W os gs.tail ex.tail ((t, .agg cs) :: e) H K) : RunR P W (⟨some t, .load ty0 y, ty, pos, after, guard⟩ :: os) gs ex e H K := by
  obtain ⟨e', H', hr1, hr2⟩ := hr
  exact ⟨e', H', SpecR.loadN ht ha hw hy hl hr1, hr2⟩
theorem RunR.fieldAddr {s f off n : Nat} {g : Bool} {y : Operand} {p l : Leaf} (ht : fo P s f = some (off, n, g)) (hn : (n == 0) = false) (ha : actE e (gs.headD []) = some b) (hw : wOk W (ex.headD false) e H (.fieldAddr s y f) = true) (hy : evO e y = some (.c p)) (hl : fieldL H off p = some l) (hr : RunR P W os gs.tail ex.tail ((t, .c l) :: e) H K) : RunR P W (⟨some t, .fieldAddr s y f, ty, pos, after, guard⟩ :: os) gs ex e H K := by
  obtain ⟨e', H', hr1, hr2⟩ := hr
  exact ⟨e', H', SpecR.fieldAddr ht hn ha hw hy hl hr1, hr2⟩
theorem RunR.nilCheck {y : Operand} {l : Leaf} (ha : actE e (gs.headD []) = some b) (hw : wOk W (ex.headD false) e H (.nilCheck y) = true) (hy : evO e y = some (.c l)) (hl : alive H l = true) (hr : RunR P W os gs.tail ex.tail ((t, .c l) :: e) H K) : RunR P W (⟨some t, .nilCheck y, ty, pos, after, guard⟩ :: os) gs ex e H K := by
  obtain ⟨e', H', hr1, hr2⟩ := hr
  exact ⟨e', H', SpecR.nilCheck ha hw hy hl hr1, hr2⟩
theorem RunR.field {s f off n : Nat} {g : Bool} {y : Operand} {cs : List Leaf} {x : AVal} (ht : fo P s f = some (off, n, g)) (ha : actE e (gs.headD []) = some b) (hw : wOk W (ex.headD false) e H (.field s y f) = true) (hy : evO e y = some (.agg cs)) (hl : mkSeg g cs off n = some x) (hr : RunR P W os gs.tail ex.tail ((t, x) :: e) H K) : RunR P W (⟨some t, .field s y f, ty, pos, after, guard⟩ :: os) gs ex e H K := by
  obtain ⟨e', H', hr1, hr2⟩ := hr
  exact ⟨e', H', SpecR.field ht ha hw hy hl hr1, hr2⟩
theorem RunR.extract {y : Operand} {i : Nat} {vs : List AVal} {x : AVal} (ha : actE e (gs.headD []) = some b) (hw : wOk W (ex.headD false) e H (.extract y i) = true) (hy : evO e y = some (.tup vs)) (hl : vs[i]? = some x) (hr : RunR P W os gs.tail ex.tail ((t, x) :: e) H K) : RunR P W (⟨some t, .extract y i, ty, pos, after, guard⟩ :: os) gs ex e H K := by
  obtain ⟨e', H', hr1, hr2⟩ := hr
  exact ⟨e', H', SpecR.extract ha hw hy hl hr1, hr2⟩
theorem RunR.int {op : BinOp} {ty0 ty1 : Nat} {y z : Operand} {k : IntKind} {m n : Int} {l : Leaf} (ha : actE e (gs.headD []) = some b) (hw : wOk W (ex.headD false) e H (.binOp op ty0 y z ty1) = true) (hy : evO e y = some (.c (.v (.int k m)))) (hz : evO e z = some (.c (.v (.int k n)))) (hl : intBin op k m n = some l) (hr : RunR P W os gs.tail ex.tail ((t, .c l) :: e) H K) : RunR P W (⟨some t, .binOp op ty0 y z ty1, ty, pos, after, guard⟩ :: os) gs ex e H K := by
  obtain ⟨e', H', hr1, hr2⟩ := hr
  exact ⟨e', H', SpecR.int ha hw hy hz hl hr1, hr2⟩
theorem RunR.eqAgg {ty0 ty1 : Nat} {y z : Operand} {as bs : List Leaf} {s : List Sh} {v : Bool} (ht : eqs P ty0 = some s) (ha : actE e (gs.headD []) = some b) (hw : wOk W (ex.headD false) e H (.binOp .eql ty0 y z ty1) = true) (hy : evO e y = some (.agg as)) (hz : evO e z = some (.agg bs)) (hl : eqCells s as bs = some v) (hr : RunR P W os gs.tail ex.tail ((t, .c (B v)) :: e) H K) : RunR P W (⟨some t, .binOp .eql ty0 y z ty1, ty, pos, after, guard⟩ :: os) gs ex e H K := by
  obtain ⟨e', H', hr1, hr2⟩ := hr
  exact ⟨e', H', SpecR.eqAgg ht ha hw hy hz hl hr1, hr2⟩
theorem RunR.neAgg {ty0 ty1 : Nat} {y z : Operand} {as bs : List Leaf} {s : List Sh} {v : Bool} (ht : eqs P ty0 = some s) (ha : actE e (gs.headD []) = some b) (hw : wOk W (ex.headD false) e H (.binOp .neq ty0 y z ty1) = true) (hy : evO e y = some (.agg as)) (hz : evO e z = some (.agg bs)) (hl : eqCells s as bs = some v) (hr : RunR P W os gs.tail ex.tail ((t, .c (B (!v))) :: e) H K) : RunR P W (⟨some t, .binOp .neq ty0 y z ty1, ty, pos, after, guard⟩ :: os) gs ex e H K := by
  obtain ⟨e', H', hr1, hr2⟩ := hr
  exact ⟨e', H', SpecR.neAgg ht ha hw hy hz hl hr1, hr2⟩
theorem RunR.eqBool {ty0 ty1 : Nat} {y z : Operand} {u v : Bool} (ht : P.underlying ty0 = some .bool) (ha : actE e (gs.headD []) = some b) (hw : wOk W (ex.headD false) e H (.binOp .eql ty0 y z ty1) = true) (hy : evO e y = some (.c (B u))) (hz : evO e z = some (.c (B v))) (hr : RunR P W os gs.tail ex.tail ((t, .c (B (u == v))) :: e) H K) : RunR P W (⟨some t, .binOp .eql ty0 y z ty1, ty, pos, after, guard⟩ :: os) gs ex e H K := by
  obtain ⟨e', H', hr1, hr2⟩ := hr
  exact ⟨e', H', SpecR.eqBool ht ha hw hy hz hr1, hr2⟩
theorem RunR.not {ty0 : Nat} {y : Operand} {v : Bool} (ha : actE e (gs.headD []) = some b) (hw : wOk W (ex.headD false) e H (.unOp .not ty0 y) = true) (hy : evO e y = some (.c (B v))) (hr : RunR P W os gs.tail ex.tail ((t, .c (B (!v))) :: e) H K) : RunR P W (⟨some t, .unOp .not ty0 y, ty, pos, after, guard⟩ :: os) gs ex e H K := by
  obtain ⟨e', H', hr1, hr2⟩ := hr
  exact ⟨e', H', SpecR.not ha hw hy hr1, hr2⟩
theorem RunR.convert {ty0 ty1 : Nat} {y : Operand} {k0 k k2 : IntKind} {n : Int} (h0 : ik P ty0 = some k0) (h1 : ik P ty1 = some k) (ha : actE e (gs.headD []) = some b) (hw : wOk W (ex.headD false) e H (.convert ty0 ty1 y) = true) (hy : evO e y = some (.c (.v (.int k2 n)))) (hr : RunR P W os gs.tail ex.tail ((t, .c (.v (.int k (k.wrap n)))) :: e) H K) : RunR P W (⟨some t, .convert ty0 ty1 y, ty, pos, after, guard⟩ :: os) gs ex e H K := by
  obtain ⟨e', H', hr1, hr2⟩ := hr
  exact ⟨e', H', SpecR.convert h0 h1 ha hw hy hr1, hr2⟩
theorem RunR.makeFunc {f : FuncId} {caps : Array Operand} {cs : List Leaf} (ha : actE e (gs.headD []) = some b) (hw : wOk W (ex.headD false) e H (.makeFunc (.func f) #[] caps) = true) (hl : leafL (caps.toList.map (evO e)) = some cs) (hr : RunR P W os gs.tail ex.tail ((t, .c (.clo f cs)) :: e) H K) : RunR P W (⟨some t, .makeFunc (.func f) #[] caps, ty, pos, after, guard⟩ :: os) gs ex e H K := by
  obtain ⟨e', H', hr1, hr2⟩ := hr
  exact ⟨e', H', SpecR.makeFunc ha hw hl hr1, hr2⟩
theorem RunR.len {el : TypeId} {y : Operand} {ts : TypeId} {l : Leaf} {n : Nat} (ht : P.underlying ts = some (.slice el)) (ha : actE e (gs.headD []) = some b) (hw : wOk W (ex.headD false) e H (.call { callee := .builtin .len, args := #[y], argTypes := #[ts] }) = true) (hy : evO e y = some (.c l)) (hl : lenL l = some n) (hr : RunR P W os gs.tail ex.tail ((t, .c (I (n : Int))) :: e) H K) : RunR P W (⟨some t, .call { callee := .builtin .len, args := #[y], argTypes := #[ts] }, ty, pos, after, guard⟩ :: os) gs ex e H K := by
  obtain ⟨e', H', hr1, hr2⟩ := hr
  exact ⟨e', H', SpecR.len ht ha hw hy hl hr1, hr2⟩
theorem RunR.minmax {bi : Builtin} {args : Array Operand} {ts : Array TypeId} {n : Int} (hbi : bi = .min ∨ bi = .max) (ha : actE e (gs.headD []) = some b) (hw : wOk W (ex.headD false) e H (.call { callee := .builtin bi, args := args, argTypes := ts }) = true) (hl : foldInt (if bi = .min then min else max) (args.toList.map (evO e)) = some n) (hr : RunR P W os gs.tail ex.tail ((t, .c (I n)) :: e) H K) : RunR P W (⟨some t, .call { callee := .builtin bi, args := args, argTypes := ts }, ty, pos, after, guard⟩ :: os) gs ex e H K := by
  obtain ⟨e', H', hr1, hr2⟩ := hr
  exact ⟨e', H', SpecR.minmax hbi ha hw hl hr1, hr2⟩
theorem RunR.indexF {ts : TypeId} {y z : Operand} {el size : Nat} {rest : Nat × List Leaf} {l : Leaf} {k : IntKind} {n : Int} {rows : List (List Leaf)} {r : List Leaf} (ht : se P ts = some (el, size, rest)) (ha : actE e (gs.headD []) = some b) (hw : wOk W (ex.headD false) e H (.indexAddr ts y z) = true) (hy : evO e y = some (.c l)) (hz : evO e z = some (.c (.v (.int k n)))) (hl : asF l = some rows) (hn : 0 ≤ n) (hi : rows[n.toNat]? = some r) (hs : r.length = size) (hr : RunR P W os gs.tail ex.tail ((t, .c (.fptr rows n.toNat 0)) :: e) H K) : RunR P W (⟨some t, .indexAddr ts y z, ty, pos, after, guard⟩ :: os) gs ex e H K := by
  obtain ⟨e', H', hr1, hr2⟩ := hr
  exact ⟨e', H', SpecR.indexF ht ha hw hy hz hl hn hi hs hr1, hr2⟩
end
end Go.Nx
/- Rules for what makes or writes objects. -/
namespace Go.Nx
set_option linter.unusedVariables false
set_option linter.unusedSimpArgs false

/-- One more at the end. -/
inductive Snoc {α : Type} (x : α) : List α → List α → Prop
  | nil : Snoc x [] [x]
  | cons {a : α} {l r : List α} : Snoc x l r → Snoc x (a :: l) (a :: r)
theorem Snoc.eq {α : Type} {x : α} {l r : List α} (h : Snoc x l r) : l ++ [x] = r := by
  induction h with
  | nil => rfl
  | cons _ ih => simp [ih]
/-- One changed. -/
inductive SetAt {α : Type} (x : α) : List α → Nat → List α → Prop
  | zero {a : α} {l : List α} : SetAt x (a :: l) 0 (x :: l)
  | succ {a : α} {l r : List α} {n : Nat} : SetAt x l n r → SetAt x (a :: l) (n + 1) (a :: r)
theorem SetAt.eq {α : Type} {x : α} {l r : List α} {n : Nat} (h : SetAt x l n r) : l.set n x = r := by
  induction h with
  | zero => rfl
  | succ _ ih => simp [ih]

section
variable {P : Program} {W : Option WW} {os : List Oper} {gs : List (List (Nat × Bool))} {ex : List Bool} {e : Env} {H H1 : List Ob} {ty : TypeId} {pos : String} {after : Array Edge} {guard : Option (Nat × Bool)} {b : Bool} {t : Nat} {K : Env → List Ob → Prop}

theorem RunR.alloc {ty0 : TypeId} {z : Leaf} {zs : List Leaf} (h : Nat) {m : Nat} (hz : zc P ty0 = some (z :: zs)) (ha : actE e (gs.headD []) = some true) (hw : wOk W (ex.headD false) e H (.alloc ty0) = true) (hh : H.length = h) (hm : zs.length + 1 = m)
    (hs : Snoc (.live 0 m [z :: zs]) H H1) (hr : RunR P W os gs.tail ex.tail ((t, .c (.ptr h 0 0 0)) :: e) H1 K) : RunR P W (⟨some t, .alloc ty0, ty, pos, after, guard⟩ :: os) gs ex e H K :=
  .fix rfl ha hw (x := .c (.ptr h 0 0 0)) (H1 := H1) (by simp [stp, hz, hh, hm, hs.eq]) hr

theorem RunR.box {ty0 : TypeId} {y : Operand} {v : AVal} {cs : List Leaf} (h : Nat) {m : Nat} (ha : actE e (gs.headD []) = some true) (hw : wOk W (ex.headD false) e H (.box ty0 y) = true) (hy : evO e y = some v) (hc : v.cells = some cs) (hh : H.length = h) (hm : cs.length = m + 1)
    (hs : Snoc (.live 0 (m + 1) [cs]) H H1) (hr : RunR P W os gs.tail ex.tail ((t, .c (.ptr h 0 0 0)) :: e) H1 K) : RunR P W (⟨some t, .box ty0 y, ty, pos, after, guard⟩ :: os) gs ex e H K :=
  .fix rfl ha hw (x := .c (.ptr h 0 0 0)) (H1 := H1) (by
    cases cs with
    | nil => simp at hm
    | cons z zs =>
      have hm' : zs.length = m := by simpa using hm
      simp [stp, hy, hc, hh, hm', hs.eq]) hr

theorem RunR.build {ty0 : TypeId} {ps : Array (Nat × Operand)} {z cs : List Leaf} {places : List (Nat × Nat)} (hz : cm P ty0 = some (z, places)) (ha : actE e (gs.headD []) = some b) (hw : wOk W (ex.headD false) e H (.build ty0 ps) = true) (hl : fillL places z (ps.toList.map fun (i, x) => (i, evO e x)) = some cs)
    (hr : RunR P W os gs.tail ex.tail ((t, .agg cs) :: e) H K) : RunR P W (⟨some t, .build ty0 ps, ty, pos, after, guard⟩ :: os) gs ex e H K :=
  .mob rfl rfl ha hw (by simp [stp, hz, hl]) hr

theorem RunR.buildSlice {ty0 : TypeId} {n size by' : Nat} {el : TypeId} {ps : Array (Nat × Operand)} {z : List Leaf} {rows : List (List Leaf)} (h : Nat) (hz : se P ty0 = some (el, size, by', z)) (ha : actE e (gs.headD []) = some true) (hw : wOk W (ex.headD false) e H (.buildSlice ty0 n ps) = true) (hh : H.length = h)
    (hc : (Nat.blt 0 size && Nat.ble (n * size) 16777216 && Nat.beq z.length size && Nat.ble n maxLen) = true) (hl : rowsL size (List.replicate n z) (ps.toList.map fun (i, x) => (i, evO e x)) = some rows)
    (hs : Snoc (.live 0 size rows) H H1) (hr : RunR P W os gs.tail ex.tail ((t, .c (.sl h 0 0 n)) :: e) H1 K) : RunR P W (⟨some t, .buildSlice ty0 n ps, ty, pos, after, guard⟩ :: os) gs ex e H K :=
  .fix rfl ha hw (x := .c (.sl h 0 0 n)) (H1 := H1) (by
    simp only [Bool.and_eq_true, Nat.blt_eq, Nat.ble_eq, Nat.beq_eq] at hc
    have hc' : 0 < size ∧ n * size ≤ 16777216 ∧ z.length = size ∧ n ≤ maxLen := ⟨hc.1.1.1, hc.1.1.2, hc.1.2, hc.2⟩
    simp [stp, hz, hh, hc', hl, hs.eq]) hr

theorem RunR.makeSlice {ty0 : TypeId} {size by' n : Nat} {el : TypeId} {l c : Operand} {k k' : IntKind} {z : List Leaf} (h : Nat) (hz : se P ty0 = some (el, size, by', z)) (ha : actE e (gs.headD []) = some true) (hw : wOk W (ex.headD false) e H (.makeSlice ty0 l c) = true) (hh : H.length = h)
    (hl : evO e l = some (.c (.v (.int k (n : Int))))) (hc : evO e c = some (.c (.v (.int k' (n : Int)))))
    (hz1 : (Nat.blt 0 size && Nat.beq z.length size) = true) (hb : (by' : Int) * n ≤ 281474976710656) (hn : n ≤ maxLen)
    (hs : Snoc (.live 0 size (List.replicate n z)) H H1) (hr : RunR P W os gs.tail ex.tail ((t, .c (.sl h 0 0 n)) :: e) H1 K) : RunR P W (⟨some t, .makeSlice ty0 l c, ty, pos, after, guard⟩ :: os) gs ex e H K :=
  .fix rfl ha hw (x := .c (.sl h 0 0 n)) (H1 := H1) (by
    simp only [Bool.and_eq_true, Nat.blt_eq, Nat.beq_eq] at hz1
    have hc' : 0 < size ∧ z.length = size ∧ (0 : Int) ≤ n ∧ (n : Int) = n ∧ (by' : Int) * n ≤ 281474976710656 ∧ (n : Int) ≤ maxLen := ⟨hz1.1, hz1.2, by omega, rfl, hb, by omega⟩
    simp [stp, hz, hl, hc, hh, hc', hs.eq]) hr

/-- A whole object of one row written. -/
theorem RunR.store1 {ty0 : TypeId} {y x : Operand} {v : AVal} {h ver n z : Nat} {g : Bool} {cs r : List Leaf} (ht : tk P ty0 = some (g, n)) (ha : actE e (gs.headD []) = some true) (hw : wOk W (ex.headD false) e H (.store ty0 y x) = true) (hy : evO e y = some (.c (.ptr h ver 0 0))) (hx : evO e x = some v) (hc : v.cells = some cs)
    (ho : obj H h ver = some (z, [r])) (hn : cs.length = n) (hrl : r.length = n)
    (hs : SetAt (.live ver z [cs]) H h H1) (hr : RunR P W os gs.tail ex.tail e H1 K) : RunR P W (⟨none, .store ty0 y x, ty, pos, after, guard⟩ :: os) gs ex e H K :=
  .fix rfl ha hw (x := unit) (H1 := H1) (by
    have hp : ∀ (r cs : List Leaf) (k : Nat) (p : List Leaf), p.length = k → r.length = cs.length → putSeg (p ++ r) k cs = p ++ cs := by
      intro r cs
      induction cs generalizing r with
      | nil => intro k p _ h; simp at h; simp [putSeg, h]
      | cons c cs ih =>
        intro k p hk h
        cases r with
        | nil => simp at h
        | cons a r =>
          simp only [putSeg]
          have hset : (p ++ a :: r).set k c = (p ++ [c]) ++ r := by
            subst hk
            simp [List.set_append_right]
          rw [hset, ih r (k + 1) (p ++ [c]) (by simp [hk]) (by simpa using h)]
          simp
    have hp' := hp r cs 0 [] rfl (by omega)
    simp only [List.nil_append] at hp'
    simp [stp, ht, hy, hx, hc, ho, hn, hrl, hp', hs.eq]) (by simpa [putE] using hr)

/-- A field of an object of one row written. -/
theorem RunR.storeF {ty0 : TypeId} {y x : Operand} {v : AVal} {h ver n z k : Nat} {g : Bool} {cs r r' : List Leaf} (ht : tk P ty0 = some (g, n)) (ha : actE e (gs.headD []) = some true) (hw : wOk W (ex.headD false) e H (.store ty0 y x) = true) (hy : evO e y = some (.c (.ptr h ver 0 k))) (hx : evO e x = some v) (hc : v.cells = some cs)
    (ho : obj H h ver = some (z, [r])) (hn : cs.length = n) (hrl : Nat.ble (k + n) r.length = true) (hp : putSeg r k cs = r')
    (hs : SetAt (.live ver z [r']) H h H1) (hr : RunR P W os gs.tail ex.tail e H1 K) : RunR P W (⟨none, .store ty0 y x, ty, pos, after, guard⟩ :: os) gs ex e H K :=
  .fix rfl ha hw (x := unit) (H1 := H1) (by
    have hrl' := Nat.le_of_ble_eq_true hrl
    simp [stp, ht, hy, hx, hc, ho, hn, hrl', hp, hs.eq]) (by simpa [putE] using hr)

/-- A cell of an element of an own array written; or the element whole. -/
theorem RunR.storeE {ty0 : TypeId} {y x : Operand} {v : AVal} {h ver n z i k : Nat} {g : Bool} {cs r : List Leaf} {rows rows' : List (List Leaf)} (ht : tk P ty0 = some (g, n)) (ha : actE e (gs.headD []) = some true) (hw : wOk W (ex.headD false) e H (.store ty0 y x) = true) (hy : evO e y = some (.c (.ptr h ver i k))) (hx : evO e x = some v) (hc : v.cells = some cs)
    (ho : obj H h ver = some (z, rows)) (hn : cs.length = n) (hi : rows[i]? = some r) (hrl : k + n ≤ r.length) (hp : rows.set i (putSeg r k cs) = rows')
    (hs : SetAt (.live ver z rows') H h H1) (hr : RunR P W os gs.tail ex.tail e H1 K) : RunR P W (⟨none, .store ty0 y x, ty, pos, after, guard⟩ :: os) gs ex e H K :=
  .fix rfl ha hw (x := unit) (H1 := H1) (by
    simp [stp, ht, hy, hx, hc, ho, hn, hi, hrl, hp, hs.eq]) (by simpa [putE] using hr)

/-- A sum that stays within its kind. -/
theorem RunR.add {ty0 ty1 : Nat} {y z : Operand} {k : IntKind} {m n s : Int} (ha : actE e (gs.headD []) = some b) (hw : wOk W (ex.headD false) e H (.binOp .add ty0 y z ty1) = true) (hy : evO e y = some (.c (.v (.int k m)))) (hz : evO e z = some (.c (.v (.int k n)))) (hs : k.wrap (m + n) = s)
    (hr : RunR P W os gs.tail ex.tail ((t, .c (.v (.int k s))) :: e) H K) : RunR P W (⟨some t, .binOp .add ty0 y z ty1, ty, pos, after, guard⟩ :: os) gs ex e H K := .int ha hw hy hz (by simp [intBin, hs]) hr
theorem RunR.sub {ty0 ty1 : Nat} {y z : Operand} {k : IntKind} {m n s : Int} (ha : actE e (gs.headD []) = some b) (hw : wOk W (ex.headD false) e H (.binOp .sub ty0 y z ty1) = true) (hy : evO e y = some (.c (.v (.int k m)))) (hz : evO e z = some (.c (.v (.int k n)))) (hs : k.wrap (m - n) = s)
    (hr : RunR P W os gs.tail ex.tail ((t, .c (.v (.int k s))) :: e) H K) : RunR P W (⟨some t, .binOp .sub ty0 y z ty1, ty, pos, after, guard⟩ :: os) gs ex e H K := .int ha hw hy hz (by simp [intBin, hs]) hr
end

end Go.Nx
/- Frozen slices as mapped lists; what is handed back. -/
namespace Go.Nx
set_option linter.unusedVariables false
set_option linter.unusedSimpArgs false

section
variable {P : Program} {W : Option WW} {os : List Oper} {gs : List (List (Nat × Bool))} {ex : List Bool} {e : Env} {H H1 : List Ob} {ty : TypeId} {pos : String} {after : Array Edge} {guard : Option (Nat × Bool)} {b : Bool} {t : Nat} {K : Env → List Ob → Prop}

theorem RunR.loadNM {α : Type} {ty0 n i : Nat} {y : Operand} {xs : List α} {x : α} {f : α → List Leaf} (ht : tk P ty0 = some (true, n)) (ha : actE e (gs.headD []) = some b) (hw : wOk W (ex.headD false) e H (.load ty0 y) = true) (hy : evO e y = some (.c (.fptr (xs.map f) i 0))) (hi : xs[i]? = some x) (hs : (f x).length = n)
    (hr : RunR P W os gs.tail ex.tail ((t, .agg (f x)) :: e) H K) : RunR P W (⟨some t, .load ty0 y, ty, pos, after, guard⟩ :: os) gs ex e H K :=
  .loadN ht ha hw hy (by simp [ldN, hi, seg, ← hs]) hr
theorem RunR.load1M {α : Type} {ty0 n i k : Nat} {y : Operand} {xs : List α} {x : α} {f : α → List Leaf} {l : Leaf} (ht : tk P ty0 = some (false, n)) (ha : actE e (gs.headD []) = some b) (hw : wOk W (ex.headD false) e H (.load ty0 y) = true) (hy : evO e y = some (.c (.fptr (xs.map f) i k))) (hi : xs[i]? = some x) (hs : (f x)[k]? = some l)
    (hr : RunR P W os gs.tail ex.tail ((t, .c l) :: e) H K) : RunR P W (⟨some t, .load ty0 y, ty, pos, after, guard⟩ :: os) gs ex e H K :=
  .load1 ht ha hw hy (by simp [ld1, hi, hs]) hr
theorem RunR.lenM {α : Type} {el : TypeId} {y : Operand} {ts : TypeId} {l : Leaf} {xs : List α} {f : α → List Leaf} (ht : P.underlying ts = some (.slice el)) (ha : actE e (gs.headD []) = some b) (hw : wOk W (ex.headD false) e H (.call { callee := .builtin .len, args := #[y], argTypes := #[ts] }) = true) (hy : evO e y = some (.c l)) (hl : asF l = some (xs.map f))
    (hr : RunR P W os gs.tail ex.tail ((t, .c (I (xs.length : Int))) :: e) H K) : RunR P W (⟨some t, .call { callee := .builtin .len, args := #[y], argTypes := #[ts] }, ty, pos, after, guard⟩ :: os) gs ex e H K :=
  .len ht ha hw hy (by
    unfold asF at hl
    split at hl <;> cases hl <;> simp [lenL]) hr
end

theorem resV_tmp {P : Program} {S : St} {t : Nat} {x : AVal} (h : S.env.get t = some x) : resV P S (.tmp t) = some x := h
theorem resV_cellN {P : Program} {S : St} {t ty n : Nat} {p : Leaf} {cs : List Leaf} (ht : tk P ty = some (true, n)) (hp : S.env.get t = some (.c p)) (hl : ldN S.heap n p = some cs) : resV P S (.cell t ty) = some (.agg cs) := by simp [resV, ht, hp, hl]
theorem Ret.zero {P : Program} {fn : Func} {K : AVal → List Ob → Prop} {S : St} (hr : fn.results.toList = []) (hk : K (.tup []) S.heap) : Ret P fn K .ret S := ⟨_, by rw [hr]; rfl, hk⟩
theorem Ret.one {P : Program} {fn : Func} {K : AVal → List Ob → Prop} {S : St} {r : ResultVar} {x : AVal} (hr : fn.results.toList = [r]) (h1 : resV P S r = some x) (hk : K x S.heap) : Ret P fn K .ret S := ⟨x, by rw [hr]; simp [retV, h1], hk⟩
theorem Ret.two {P : Program} {fn : Func} {K : AVal → List Ob → Prop} {S : St} {r r2 : ResultVar} {x x2 : AVal} (hr : fn.results.toList = [r, r2]) (h1 : resV P S r = some x) (h2 : resV P S r2 = some x2) (hk : K (.tup [x, x2]) S.heap) : Ret P fn K .ret S := ⟨.tup [x, x2], by rw [hr]; simp [retV, h1, h2], hk⟩
end Go.Nx
/- A region in the text's order: calls in it may turn the heap. -/
namespace Go.Nx
set_option linter.unusedVariables false
set_option linter.unusedSimpArgs false

theorem put_sat {N : Nat} {Γ Γ' : Ctx} {e : Env} {a : Act} (sz : a.tmps.size = N) (henv : ∀ t x, e.get t = some x → ∃ y, a.tmps[t]? = some y ∧ concV Γ x y) (hle : Γ.Le Γ') {d : Option Nat} (hd : ∀ t, d = some t → t < N) {x : AVal} {v : Value} (hv : concV Γ' x v) :
    ∀ t z, (putE e d x).get t = some z → ∃ y, (a.put d v).tmps[t]? = some y ∧ concV Γ' z y := by
  intro t z hz
  rw [Env.get_put] at hz
  split at hz
  · rename_i he
    subst he
    cases hz
    exact ⟨v, put_same (by rw [sz]; exact hd t rfl), hv⟩
  · rename_i he
    obtain ⟨y, h1, h2⟩ := henv t z hz
    exact ⟨y, by rw [put_get he]; exact h1, concV_mono hle _ _ h2⟩


/-- What a guard says, in the text's order. -/
def wantE (A : List Oper) (e : Env) : Option (Nat × Bool) → Option Bool
  | none => some true
  | some (j, w) => match dstOf A j with
    | some s => match e.get s with
      | some (.c (.v (.bool b))) => some (b == w)
      | _ => none
    | none => none

/-- What is left of a region, in the text's order: 'A' is all of it. -/
def TextR (P : Program) (N : Nat) (Γ0 : Ctx) (A : List Oper) (l : List Oper) (e : Env) (H : List Ob) (K : Env → List Ob → Prop) : Prop :=
  ∀ (ops : Array Oper) (Q : Exit → Act → World → Prop), ops.toList = A → (∀ o ∈ ops.toList, ∀ t, o.dst = some t → t < N) → (∀ e H, K e H → ∀ a w, Sat N Γ0 ⟨e, H⟩ a w → Q .normal a w) →
    ∀ i, ops.toList.drop i = l → ∀ a w, Sat N Γ0 ⟨e, H⟩ a w → wpOps P ops Q (List.range' i l.length) a w

section
variable {P : Program} {N : Nat} {Γ0 : Ctx} {A os : List Oper} {e e' : Env} {H H' H1 : List Ob} {K : Env → List Ob → Prop} {d : Option Nat} {o1 : Op} {ty : TypeId} {pos : String} {after : Array Edge} {guard : Option (Nat × Bool)} {x : AVal}

theorem drop_next {ops : Array Oper} {i : Nat} {o : Oper} {os : List Oper} (hl : ops.toList.drop i = o :: os) : ops[i]? = some o ∧ ops.toList.drop (i + 1) = os ∧ o ∈ ops.toList := by
  have h1 : ops.toList[i]? = some o := by
    have := congrArg (fun l => l[0]?) hl
    simpa using this
  refine ⟨by simpa using h1, ?_, List.mem_of_getElem? h1⟩
  have := congrArg List.tail hl
  simpa using this

theorem good_env {Γ : Ctx} {e : Env} {a : Act} (henv : ∀ t x, e.get t = some x → ∃ y, a.tmps[t]? = some y ∧ concV Γ x y) : ∀ p, Good Γ e a p := by
  intro p
  cases p with
  | const v => exact good_const'
  | global g => exact good_global
  | func f => exact good_func
  | tmp t =>
    intro av hav
    obtain ⟨y, g3, g4⟩ := henv t av hav
    simpa [Act.eval, Array.getD_eq_getD_getElem?, g3] using g4

theorem wanted_eq {ops : Array Oper} (hA : ops.toList = A) {Γ : Ctx} {a : Act} (henv : ∀ t x, e.get t = some x → ∃ y, a.tmps[t]? = some y ∧ concV Γ x y) {o : Oper} {b : Bool} (h : wantE A e o.guard = some b) : Region.wanted o (yielded ops a.tmps) = b := by
  subst hA
  unfold wantE at h
  split at h
  · rename_i hg
    cases h
    simp [Region.wanted, hg]
  · rename_i j w hg
    split at h
    · rename_i s hd
      split at h
      · rename_i v hv
        cases h
        obtain ⟨y, h1, h2⟩ := henv s _ hv
        simp only [concV, conc] at h2
        obtain ⟨rfl, _⟩ := h2
        have hdo : ((ops[j]?).bind (·.dst)) = some s := by simpa [dstOf] using hd
        simp only [Region.wanted, hg, yielded, hdo, Option.bind_some, h1]
        simp
      · cases h
    · cases h

theorem TextR.nil (h : K e H) : TextR P N Γ0 A [] e H K := by
  intro ops Q hA hd hQ i hl a w hs
  simp only [List.length_nil, List.range'_zero, wpOps]
  exact hQ _ _ h a w hs

theorem TextR.opG (hg : wantE A e guard = some true) (hs : stp P e H o1 = some (x, H1)) (hr : TextR P N Γ0 A os (putE e d x) H1 K) : TextR P N Γ0 A (⟨d, o1, ty, pos, after, guard⟩ :: os) e H K := by
  intro ops Q hA hd hQ i hl a w hsat
  obtain ⟨hi, hl', hmem⟩ := drop_next hl
  rw [List.length_cons, List.range'_succ, wpOps_cons]
  obtain ⟨df, sz, Γ, rfl, hext, hok, henv⟩ := hsat
  unfold wpOp
  simp only [hi]
  rw [wanted_eq hA henv hg, if_pos rfl]
  left
  obtain ⟨y, Γ', hr', hext', hok', hcv⟩ := stp_sound (P := P) (o := ⟨d, o1, ty, pos, after, guard⟩) hok (fun p _ => good_env henv p) hs
  have hnx := hr ops Q hA hd hQ (i + 1) hl' (a.put d y) Γ'.w ⟨by rw [put_defers]; exact df, by rw [put_size]; exact sz, Γ', rfl, hext.trans hext', hok', put_sat sz henv hext'.le (hd _ hmem) hcv⟩
  unfold Oper.wp
  rcases hr' with hr' | ⟨hr', rfl⟩
  · rw [hr', Oper.upon_value]; exact hnx
  · rw [hr', Oper.upon_skip]; exact hnx

theorem TextR.op (hs : stp P e H o1 = some (x, H1)) (hr : TextR P N Γ0 A os (putE e d x) H1 K) : TextR P N Γ0 A (⟨d, o1, ty, pos, after, none⟩ :: os) e H K := .opG rfl hs hr

/-- What isn't wanted. -/
theorem TextR.off (hg : wantE A e guard = some false) (hr : TextR P N Γ0 A os (putE e d unit) H K) : TextR P N Γ0 A (⟨d, o1, ty, pos, after, guard⟩ :: os) e H K := by
  intro ops Q hA hd hQ i hl a w hsat
  obtain ⟨hi, hl', hmem⟩ := drop_next hl
  rw [List.length_cons, List.range'_succ, wpOps_cons]
  obtain ⟨df, sz, Γ, rfl, hext, hok, henv⟩ := hsat
  unfold wpOp
  simp only [hi]
  rw [wanted_eq hA henv hg, if_neg (by simp)]
  exact hr ops Q hA hd hQ (i + 1) hl' (a.put d undef) Γ.w ⟨by rw [put_defers]; exact df, by rw [put_size]; exact sz, Γ, rfl, hext, hok, put_sat sz henv (.refl Γ) (hd _ hmem) (by simp [concV, concVs, undef])⟩

theorem TextR.callG {f : Operand} {args : Array Operand} {ts : Array TypeId} {c : FuncId} {caps : List Leaf} {as : List AVal} {K' : AVal → List Ob → Prop} (hg : wantE A e guard = some true)
    (hf : evO e f = some (.c (.clo c caps))) (has : allV (args.toList.map (evO e)) = some as) (hc : Nx.Call P c (as ++ caps.map .c) H K')
    (hr : ∀ x H', K' x H' → TextR P N Γ0 A os (putE e d x) H' K) : TextR P N Γ0 A (⟨d, .call { callee := .value f, args := args, argTypes := ts }, ty, pos, after, guard⟩ :: os) e H K := by
  intro ops Q hA hd hQ i hl a w hsat
  obtain ⟨hi, hl', hmem⟩ := drop_next hl
  rw [List.length_cons, List.range'_succ, wpOps_cons]
  obtain ⟨df, sz, Γ, rfl, hext, hok, henv⟩ := hsat
  unfold wpOp
  simp only [hi]
  rw [wanted_eq hA henv hg, if_pos rfl]
  left
  have hcf := good_env henv f _ hf
  simp only [concV, conc] at hcf
  obtain ⟨ys, hfe, hys⟩ := hcf
  have has' := allV_spec (Γ := Γ) (a := a) args.toList as (fun p _ => good_env henv p) has
  have hrun := call_run (P := P) (w := Γ.w) (o := ⟨d, .call { callee := .value f, args := args, argTypes := ts }, ty, pos, after, guard⟩) rfl hfe hc.1
  unfold Oper.wp
  rw [hrun, Oper.upon_enter]
  refine (hc.2 Γ hok (args.map a.eval ++ ys) (by simpa using concVs_append has' (concVs_leaves hys))).mono fun e' w' he => ?_
  obtain ⟨y, r, Γ', H', rfl, hk, rfl, hext', hok', hcv⟩ := he
  exact hr r H' hk ops Q hA hd hQ (i + 1) hl' (a.put d y) Γ'.w ⟨by rw [put_defers]; exact df, by rw [put_size]; exact sz, Γ', rfl, hext.trans hext', hok', put_sat sz henv hext'.le (hd _ hmem) hcv⟩

theorem TextR.call {f : Operand} {args : Array Operand} {ts : Array TypeId} {c : FuncId} {caps : List Leaf} {as : List AVal} {K' : AVal → List Ob → Prop}
    (hf : evO e f = some (.c (.clo c caps))) (has : allV (args.toList.map (evO e)) = some as) (hc : Nx.Call P c (as ++ caps.map .c) H K')
    (hr : ∀ x H', K' x H' → TextR P N Γ0 A os (putE e d x) H' K) : TextR P N Γ0 A (⟨d, .call { callee := .value f, args := args, argTypes := ts }, ty, pos, after, none⟩ :: os) e H K := .callG rfl hf has hc hr

theorem TextR.weak (hw : ∀ a w, Sat N Γ0 ⟨e, H⟩ a w → Sat N Γ0 ⟨e', H'⟩ a w) (hr : TextR P N Γ0 A os e' H' K) : TextR P N Γ0 A os e H K :=
  fun ops Q hA hd hQ i hl a w hs => hr ops Q hA hd hQ i hl a w (hw a w hs)
end

theorem sat_sub {N : Nat} {Γ0 : Ctx} {e e' : Env} {H : List Ob} (h : ∀ t x, e'.get t = some x → e.get t = some x) {a : Act} {w : World} (hs : Sat N Γ0 ⟨e, H⟩ a w) : Sat N Γ0 ⟨e', H⟩ a w := by
  obtain ⟨d, s, Γ, hw, hext, hok, henv⟩ := hs
  exact ⟨d, s, Γ, hw, hext, hok, fun t x hx => henv t x (h t x hx)⟩

theorem Keeps.get {e : Env} {l : List Nat} {r : Env} (h : Keeps e l r) : ∀ t x, r.get t = some x → e.get t = some x := by
  intro t x hx
  rw [← h.sel] at hx
  exact (sel_get hx).2

theorem Wp.text {F : Fr} {Q : Exit → St → Prop} {S : St} {id : Nat} {l : List Oper} (live : List Nat) {n : Nat} (hn : F.n = n) (hd : (l.all fun o => match o.dst with | some t => Nat.blt t n | none => true) = true)
    (h : TextR F.P n F.Γ l l S.env S.heap (fun e' H' => ∃ r, Keeps e' live r ∧ Q .normal ⟨r, H'⟩)) : Wp F (.region id l.toArray false) Q S := by
  intro a w hs
  subst hn
  refine wp_region ?_
  rw [List.range_eq_range']
  refine h l.toArray (fun ex a' w' => ∃ S', Q ex S' ∧ Sat F.n F.Γ S' a' w') (by simp) (fun o ho t hot => ?_) (fun e' H' ⟨r, h1, h2⟩ a w h3 => ⟨⟨r, H'⟩, h2, sat_sub h1.get h3⟩) 0 (by simp) a w hs
  rw [List.all_eq_true] at hd
  have := hd o (by simpa using ho)
  rw [hot] at this
  simpa using this

def preQ (P : Program) (ops : Array Oper) (Q : Exit → Act → World → Prop) (js : List Nat) : Exit → Act → World → Prop
  | .normal, a, w => wpOps P ops Q js a w
  | e, a, w => Q e a w

theorem TextR.done {P : Program} {N : Nat} {Γ0 : Ctx} {A : List Oper} {e : Env} {H : List Ob} {Q : Exit → St → Prop} {live : List Nat} {r : Env} (h : Keeps e live r) (h2 : Q .normal ⟨r, H⟩) : TextR P N Γ0 A [] e H (fun e' H' => ∃ r, Keeps e' live r ∧ Q .normal ⟨r, H'⟩) := .nil ⟨r, h, h2⟩
end Go.Nx
/- The rules of the operations, for a region in the text's order. -/
namespace Go.Nx
set_option linter.unusedVariables false
set_option linter.unusedSimpArgs false
section
variable {P : Program} {N : Nat} {Γ0 : Ctx} {A os : List Oper} {e : Env} {H H1 : List Ob} {ty : TypeId} {pos : String} {after : Array Edge} {t : Nat} {K : Env → List Ob → Prop}
theorem TextR.move {y : Operand} {x : AVal} (h : evO e y = some x) (hr : TextR P N Γ0 A os ((t, x) :: e) H K) : TextR P N Γ0 A (⟨some t, .move y, ty, pos, after, none⟩ :: os) e H K := .op (by simp [stp, h]) hr
theorem TextR.gmove {guard : Option (Nat × Bool)} (hg : wantE A e guard = some true) {y : Operand} {x : AVal} (h : evO e y = some x) (hr : TextR P N Γ0 A os ((t, x) :: e) H K) : TextR P N Γ0 A (⟨some t, .move y, ty, pos, after, guard⟩ :: os) e H K := .opG hg (by simp [stp, h]) hr
theorem TextR.assign {y : Operand} {x : AVal} (h : evO e y = some x) (hr : TextR P N Γ0 A os ((t, x) :: e) H K) : TextR P N Γ0 A (⟨some t, .assign y, ty, pos, after, none⟩ :: os) e H K := .op (by simp [stp, h]) hr
theorem TextR.pickAnd {c p : Operand} {v x : Bool} (hc : evO e c = some (.c (B v))) (hp : evO e p = some (.c (B x))) (hr : TextR P N Γ0 A os ((t, .c (B (v && x))) :: e) H K) : TextR P N Γ0 A (⟨some t, .pick c p (.const (.bool false)), ty, pos, after, none⟩ :: os) e H K :=
  .op (by
    have hk : evO e (.const (.bool false)) = some (.c (B false)) := rfl
    cases v <;> simp [stp, hc, hp, hk, pickV]) hr
theorem TextR.pickOr {c p : Operand} {v x : Bool} (hc : evO e c = some (.c (B v))) (hp : evO e p = some (.c (B x))) (hr : TextR P N Γ0 A os ((t, .c (B (v || x))) :: e) H K) : TextR P N Γ0 A (⟨some t, .pick c (.const (.bool true)) p, ty, pos, after, none⟩ :: os) e H K :=
  .op (by
    have hk : evO e (.const (.bool true)) = some (.c (B true)) := rfl
    cases v <;> simp [stp, hc, hp, hk, pickV]) hr
theorem TextR.pickAnd0 {c p : Operand} {x : AVal} (hc : evO e c = some (.c (B false))) (hp : evO e p = some x) (hr : TextR P N Γ0 A os ((t, .c (B false)) :: e) H K) : TextR P N Γ0 A (⟨some t, .pick c p (.const (.bool false)), ty, pos, after, none⟩ :: os) e H K :=
  .op (by
    have hk : evO e (.const (.bool false)) = some (.c (B false)) := rfl
    simp only [stp, hc, hp, hk]
    unfold pickV
    split
    · simp_all
    · simp) hr
theorem TextR.load1 {ty0 n : Nat} {y : Operand} {p l : Leaf} (ht : tk P ty0 = some (false, n)) (hy : evO e y = some (.c p)) (hl : ld1 H p = some l) (hr : TextR P N Γ0 A os ((t, .c l) :: e) H K) : TextR P N Γ0 A (⟨some t, .load ty0 y, ty, pos, after, none⟩ :: os) e H K := .op (by simp [stp, ht, hy, hl]) hr
theorem TextR.loadN {ty0 n : Nat} {y : Operand} {p : Leaf} {cs : List Leaf} (ht : tk P ty0 = some (true, n)) (hy : evO e y = some (.c p)) (hl : ldN H n p = some cs) (hr : TextR P N Γ0 A os ((t, .agg cs) :: e) H K) : TextR P N Γ0 A (⟨some t, .load ty0 y, ty, pos, after, none⟩ :: os) e H K := .op (by simp [stp, ht, hy, hl]) hr
theorem TextR.gloadN {guard : Option (Nat × Bool)} (hg : wantE A e guard = some true) {ty0 n : Nat} {y : Operand} {p : Leaf} {cs : List Leaf} (ht : tk P ty0 = some (true, n)) (hy : evO e y = some (.c p)) (hl : ldN H n p = some cs) (hr : TextR P N Γ0 A os ((t, .agg cs) :: e) H K) : TextR P N Γ0 A (⟨some t, .load ty0 y, ty, pos, after, guard⟩ :: os) e H K := .opG hg (by simp [stp, ht, hy, hl]) hr
theorem TextR.fieldAddr {s f off n : Nat} {g : Bool} {y : Operand} {p l : Leaf} (ht : fo P s f = some (off, n, g)) (hn : (n == 0) = false) (hy : evO e y = some (.c p)) (hl : fieldL H off p = some l) (hr : TextR P N Γ0 A os ((t, .c l) :: e) H K) : TextR P N Γ0 A (⟨some t, .fieldAddr s y f, ty, pos, after, none⟩ :: os) e H K :=
  .op (by
    have hn' : n ≠ 0 := by simpa using hn
    cases p <;> simp [fieldL] at hl
    · rename_i h ver i k
      cases ho : obj H h ver with
      | none => simp [ho] at hl
      | some zr => simp [ho] at hl; subst hl; simp [stp, ht, hy, hn', ho]
    · subst hl; simp [stp, ht, hy, hn']) hr
theorem TextR.nilCheck {y : Operand} {l : Leaf} (hy : evO e y = some (.c l)) (hl : alive H l = true) (hr : TextR P N Γ0 A os ((t, .c l) :: e) H K) : TextR P N Γ0 A (⟨some t, .nilCheck y, ty, pos, after, none⟩ :: os) e H K :=
  .op (by
    cases l <;> simp [alive] at hl
    · rename_i h ver i k
      obtain ⟨zr, ho⟩ := Option.isSome_iff_exists.1 hl
      simp [stp, hy, ho]
    · simp [stp, hy]
    · simp [stp, hy]) hr
theorem TextR.field {s f off n : Nat} {g : Bool} {y : Operand} {cs : List Leaf} {x : AVal} (ht : fo P s f = some (off, n, g)) (hy : evO e y = some (.agg cs)) (hl : mkSeg g cs off n = some x) (hr : TextR P N Γ0 A os ((t, x) :: e) H K) : TextR P N Γ0 A (⟨some t, .field s y f, ty, pos, after, none⟩ :: os) e H K := .op (by simp [stp, ht, hy, hl]) hr
theorem TextR.extract {y : Operand} {i : Nat} {vs : List AVal} {x : AVal} (hy : evO e y = some (.tup vs)) (hl : vs[i]? = some x) (hr : TextR P N Γ0 A os ((t, x) :: e) H K) : TextR P N Γ0 A (⟨some t, .extract y i, ty, pos, after, none⟩ :: os) e H K := .op (by simp [stp, hy, hl]) hr
theorem TextR.int {op : BinOp} {ty0 ty1 : Nat} {y z : Operand} {k : IntKind} {m n : Int} {l : Leaf} (hy : evO e y = some (.c (.v (.int k m)))) (hz : evO e z = some (.c (.v (.int k n)))) (hl : intBin op k m n = some l) (hr : TextR P N Γ0 A os ((t, .c l) :: e) H K) : TextR P N Γ0 A (⟨some t, .binOp op ty0 y z ty1, ty, pos, after, none⟩ :: os) e H K := .op (by simp [stp, hy, hz, binV, hl]) hr
theorem TextR.gint {guard : Option (Nat × Bool)} (hg : wantE A e guard = some true) {op : BinOp} {ty0 ty1 : Nat} {y z : Operand} {k : IntKind} {m n : Int} {l : Leaf} (hy : evO e y = some (.c (.v (.int k m)))) (hz : evO e z = some (.c (.v (.int k n)))) (hl : intBin op k m n = some l) (hr : TextR P N Γ0 A os ((t, .c l) :: e) H K) : TextR P N Γ0 A (⟨some t, .binOp op ty0 y z ty1, ty, pos, after, guard⟩ :: os) e H K := .opG hg (by simp [stp, hy, hz, binV, hl]) hr
theorem TextR.eqAgg {ty0 ty1 : Nat} {y z : Operand} {as bs : List Leaf} {s : List Sh} {v : Bool} (ht : eqs P ty0 = some s) (hy : evO e y = some (.agg as)) (hz : evO e z = some (.agg bs)) (hl : eqCells s as bs = some v) (hr : TextR P N Γ0 A os ((t, .c (B v)) :: e) H K) : TextR P N Γ0 A (⟨some t, .binOp .eql ty0 y z ty1, ty, pos, after, none⟩ :: os) e H K := .op (by simp [stp, hy, hz, binV, ht, hl]) hr
theorem TextR.neAgg {ty0 ty1 : Nat} {y z : Operand} {as bs : List Leaf} {s : List Sh} {v : Bool} (ht : eqs P ty0 = some s) (hy : evO e y = some (.agg as)) (hz : evO e z = some (.agg bs)) (hl : eqCells s as bs = some v) (hr : TextR P N Γ0 A os ((t, .c (B (!v))) :: e) H K) : TextR P N Γ0 A (⟨some t, .binOp .neq ty0 y z ty1, ty, pos, after, none⟩ :: os) e H K := .op (by simp [stp, hy, hz, binV, ht, hl]) hr
theorem TextR.eqBool {ty0 ty1 : Nat} {y z : Operand} {u v : Bool} (ht : P.underlying ty0 = some .bool) (hy : evO e y = some (.c (B u))) (hz : evO e z = some (.c (B v))) (hr : TextR P N Γ0 A os ((t, .c (B (u == v))) :: e) H K) : TextR P N Γ0 A (⟨some t, .binOp .eql ty0 y z ty1, ty, pos, after, none⟩ :: os) e H K := .op (by simp [stp, hy, hz, binV, ht]) hr
theorem TextR.not {ty0 : Nat} {y : Operand} {v : Bool} (hy : evO e y = some (.c (B v))) (hr : TextR P N Γ0 A os ((t, .c (B (!v))) :: e) H K) : TextR P N Γ0 A (⟨some t, .unOp .not ty0 y, ty, pos, after, none⟩ :: os) e H K := .op (by simp [stp, hy]) hr
theorem TextR.gnot {guard : Option (Nat × Bool)} (hg : wantE A e guard = some true) {ty0 : Nat} {y : Operand} {v : Bool} (hy : evO e y = some (.c (B v))) (hr : TextR P N Γ0 A os ((t, .c (B (!v))) :: e) H K) : TextR P N Γ0 A (⟨some t, .unOp .not ty0 y, ty, pos, after, guard⟩ :: os) e H K := .opG hg (by simp [stp, hy]) hr
theorem TextR.convert {ty0 ty1 : Nat} {y : Operand} {k0 k k2 : IntKind} {n : Int} (h0 : ik P ty0 = some k0) (h1 : ik P ty1 = some k) (hy : evO e y = some (.c (.v (.int k2 n)))) (hr : TextR P N Γ0 A os ((t, .c (.v (.int k (k.wrap n)))) :: e) H K) : TextR P N Γ0 A (⟨some t, .convert ty0 ty1 y, ty, pos, after, none⟩ :: os) e H K := .op (by simp [stp, h0, h1, hy]) hr
theorem TextR.makeFunc {f : FuncId} {caps : Array Operand} {cs : List Leaf} (hl : leafL (caps.toList.map (evO e)) = some cs) (hr : TextR P N Γ0 A os ((t, .c (.clo f cs)) :: e) H K) : TextR P N Γ0 A (⟨some t, .makeFunc (.func f) #[] caps, ty, pos, after, none⟩ :: os) e H K := .op (by simp [stp, hl]) hr
theorem TextR.len {el : TypeId} {y : Operand} {ts : TypeId} {l : Leaf} {n : Nat} (ht : P.underlying ts = some (.slice el)) (hy : evO e y = some (.c l)) (hl : lenL l = some n) (hr : TextR P N Γ0 A os ((t, .c (I (n : Int))) :: e) H K) : TextR P N Γ0 A (⟨some t, .call { callee := .builtin .len, args := #[y], argTypes := #[ts] }, ty, pos, after, none⟩ :: os) e H K := .op (by simp [stp, ht, hy, hl]) hr
theorem TextR.minmax {bi : Builtin} {args : Array Operand} {ts : Array TypeId} {n : Int} (hbi : bi = .min ∨ bi = .max) (hl : foldInt (if bi = .min then min else max) (args.toList.map (evO e)) = some n) (hr : TextR P N Γ0 A os ((t, .c (I n)) :: e) H K) : TextR P N Γ0 A (⟨some t, .call { callee := .builtin bi, args := args, argTypes := ts }, ty, pos, after, none⟩ :: os) e H K := by
  rcases hbi with rfl | rfl
  · exact .op (by simp at hl; simp [stp, hl]) hr
  · exact .op (by simp at hl; simp [stp, hl]) hr
theorem TextR.indexF {ts : TypeId} {y z : Operand} {el size : Nat} {rest : Nat × List Leaf} {l : Leaf} {k : IntKind} {n : Int} {rows : List (List Leaf)} {r : List Leaf} (ht : se P ts = some (el, size, rest)) (hy : evO e y = some (.c l)) (hz : evO e z = some (.c (.v (.int k n)))) (hl : asF l = some rows) (hn : 0 ≤ n) (hi : rows[n.toNat]? = some r) (hs : r.length = size) (hr : TextR P N Γ0 A os ((t, .c (.fptr rows n.toNat 0)) :: e) H K) : TextR P N Γ0 A (⟨some t, .indexAddr ts y z, ty, pos, after, none⟩ :: os) e H K :=
  .op (by
    have hlt : n.toNat < rows.length := (List.getElem?_eq_some_iff.1 hi).1
    have hb : 0 ≤ n ∧ n < rows.length := ⟨hn, by omega⟩
    unfold asF at hl
    split at hl <;> cases hl
    all_goals
      simp only [stp, hy, hz, indexAddrV, view, ht]
      rw [if_pos hb]
      simp [hi, hs]) hr
theorem TextR.alloc {ty0 : TypeId} {z : Leaf} {zs : List Leaf} (h : Nat) {m : Nat} (hz : zc P ty0 = some (z :: zs)) (hh : H.length = h) (hm : zs.length + 1 = m) (hs : Snoc (.live 0 m [z :: zs]) H H1) (hr : TextR P N Γ0 A os ((t, .c (.ptr h 0 0 0)) :: e) H1 K) : TextR P N Γ0 A (⟨some t, .alloc ty0, ty, pos, after, none⟩ :: os) e H K :=
  .op (x := .c (.ptr h 0 0 0)) (H1 := H1) (by simp [stp, hz, hh, hm, hs.eq]) hr
theorem TextR.box {ty0 : TypeId} {y : Operand} {v : AVal} {cs : List Leaf} (h : Nat) {m : Nat} (hy : evO e y = some v) (hc : v.cells = some cs) (hh : H.length = h) (hm : cs.length = m + 1) (hs : Snoc (.live 0 (m + 1) [cs]) H H1) (hr : TextR P N Γ0 A os ((t, .c (.ptr h 0 0 0)) :: e) H1 K) : TextR P N Γ0 A (⟨some t, .box ty0 y, ty, pos, after, none⟩ :: os) e H K :=
  .op (x := .c (.ptr h 0 0 0)) (H1 := H1) (by
    cases cs with
    | nil => simp at hm
    | cons z zs =>
      have hm' : zs.length = m := by simpa using hm
      simp [stp, hy, hc, hh, hm', hs.eq]) hr
theorem TextR.build {ty0 : TypeId} {ps : Array (Nat × Operand)} {z cs : List Leaf} {places : List (Nat × Nat)} (hz : cm P ty0 = some (z, places)) (hl : fillL places z (ps.toList.map fun (i, x) => (i, evO e x)) = some cs) (hr : TextR P N Γ0 A os ((t, .agg cs) :: e) H K) : TextR P N Γ0 A (⟨some t, .build ty0 ps, ty, pos, after, none⟩ :: os) e H K :=
  .op (by simp [stp, hz, hl]) hr
theorem TextR.gbuild {guard : Option (Nat × Bool)} (hg : wantE A e guard = some true) {ty0 : TypeId} {ps : Array (Nat × Operand)} {z cs : List Leaf} {places : List (Nat × Nat)} (hz : cm P ty0 = some (z, places)) (hl : fillL places z (ps.toList.map fun (i, x) => (i, evO e x)) = some cs) (hr : TextR P N Γ0 A os ((t, .agg cs) :: e) H K) : TextR P N Γ0 A (⟨some t, .build ty0 ps, ty, pos, after, guard⟩ :: os) e H K :=
  .opG hg (by simp [stp, hz, hl]) hr
theorem TextR.buildSlice {ty0 : TypeId} {n size by' : Nat} {el : TypeId} {ps : Array (Nat × Operand)} {z : List Leaf} {rows : List (List Leaf)} (h : Nat) (hz : se P ty0 = some (el, size, by', z)) (hh : H.length = h) (hc : (Nat.blt 0 size && Nat.ble (n * size) 16777216 && Nat.beq z.length size && Nat.ble n maxLen) = true) (hl : rowsL size (List.replicate n z) (ps.toList.map fun (i, x) => (i, evO e x)) = some rows) (hs : Snoc (.live 0 size rows) H H1) (hr : TextR P N Γ0 A os ((t, .c (.sl h 0 0 n)) :: e) H1 K) : TextR P N Γ0 A (⟨some t, .buildSlice ty0 n ps, ty, pos, after, none⟩ :: os) e H K :=
  .op (x := .c (.sl h 0 0 n)) (H1 := H1) (by
    simp only [Bool.and_eq_true, Nat.blt_eq, Nat.ble_eq, Nat.beq_eq] at hc
    have hc' : 0 < size ∧ n * size ≤ 16777216 ∧ z.length = size ∧ n ≤ maxLen := ⟨hc.1.1.1, hc.1.1.2, hc.1.2, hc.2⟩
    simp [stp, hz, hh, hc', hl, hs.eq]) hr
theorem TextR.gbuildSlice {guard : Option (Nat × Bool)} (hg : wantE A e guard = some true) {ty0 : TypeId} {n size by' : Nat} {el : TypeId} {ps : Array (Nat × Operand)} {z : List Leaf} {rows : List (List Leaf)} (h : Nat) (hz : se P ty0 = some (el, size, by', z)) (hh : H.length = h) (hc : (Nat.blt 0 size && Nat.ble (n * size) 16777216 && Nat.beq z.length size && Nat.ble n maxLen) = true) (hl : rowsL size (List.replicate n z) (ps.toList.map fun (i, x) => (i, evO e x)) = some rows) (hs : Snoc (.live 0 size rows) H H1) (hr : TextR P N Γ0 A os ((t, .c (.sl h 0 0 n)) :: e) H1 K) : TextR P N Γ0 A (⟨some t, .buildSlice ty0 n ps, ty, pos, after, guard⟩ :: os) e H K :=
  .opG hg (x := .c (.sl h 0 0 n)) (H1 := H1) (by
    simp only [Bool.and_eq_true, Nat.blt_eq, Nat.ble_eq, Nat.beq_eq] at hc
    have hc' : 0 < size ∧ n * size ≤ 16777216 ∧ z.length = size ∧ n ≤ maxLen := ⟨hc.1.1.1, hc.1.1.2, hc.1.2, hc.2⟩
    simp [stp, hz, hh, hc', hl, hs.eq]) hr
theorem TextR.makeSlice {ty0 : TypeId} {size by' n : Nat} {el : TypeId} {l c : Operand} {k k' : IntKind} {z : List Leaf} (h : Nat) (hz : se P ty0 = some (el, size, by', z)) (hh : H.length = h) (hl : evO e l = some (.c (.v (.int k (n : Int))))) (hc : evO e c = some (.c (.v (.int k' (n : Int))))) (hz1 : (Nat.blt 0 size && Nat.beq z.length size) = true) (hb : (by' : Int) * n ≤ 281474976710656) (hn : n ≤ maxLen) (hs : Snoc (.live 0 size (List.replicate n z)) H H1) (hr : TextR P N Γ0 A os ((t, .c (.sl h 0 0 n)) :: e) H1 K) : TextR P N Γ0 A (⟨some t, .makeSlice ty0 l c, ty, pos, after, none⟩ :: os) e H K :=
  .op (x := .c (.sl h 0 0 n)) (H1 := H1) (by
    simp only [Bool.and_eq_true, Nat.blt_eq, Nat.beq_eq] at hz1
    have hc' : 0 < size ∧ z.length = size ∧ (0 : Int) ≤ n ∧ (n : Int) = n ∧ (by' : Int) * n ≤ 281474976710656 ∧ (n : Int) ≤ maxLen := ⟨hz1.1, hz1.2, by omega, rfl, hb, by omega⟩
    simp [stp, hz, hl, hc, hh, hc', hs.eq]) hr
theorem TextR.store1 {ty0 : TypeId} {y x : Operand} {v : AVal} {h ver n z : Nat} {g : Bool} {cs r : List Leaf} (ht : tk P ty0 = some (g, n)) (hy : evO e y = some (.c (.ptr h ver 0 0))) (hx : evO e x = some v) (hc : v.cells = some cs) (ho : obj H h ver = some (z, [r])) (hn : cs.length = n) (hrl : r.length = n) (hs : SetAt (.live ver z [cs]) H h H1) (hr : TextR P N Γ0 A os e H1 K) : TextR P N Γ0 A (⟨none, .store ty0 y x, ty, pos, after, none⟩ :: os) e H K :=
  .op (x := unit) (H1 := H1) (by
    have hp : ∀ (r cs : List Leaf) (k : Nat) (p : List Leaf), p.length = k → r.length = cs.length → putSeg (p ++ r) k cs = p ++ cs := by
      intro r cs
      induction cs generalizing r with
      | nil => intro k p _ h; simp at h; simp [putSeg, h]
      | cons c cs ih =>
        intro k p hk h
        cases r with
        | nil => simp at h
        | cons a r =>
          simp only [putSeg]
          have hset : (p ++ a :: r).set k c = (p ++ [c]) ++ r := by
            subst hk
            simp [List.set_append_right]
          rw [hset, ih r (k + 1) (p ++ [c]) (by simp [hk]) (by simpa using h)]
          simp
    have hp' := hp r cs 0 [] rfl (by omega)
    simp only [List.nil_append] at hp'
    simp [stp, ht, hy, hx, hc, ho, hn, hrl, hp', hs.eq]) (by simpa [putE] using hr)
theorem TextR.storeF {ty0 : TypeId} {y x : Operand} {v : AVal} {h ver n z k : Nat} {g : Bool} {cs r r' : List Leaf} (ht : tk P ty0 = some (g, n)) (hy : evO e y = some (.c (.ptr h ver 0 k))) (hx : evO e x = some v) (hc : v.cells = some cs) (ho : obj H h ver = some (z, [r])) (hn : cs.length = n) (hrl : Nat.ble (k + n) r.length = true) (hp : putSeg r k cs = r') (hs : SetAt (.live ver z [r']) H h H1) (hr : TextR P N Γ0 A os e H1 K) : TextR P N Γ0 A (⟨none, .store ty0 y x, ty, pos, after, none⟩ :: os) e H K :=
  .op (x := unit) (H1 := H1) (by
    have hrl' := Nat.le_of_ble_eq_true hrl
    simp [stp, ht, hy, hx, hc, ho, hn, hrl', hp, hs.eq]) (by simpa [putE] using hr)
theorem TextR.storeE {ty0 : TypeId} {y x : Operand} {v : AVal} {h ver n z i k : Nat} {g : Bool} {cs r : List Leaf} {rows rows' : List (List Leaf)} (ht : tk P ty0 = some (g, n)) (hy : evO e y = some (.c (.ptr h ver i k))) (hx : evO e x = some v) (hc : v.cells = some cs) (ho : obj H h ver = some (z, rows)) (hn : cs.length = n) (hi : rows[i]? = some r) (hrl : k + n ≤ r.length) (hp : rows.set i (putSeg r k cs) = rows') (hs : SetAt (.live ver z rows') H h H1) (hr : TextR P N Γ0 A os e H1 K) : TextR P N Γ0 A (⟨none, .store ty0 y x, ty, pos, after, none⟩ :: os) e H K :=
  .op (x := unit) (H1 := H1) (by
    simp [stp, ht, hy, hx, hc, ho, hn, hi, hrl, hp, hs.eq]) (by simpa [putE] using hr)
theorem TextR.add {ty0 ty1 : Nat} {y z : Operand} {k : IntKind} {m n s : Int} (hy : evO e y = some (.c (.v (.int k m)))) (hz : evO e z = some (.c (.v (.int k n)))) (hs : k.wrap (m + n) = s) (hr : TextR P N Γ0 A os ((t, .c (.v (.int k s))) :: e) H K) : TextR P N Γ0 A (⟨some t, .binOp .add ty0 y z ty1, ty, pos, after, none⟩ :: os) e H K := .int  hy hz (by simp [intBin, hs]) hr
theorem TextR.sub {ty0 ty1 : Nat} {y z : Operand} {k : IntKind} {m n s : Int} (hy : evO e y = some (.c (.v (.int k m)))) (hz : evO e z = some (.c (.v (.int k n)))) (hs : k.wrap (m - n) = s) (hr : TextR P N Γ0 A os ((t, .c (.v (.int k s))) :: e) H K) : TextR P N Γ0 A (⟨some t, .binOp .sub ty0 y z ty1, ty, pos, after, none⟩ :: os) e H K := .int  hy hz (by simp [intBin, hs]) hr
theorem TextR.loadNM {α : Type} {ty0 n i : Nat} {y : Operand} {xs : List α} {x : α} {f : α → List Leaf} (ht : tk P ty0 = some (true, n)) (hy : evO e y = some (.c (.fptr (xs.map f) i 0))) (hi : xs[i]? = some x) (hs : (f x).length = n) (hr : TextR P N Γ0 A os ((t, .agg (f x)) :: e) H K) : TextR P N Γ0 A (⟨some t, .load ty0 y, ty, pos, after, none⟩ :: os) e H K :=
  .loadN ht  hy (by simp [ldN, hi, seg, ← hs]) hr
theorem TextR.load1M {α : Type} {ty0 n i k : Nat} {y : Operand} {xs : List α} {x : α} {f : α → List Leaf} {l : Leaf} (ht : tk P ty0 = some (false, n)) (hy : evO e y = some (.c (.fptr (xs.map f) i k))) (hi : xs[i]? = some x) (hs : (f x)[k]? = some l) (hr : TextR P N Γ0 A os ((t, .c l) :: e) H K) : TextR P N Γ0 A (⟨some t, .load ty0 y, ty, pos, after, none⟩ :: os) e H K :=
  .load1 ht  hy (by simp [ld1, hi, hs]) hr
theorem TextR.lenM {α : Type} {el : TypeId} {y : Operand} {ts : TypeId} {l : Leaf} {xs : List α} {f : α → List Leaf} (ht : P.underlying ts = some (.slice el)) (hy : evO e y = some (.c l)) (hl : asF l = some (xs.map f)) (hr : TextR P N Γ0 A os ((t, .c (I (xs.length : Int))) :: e) H K) : TextR P N Γ0 A (⟨some t, .call { callee := .builtin .len, args := #[y], argTypes := #[ts] }, ty, pos, after, none⟩ :: os) e H K :=
  .len ht  hy (by
    unfold asF at hl
    split at hl <;> cases hl <;> simp [lenL]) hr
end
end Go.Nx
