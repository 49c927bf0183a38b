/- A region: its operations in whatever order its edges allow; what is guarded is reckoned ahead, as if it were wanted. -/
import Derived.Test.YtcnbkfgajnlbpaaNxK
namespace Go.Nx
set_option linter.unusedVariables false
set_option linter.unusedSimpArgs false

structure St where
  env : Env
  heap : List Ob

def Sat (n : Nat) (Γ0 : Ctx) (S : St) (a : Act) (w : World) : Prop :=
  a.defers = [] ∧ a.tmps.size = n ∧ ∃ Γ, Γ.w = w ∧ Γ0.Ext Γ ∧ HeapOk Γ S.heap ∧ ∀ t x, S.env.get t = some x → ∃ y, a.tmps[t]? = some y ∧ concV Γ x y

def enters (P : Program) (f : FuncId) : Bool :=
  match P.funcs[f]? with
  | some fn => fn.name != "runtime.NumGoroutine" && fn.body.isSome
  | none => false

/-- What a call comes to, from a heap that is known. -/
def Call (P : Program) (f : FuncId) (args : List AVal) (H : List Ob) (K : AVal → List Ob → Prop) : Prop :=
  enters P f = true ∧ ∀ Γ, HeapOk Γ H → ∀ args' : Array Value, concVs Γ args args'.toList → Calls P f args' Γ.w fun e w' =>
    ∃ y r Γ' H', e = .returned y ∧ K r H' ∧ Γ'.w = w' ∧ Γ.Ext Γ' ∧ HeapOk Γ' H' ∧ concV Γ' r y

/-- A call that leaves the heap alone and answers one thing. -/
def DCall (P : Program) (f : FuncId) (args : List AVal) (H : List Ob) (r : AVal) : Prop := Call P f args H fun r' H' => r' = r ∧ H' = H

structure Obl where
  act : Bool
  f : FuncId
  args : List AVal
  H : Option (List Ob)
  r : AVal
def Obl.ok (P : Program) (o : Obl) : Prop := o.act = true → match o.H with
  | some H => DCall P o.f o.args H o.r
  | none => ∀ H, DCall P o.f o.args H o.r

def actE (e : Env) : List (Nat × Bool) → Option Bool
  | [] => some true
  | (s, w) :: r => match e.get s, actE e r with
    | some (.c (.v (.bool b))), some c => some ((b == w) && c)
    | _, _ => none

def gE (b : Bool) (H : List Ob) (r : Option (AVal × List Ob)) : Option (AVal × List Ob) :=
  match r with
  | some (x, H1) => some (x, bif b then H1 else H)
  | none => bif b then none else some (unit, H)

def putE (e : Env) (d : Option Nat) (x : AVal) : Env :=
  match d with
  | some t => (t, x) :: e
  | none => e

def allV : List (Option AVal) → Option (List AVal)
  | [] => some []
  | some x :: r => (allV r).map (x :: ·)
  | none :: _ => none

/-- Operations that turn the heap. -/
def fixed : Op → Bool
  | .alloc _ | .box _ _ | .buildSlice _ _ _ | .makeSlice _ _ _ | .store _ _ _ => true
  | .call { callee := .builtin .append, .. } => true
  | _ => false

def touch (e : Env) (H : List Ob) : Op → List Nat
  | .store _ a _ => match evO e a with
    | some (.c (.ptr h _ _ _)) => [h]
    | _ => []
  | .call { callee := .builtin .append, args, .. } => match args.toList.map (evO e) with
    | some (.c (.sl h _ _ _)) :: _ => [h]
    | _ => [H.length]
  | _ => [H.length]

def hOk (W : List Nat) : Option AVal → Bool
  | some (.c (.ptr h _ _ _)) => !W.contains h
  | some (.c (.sl h _ _ _)) => !W.contains h
  | _ => true

def wOk (W : Option (List Nat)) (ex : Bool) (e : Env) (H : List Ob) (op : Op) : Bool :=
  match W with
  | none => true
  | some W => if fixed op then ex || (touch e H op).all (W.contains ·) else !ex || op.operands.toList.all fun p => hOk W (evO e p)

theorem Env.get_put (e : Env) (d : Option Nat) (x : AVal) (t : Nat) : (putE e d x).get t = if d = some t then some x else e.get t := by
  cases d with
  | none => simp [putE]
  | some s => simp [putE, Env.get]

end Go.Nx
