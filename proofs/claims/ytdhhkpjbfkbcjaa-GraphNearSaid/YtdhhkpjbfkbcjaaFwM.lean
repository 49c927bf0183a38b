/- Rules of the walk. -/
import Derived.Test.YtdhhkpjbfkbcjaaFwC
import Derived.WalkKit
import Derived.ProofKit
import Derived.OpenShut
import Derived.ShutString
import Derived.ChangeOld
import Derived.Below
/- What comes in, read as data, is what the walks ask for; what a call from nothing leaves alone. -/
namespace Go.Nx
open Go.ChangeShapes Go.WideShapes Go.ChangeAt Go.RowKit
set_option linter.unusedVariables false
set_option linter.unusedSimpArgs false

/-- All that is there is only read. -/
def Ctx.of (W : World) : Ctx := { w := W, F := fun b => b < W.heap.size, X := fun _ => False, hs := [] }
theorem Ctx.of_ok (W : World) : HeapOk (Ctx.of W) [] := ⟨rfl, fun h o hh => by simp at hh, fun h h' v v' z z' rows rows' inf inf' b h1 => by simp at h1, fun b hb => hb, fun b hb => hb.elim⟩

theorem calls_below {P : Program} {f : FuncId} {as : List AVal} {W : World} {args' : Array Value} {b : Bool} (h : Nx.Call P f as [] fun r' _ => r' = .c (B b)) (hc : concVs (Ctx.of W) as args'.toList) :
    Calls P f args' W fun e W' => e = .returned (.bool b) ∧ Below W.heap.size W W' := by
  refine (h.2 (Ctx.of W) (Ctx.of_ok W) args' hc).mono fun e w' he => ?_
  obtain ⟨y, r', Γ', H', rfl, rfl, rfl, hext, hok', hcv⟩ := he
  simp only [concV, conc] at hcv
  exact ⟨by rw [hcv.1], hext.os, hext.tape, hext.output, hext.size, fun k hk => hext.frame k hk (fun h => h)⟩

/-- What is read as data of a type is what its rows are said to hold. -/
def Reads (P : Program) (T : TypeId) {α : Type} (e : α → List Leaf) (ok : α → Prop) : Prop :=
  ∀ (H : Type) (enc : TypeId × Value → H) (W : World) (sp : Nat → Bool) (held : Bool) (n : Nat) (cs : List Value) (x : DataW H × List MemPlace), DataW.trod enc P W 0 sp held n T cs = some x → ∃ a, ok a ∧ concAll (Ctx.of W) (e a) cs

theorem reads_int {P : Program} {T : TypeId} {k : IntKind} (hu : P.underlying T = some (.int k)) : Reads P T (fun n : Int => [.v (.int k n)]) (fun n => (Lit.int k n).wf = true) := by
  intro H enc W sp held n cs x h
  cases n with
  | zero => simp [DataW.trod] at h
  | succ n =>
    unfold DataW.trod at h
    rw [hu] at h
    split at h <;> simp_all
    obtain ⟨⟨rfl, hw⟩, rfl⟩ := h
    exact ⟨_, hw, by simp [concAll, conc, Value.oneCell']⟩
theorem cells_get {W : World} {a : Addr} {n : Nat} {cs : List Value} (h : W.cells? 0 a n = some cs) : cs.length = n ∧ ∀ i, i < n → W.cell? (a.add i) = cs[i]? := by
  unfold World.cells? at h
  rw [if_pos (Nat.zero_le _)] at h
  have hl := mapM_some_length h
  simp at hl
  exact ⟨hl, fun i hi => mapM_some_get h i i (by simp [hi])⟩
theorem list_of {β : Type} {n : Nat} {p : Nat → β → Prop} (h : ∀ i, i < n → ∃ b, p i b) : ∃ l : List β, l.length = n ∧ ∀ i b, l[i]? = some b → p i b := by
  induction n with
  | zero => exact ⟨[], rfl, fun i b hb => by simp at hb⟩
  | succ n ih =>
    obtain ⟨l, hl, hp⟩ := ih (fun i hi => h i (by omega))
    obtain ⟨b, hb⟩ := h n (by omega)
    refine ⟨l ++ [b], by simp [hl], fun i c hc => ?_⟩
    by_cases hi : i < n
    · rw [List.getElem?_append_left (by omega)] at hc
      exact hp i c hc
    · have hlt := (List.getElem?_eq_some_iff.1 hc).1
      simp at hlt
      have : i = n := by omega
      subst this
      rw [List.getElem?_append_right (by omega), hl] at hc
      simp at hc
      subst hc
      exact hb
theorem concRow_of_cells {Γ : Ctx} {b : Nat} : ∀ {off : Nat} {r : List Leaf} {cs : List Value}, concAll Γ r cs → (∀ i, i < r.length → Γ.w.cell? ⟨b, off + i, none⟩ = cs[i]?) → concRow Γ b off r
  | off, [], _, _, _ => by simp [concRow]
  | off, l :: ls, cs, h, hc => by
    simp only [concAll] at h
    obtain ⟨y, ys, rfl, h2, h3⟩ := h
    simp only [concRow]
    refine ⟨⟨y, by simpa using hc 0 (by simp), h2⟩, concRow_of_cells h3 (fun i hi => ?_)⟩
    rw [show off + 1 + i = off + (i + 1) by omega]
    simpa using hc (i + 1) (by simp; omega)

theorem reads_slice {P : Program} {T E : TypeId} {sz : Nat} {β : Type} {f : β → List Leaf} {ok : β → Prop} (hu : P.underlying T = some (.slice E)) (hE : Reads P E f ok) (hsz : P.cellsOf E = sz) (hz : 0 < sz) (hf : ∀ x, (f x).length = sz) :
    Reads P T (fun l : List β => [.slv (l.map f)]) (fun l => l.length ≤ maxLen ∧ ∀ x ∈ l, ok x) := by
  intro H enc W sp held n cs x h
  cases n with
  | zero => simp [DataW.trod] at h
  | succ n =>
    rw [DataW.trod_step] at h
    unfold DataW.trodStep at h
    rw [hu] at h
    split at h <;> try (simp_all; done)
    · exact ⟨[], ⟨Nat.zero_le _, by simp⟩, by simp [concAll, conc]⟩
    · rename_i a len cap heq
      obtain rfl : E = _ := by simpa using heq
      simp only at h
      split at h
      case isFalse => cases h
      rename_i hb
      obtain ⟨_, hlc, hcm⟩ := hb
      rw [Option.bind_eq_some_iff] at h
      obtain ⟨elems, hel, _⟩ := h
      have helen := mapM_some_length hel
      simp at helen
      have hget : ∀ i, i < len → ∃ c : β × List Value, ok c.1 ∧ concAll (Ctx.of W) (f c.1) c.2 ∧ W.cells? 0 (a.add (i * sz)) sz = some c.2 := fun i hi => by
        have h1 := mapM_some_get hel i i (by simp [hi])
        have hlt : i < elems.length := by omega
        rw [List.getElem?_eq_getElem hlt] at h1
        rw [Option.bind_eq_some_iff] at h1
        obtain ⟨cs, h2, h3⟩ := h1
        obtain ⟨c, h4, h5⟩ := hE H enc W sp held n cs _ h3
        rw [hsz] at h2
        refine ⟨(c, cs), h4, h5, ?_⟩
        unfold World.cells? at h2 ⊢
        rw [if_pos (Nat.zero_le _)]
        split at h2
        · exact h2
        · cases h2
      obtain ⟨l, hl, hp⟩ := list_of hget
      refine ⟨l.map (·.1), ⟨by simp; omega, fun x hx => ?_⟩, ?_⟩
      · obtain ⟨c, hc, rfl⟩ := List.mem_map.1 hx
        obtain ⟨i, hi⟩ := List.mem_iff_getElem?.1 hc
        exact (hp i c hi).1
      · simp only [concAll]
        refine ⟨_, [], rfl, ?_, rfl⟩
        simp only [conc]
        right
        refine ⟨a, cap, sz, by simp [hl], by simp; omega, ?_⟩
        by_cases hl0 : l = []
        · left; simp [hl0]
        · right
          have hpos : 0 < len := by
            rcases Nat.eq_zero_or_pos len with h0 | h0
            · exact absurd (List.eq_nil_of_length_eq_zero (by omega)) hl0
            · exact h0
          have hcell : ∀ (i : Nat) (c : β × List Value), l[i]? = some c → ∀ j, j < sz → W.cell? ((a.add (i * sz)).add j) = c.2[j]? := fun i c hc j hj => (cells_get (hp i c hc).2.2).2 j hj
          have hsome : ∀ (i : Nat) (c : β × List Value), l[i]? = some c → c.2.length = sz := fun i c hc => (cells_get (hp i c hc).2.2).1
          have h0 : ∃ c, l[0]? = some c := ⟨_, List.getElem?_eq_getElem (by omega)⟩
          obtain ⟨c0, hc0⟩ := h0
          have h00 := hcell 0 c0 hc0 0 hz
          have hl00 := hsome 0 c0 hc0
          rw [List.getElem?_eq_getElem (by omega)] at h00
          simp only [Nat.zero_mul, Addr.add, if_true] at h00
          have hspot : a.spot = none := World.cell?_spot h00
          have hF : a.block < W.heap.size := by
            unfold World.cell? at h00
            split at h00
            · rename_i heq
              exact (Array.getElem?_eq_some_iff.1 heq).1
            · cases h00
          refine ⟨hspot, hF, concRows_mk fun i r hi => ?_⟩
          simp only [List.map_map, List.getElem?_map, Option.map_eq_some_iff] at hi
          obtain ⟨c, hc, rfl⟩ := hi
          refine ⟨hf _, concRow_of_cells (hp i c hc).2.1 (fun j hj => ?_)⟩
          have hj' : j < sz := by rw [← hf c.1]; exact hj
          rw [← hcell i c hc j hj']
          obtain ⟨b, o, s⟩ := a
          simp only at hspot
          subst hspot
          have e1 : ∀ k, (⟨b, o, none⟩ : Addr).add k = ⟨b, o + k, none⟩ := add_off b o
          show (Ctx.of W).w.cell? _ = _
          rw [e1, add_off]
          simp [Ctx.of]

/-- A row out of its parts. -/
theorem concAll_part {Γ : Ctx} {l1 l2 : List Leaf} {cs : List Value} {o k : Nat} (h1 : concAll Γ l1 ((cs.drop o).take k)) (h2 : concAll Γ l2 (cs.drop (o + k))) : concAll Γ (l1 ++ l2) (cs.drop o) := by
  have := concAll_append h1 h2
  rwa [show (cs.drop o).take k ++ cs.drop (o + k) = cs.drop o by rw [← List.drop_drop]; exact List.take_append_drop k (cs.drop o)] at this
theorem concAll_end {Γ : Ctx} {cs : List Value} {n : Nat} (h : cs.length = n) : concAll Γ [] (cs.drop n) := by
  simp [concAll, ← h]
theorem reads_struct {P : Program} {T : TypeId} {n : Nat} {fs : Array Field} {α : Type} {e : α → List Leaf} {ok : α → Prop} (hu : P.underlying T = some (.struct fs)) (hn : P.cellsOf T = n)
    (h : ∀ (H : Type) (enc : TypeId × Value → H) (W : World) (sp : Nat → Bool) (held : Bool) (m : Nat) (cs : List Value), cs.length = n → (∀ (i : Nat) (f : Field), fs[i]? = some f → ∃ x, DataW.trod enc P W 0 sp held m f.type ((cs.drop f.offset).take (P.cellsOf f.type)) = some x) → ∃ a, ok a ∧ concAll (Ctx.of W) (e a) cs) : Reads P T e ok := by
  intro H enc W sp held k cs x hx
  obtain ⟨xs, m, rfl, rfl, hl, hxl, hf⟩ := DataW.trod_struct hu hx
  refine h H enc W sp held m cs (by rw [hl, hn]) (fun i f hi => ?_)
  have hlt : i < xs.length := by rw [hxl]; exact (Array.getElem?_eq_some_iff.1 hi).1
  exact ⟨_, (hf i f hi).trans (List.getElem?_eq_getElem hlt)⟩

/-- An argument: one cell, or an aggregate. -/
theorem arg_one {P : Program} {T : TypeId} {H : Type} {enc : TypeId × Value → H} {W : World} {α : Type} {g : α → Leaf} {ok : α → Prop} (hr : Reads P T (fun a => [g a]) ok) {v : Value} {d : DataW H} {p : List MemPlace} (hna : ∀ cs, v ≠ .agg cs) (h : DataW.Trod enc P W 0 (fun _ => true) true T v d p) : ∃ a, ok a ∧ concV (Ctx.of W) (.c (g a)) v := by
  obtain ⟨n, hn⟩ := h
  obtain ⟨a, h1, h2⟩ := hr H enc W _ _ n _ _ hn
  refine ⟨a, h1, ?_⟩
  have hcells : v.cells = #[v] := by cases v <;> first | rfl | exact absurd rfl (hna _)
  rw [hcells] at h2
  simp only [concAll] at h2
  obtain ⟨y, ys, h3, h4, h5⟩ := h2
  simp at h3
  simp only [concV]
  rw [h3.1]
  exact h4
theorem arg_agg {P : Program} {T : TypeId} {H : Type} {enc : TypeId × Value → H} {W : World} {α : Type} {e : α → List Leaf} {ok : α → Prop} (hr : Reads P T e ok) {v : Value} {d : DataW H} {p : List MemPlace} (hag : ∃ cs, v = .agg cs) (h : DataW.Trod enc P W 0 (fun _ => true) true T v d p) : ∃ a, ok a ∧ concV (Ctx.of W) (.agg (e a)) v := by
  obtain ⟨n, hn⟩ := h
  obtain ⟨a, h1, h2⟩ := hr H enc W _ _ n _ _ hn
  obtain ⟨cs, rfl⟩ := hag
  exact ⟨a, h1, cs, rfl, h2⟩
theorem okWide_agg {P : Program} {W : World} {base : Nat} {T : TypeId} {v : Value} {fs : Array Field} (hu : P.underlying T = some (.struct fs)) (h : Value.okWide P W .any base T v) : ∃ cs, v = .agg cs := by
  unfold Value.okWide at h
  rw [hu] at h
  obtain ⟨cs, h1, _⟩ := h
  exact ⟨cs, h1⟩
theorem noAggI {P : Program} {W : World} {base : Nat} {T : TypeId} {v : Value} {k : IntKind} (hu : P.underlying T = some (.int k)) (h : Value.okWide P W .any base T v) : ∀ cs, v ≠ .agg cs := by
  rintro cs rfl
  simp [Value.okWide, hu, Cell.okWide, Cell.ok] at h
end Go.Nx
