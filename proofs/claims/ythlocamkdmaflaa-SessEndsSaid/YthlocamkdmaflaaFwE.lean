/- Rules of the walk. -/
import Derived.Test.YthlocamkdmaflaaFwD
import Derived.Shelf.Sort.Plain
import Derived.Shelf.Slices.In.SortNone
import Derived.Shelf.Slices.CompactI
import Derived.Shelf.Slices.Cells
import Derived.Shelf.Slices.Reverse
/- The library's sort, and what drops repeats, at integers of the call's own. -/
namespace Go.Nx
open Go.Sort Go.Shelf
set_option linter.unusedVariables false
set_option linter.unusedSimpArgs false

instance fix_rv {h ver : Nat} : Fix (rvL h ver) := ⟨fun _ _ => rfl, fun _ => rfl, fun _ => rfl⟩
instance okp_rv {h ver : Nat} : Okp (rvK h ver) := ⟨fun _ _ => rfl, fun _ => rfl, fun _ => rfl⟩

theorem gAnd {a b : Bool} (h : a = true) (h' : b = true) : (a && b) = true := by rw [h, h']; rfl
theorem TextR.dcallG {P : Program} {N : Nat} {Γ0 : Ctx} {A os : List Oper} {e : Env} {H : List Ob} {ty : TypeId} {pos : String} {after : Array Edge} {guard : Option (Nat × Bool)} {K : Env → List Ob → Prop} {d : Option Nat} {f : Operand} {args : Array Operand} {ts : Array TypeId} {c : FuncId} {caps : List Leaf} {fs : List AVal} {x : AVal} (hg : wantE A e guard = some true)
    (hf : evO e f = some (.c (.clo c caps))) (has : allV (args.toList.map (evO e)) = some fs) (hc : DCall P c (fs ++ caps.map .c) H x) (hr : TextR P N Γ0 A os (putE e d x) H K) : TextR P N Γ0 A (⟨d, .call { callee := .value f, args := args, argTypes := ts }, ty, pos, after, guard⟩ :: os) e H K :=
  .callG hg hf has hc (by rintro _ _ ⟨rfl, rfl⟩; exact hr)
theorem rv_self {α : Type} {E : α → List Leaf} {h ver : Nat} (hp : ∀ x, (E x).all (rvK h ver) = true) (hf : ∀ x, (E x).map (rvL h ver) = E x) (xs : List α) : ∀ r ∈ xs.map E, r.all (rvK h ver) = true ∧ r.map (rvL h ver) = r := by
  intro r hr
  obtain ⟨x, _, rfl⟩ := List.mem_map.1 hr
  exact ⟨hp x, hf x⟩
def ins (x : Int) : List Int → List Int
  | [] => [x]
  | y :: ys => if x ≤ y then x :: y :: ys else y :: ins x ys
def isort : List Int → List Int
  | [] => []
  | x :: xs => ins x (isort xs)
theorem ins_perm (x : Int) : ∀ l, (ins x l).Perm (x :: l)
  | [] => .refl _
  | y :: ys => by
    unfold ins
    split
    · exact .refl _
    · exact ((ins_perm x ys).cons y).trans (.swap x y ys)
theorem isort_perm : ∀ l, (isort l).Perm l
  | [] => .refl _
  | x :: xs => (ins_perm x _).trans ((isort_perm xs).cons x)
theorem ins_sorted (x : Int) : ∀ {l : List Int}, l.Pairwise (· ≤ ·) → (ins x l).Pairwise (· ≤ ·)
  | [], _ => by simp [ins]
  | y :: ys, h => by
    rw [List.pairwise_cons] at h
    unfold ins
    split
    · rename_i hxy
      rw [List.pairwise_cons, List.pairwise_cons]
      exact ⟨fun z hz => by
        rcases List.mem_cons.1 hz with rfl | hz
        · exact hxy
        · exact Int.le_trans hxy (h.1 z hz), h⟩
    · rename_i hxy
      rw [List.pairwise_cons]
      refine ⟨fun z hz => ?_, ins_sorted x h.2⟩
      rcases List.mem_cons.1 ((ins_perm x ys).mem_iff.1 hz) with rfl | hz
      · omega
      · exact h.1 z hz
theorem isort_sorted : ∀ l, (isort l).Pairwise (· ≤ ·)
  | [] => .nil
  | x :: xs => ins_sorted x (isort_sorted xs)
theorem length_isort (l : List Int) : (isort l).length = l.length := (isort_perm l).length_eq
theorem isort_eq (l : List Int) : (l.mergeSort fun x y => decide (x ≤ y)) = isort l := by
  refine List.Perm.eq_of_pairwise (le := (· ≤ ·)) (fun a b _ _ h1 h2 => Int.le_antisymm h1 h2) ?_ (isort_sorted l) ((List.mergeSort_perm l _).trans (isort_perm l).symm)
  have := List.pairwise_mergeSort (le := fun x y : Int => decide (x ≤ y)) (fun a b c h1 h2 => by simp at *; omega) (fun a b => by simp; omega) l
  simpa using this

def dedG (p : Int) : List Int → List Int
  | [] => []
  | y :: ys => if y = p then dedG y ys else y :: dedG y ys
def dedup : List Int → List Int
  | [] => []
  | x :: xs => x :: dedG x xs
theorem dedG_snoc (y : Int) : ∀ (p : Int) (l : List Int), dedG p (l ++ [y]) = dedG p l ++ (if y = l.getLast?.getD p then [] else [y])
  | p, [] => by
    simp only [List.nil_append, dedG, List.getLast?_nil, Option.getD_none]
    by_cases h : y = p <;> simp [h]
  | p, z :: l => by
    have hl : (z :: l).getLast?.getD p = l.getLast?.getD z := by
      cases l with
      | nil => rfl
      | cons a l => simp [List.getLast?_cons_cons, List.getLast?_cons]
    rw [hl, List.cons_append]
    unfold dedG
    split
    · exact dedG_snoc y z l
    · rw [dedG_snoc y z l]; rfl
theorem dedup_snoc (y : Int) : ∀ l : List Int, dedup (l ++ [y]) = dedup l ++ (if l.getLast? = some y then [] else [y])
  | [] => by simp [dedup, dedG]
  | x :: xs => by
    have hl : (x :: xs).getLast? = some (xs.getLast?.getD x) := by
      cases xs with
      | nil => rfl
      | cons a l => simp [List.getLast?_cons_cons, List.getLast?_cons]
    rw [hl, List.cons_append, dedup, dedup, dedG_snoc]
    simp [eq_comm]
theorem dedup_take (zs : List Int) : ∀ m, m ≤ zs.length → Lib.compactUpTo zs.toArray m = dedup (zs.take m)
  | 0, _ => by simp [Lib.compactUpTo, dedup]
  | m + 1, hm => by
    have ih := dedup_take zs m (by omega)
    have hz : zs.take (m + 1) = zs.take m ++ [zs[m]] := by simp
    rw [hz, dedup_snoc, ← ih]
    have h1 : Lib.compactUpTo zs.toArray (m + 1) = Lib.compactUpTo zs.toArray m ++ (if Lib.keeps zs.toArray m then [zs.toArray[m]!] else []) := by
      unfold Lib.compactUpTo
      rw [List.range_succ, List.filter_append, List.map_append]
      congr 1
      by_cases hk : Lib.keeps zs.toArray m = true <;> simp [hk]
    rw [h1]
    congr 1
    have hg : zs.toArray[m]! = zs[m] := by simp [show m < zs.length by omega]
    rcases Nat.eq_zero_or_pos m with rfl | h0
    · simp [Lib.keeps, show 0 < zs.length by omega]
    · have hgl : (zs.take m).getLast? = some zs[m - 1] := by
        rw [List.getLast?_eq_getElem?, List.length_take, Nat.min_eq_left (by omega), List.getElem?_take_of_lt (by omega), List.getElem?_eq_getElem (by omega)]
      have hg1 : zs.toArray[m - 1]! = zs[m - 1] := by simp [show m - 1 < zs.length by omega]
      rw [hgl, hg]
      by_cases he : zs[m] = zs[m - 1]
      · rw [Lib.keeps_neg h0 (by rw [hg, hg1]; exact he)]
        simp [he]
      · rw [Lib.keeps_pos (by rw [hg, hg1]; exact he)]
        simp [fun h => he (Eq.symm h), Ne.symm he]
theorem dedup_eq (zs : List Int) : Lib.compact zs = dedup zs := by
  have := dedup_take zs zs.length (Nat.le_refl _)
  rwa [List.take_length] at this
theorem dedup_le (zs : List Int) : (dedup zs).length ≤ zs.length := by
  rw [← dedup_eq]
  exact Lib.compact_length_le zs

def sort? (l : List Int) : Option (List Int) := if l.length ≤ 10000000000 then some (isort l) else none
def ded? (l : List Int) : Option (List Int) := if l.length ≤ 10000000000 then some (dedup l) else none
def rev? {α : Type} (l : List α) : Option (List α) := if l.length ≤ 10000000000 then some l.reverse else none
theorem length_sort {l r : List Int} (h : sort? l = some r) : r.length = l.length := by
  unfold sort? at h
  split at h
  · cases h; exact length_isort l
  · cases h
theorem Call.narrow {P : Program} {f : FuncId} {args : List AVal} {H H1 H2 : List Ob} {h ver z m : Nat} {rows rows' : List (List Leaf)} (hc : Nx.Call P f args H fun r' H' => r' = .c (.sl h ver 0 m) ∧ H' = H1) (ho : obj H1 h ver = some (z, rows)) (hle : m ≤ rows.length) (hrows : rows.take m = rows') (hs : H1.set h (.live (ver + 1) z rows') = H2) :
    Nx.Call P f args H fun r' H' => r' = .c (.sl h (ver + 1) 0 m) ∧ H' = H2 := by
  subst hs
  refine ⟨hc.1, fun Γ hok args' ha => (hc.2 Γ hok args' ha).mono fun e w' ⟨y, r, Γ', H', he, ⟨hr, hH⟩, hw, hE, hok', hcv⟩ => ?_⟩
  subst hr hH
  obtain ⟨Γ2, k1, k2, k3, k4⟩ := narrow_ctx hok' (lo := 0) (by simpa only [concV] using hcv) ho (by omega) (by simpa using hrows)
  exact ⟨y, _, Γ2, _, he, ⟨rfl, rfl⟩, by rw [k1, hw], hE.trans k2, k3, by simpa only [concV] using k4⟩

section
variable {P : Program} {ρ : Ren} {f : FuncId} {H H1 : List Ob} {h ver : Nat} {xs ys : List Int}
theorem call_sort (L : Go.Proofs.Lays.n189 P ρ) (hf : ρ.f 189 = f) (hent : enters P f = true) (hx : sort? xs = some ys) (ho : H[h]? = some (.live ver 1 (xs.map rI))) (hs : SetAt (.live ver 1 (ys.map rI)) H h H1) :
    Nx.Call P f [.c (.sl h ver 0 xs.length)] H fun r' H' => r' = .tup [] ∧ H' = H1 := by
  subst hf
  have hl := length_sort hx
  unfold sort? at hx
  split at hx
  case isFalse => cases hx
  rename_i hb
  cases hx
  refine Call.turns hent ho hl hs.eq (fun _ blk off cap w hH hblk _ => ?_) (fun _ p cap w => Go.Proofs.Any.slices_Sort_int_none L p cap w)
  have := Go.Proofs.Any.slices_Sort_int L blk off cap xs w hH hblk (by omega)
  rwa [isort_eq] at this
theorem call_ded (L : Go.Proofs.Lays2.n20 P ρ) (hf : ρ.f 20 = f) (hent : enters P f = true) (hx : ded? xs = some ys) (ho : H[h]? = some (.live ver 1 (xs.map rI))) (hs : SetAt (.live (ver + 1) 1 (ys.map rI)) H h H1) :
    Nx.Call P f [.c (.sl h ver 0 xs.length)] H fun r' H' => r' = .c (.sl h (ver + 1) 0 ys.length) ∧ H' = H1 := by
  subst hf
  unfold ded? at hx
  split at hx
  case isFalse => cases hx
  rename_i hb
  cases hx
  have hd := dedup_le xs
  have hlt : h < H.length := (List.getElem?_eq_some_iff.1 ho).1
  have hc := Call.turnsCut (P := P) (f := ρ.f 20) (xs := xs) (ys := dedup xs ++ List.replicate (xs.length - (dedup xs).length) 0) (m := (dedup xs).length) hent ho (by simp; omega) hd rfl (fun _ blk off cap w hH hblk hcap => by
    refine (Go.Proofs.Any.slices_Compact_int L blk off cap xs w hH (by omega) hcap).mono fun e w' ⟨he, q, hw⟩ => ?_
    rw [dedup_eq] at he hw
    exact ⟨he, q, #[], by rw [hw, grow_empty]⟩) (fun _ p cap w => by
    have := Go.Proofs.Any.slices_Compact_int_empty L p cap w
    exact this)
  refine Call.narrow (z := 1) (rows' := (dedup xs).map rI) hc (obj_of (by rw [List.getElem?_set_self hlt])) (by simp) ?_ (by rw [List.set_set]; exact hs.eq)
  rw [List.map_append, List.take_left' (by simp)]
end
end Go.Nx
/- A piece of code that may be left in any way; a callee that hands back an array of its own, while it reads arrays that are lent to it. -/
namespace Go.Nx
set_option linter.unusedVariables false
set_option linter.unusedSimpArgs false
section
variable {F : Fr} {Q : Exit → St → Prop} {S : St}
abbrev Exit.frG (I J : St → Prop) (X G : Nat → St → Prop) : Exit → St → Prop
  | .normal, S => I S
  | .ret, S => J S
  | .exit k, S => X k S
  | .goto l, S => G l S
  | _, _ => False
end

/-- Rows of plain numbers and the like. -/
def flR (rows : List (List Leaf)) : Bool := rows.all fun r => r.all fun | .v _ => true | _ => false
instance fix_bw {H : List Ob} : Fix (bwL H) := ⟨fun _ _ => rfl, fun _ => rfl, fun _ => rfl⟩

/-- Two heaps that are alike but at what may be turned. -/
inductive AgL (W : List Nat) : Nat → List Ob → List Ob → Prop
  | nil {i} : AgL W i [] []
  | same {i o H H'} (h : AgL W (i + 1) H H') : AgL W i (o :: H) (o :: H')
  | turn {i o o' H H'} (hw : W.contains i = true) (h : AgL W (i + 1) H H') : AgL W i (o :: H) (o' :: H')
  | more {i o' H'} (hw : W.contains i = true) (h : AgL W (i + 1) [] H') : AgL W i [] (o' :: H')
theorem AgL.at {W : List Nat} {i : Nat} {H H' : List Ob} (h : AgL W i H H') : ∀ k, W.contains (i + k) = false → H'[k]? = H[k]? := by
  induction h with
  | nil => intro k _; rfl
  | same h ih =>
    intro k hk
    cases k with
    | zero => rfl
    | succ k => simpa using ih k (by rw [Nat.add_assoc, Nat.add_comm 1 k]; exact hk)
  | turn hw h ih =>
    intro k hk
    cases k with
    | zero => rw [Nat.add_zero, hw] at hk; cases hk
    | succ k => simpa using ih k (by rw [Nat.add_assoc, Nat.add_comm 1 k]; exact hk)
  | more hw h ih =>
    intro k hk
    cases k with
    | zero => rw [Nat.add_zero, hw] at hk; cases hk
    | succ k => simpa using ih k (by rw [Nat.add_assoc, Nat.add_comm 1 k]; exact hk)
theorem AgL.agree {W : List Nat} {H H' : List Ob} (h : AgL W 0 H H') : Agree W H H' := fun n ver hn => by
  unfold obj
  rw [h.at n (by simpa using hn)]
theorem Frz.of_weak {P : Program} {x0 x : AVal} {H0 H' : List Ob} (h : ∀ Γ, St.Weak ⟨P, 1, Γ⟩ ⟨[(0, x0)], H0⟩ ⟨[(0, x)], H'⟩) : Frz x0 H0 x H' := fun Γ y hk hc => by
  obtain ⟨_, _, Γ', h1, h2, h3, h4⟩ := h Γ ⟨#[y], []⟩ Γ.w ⟨rfl, rfl, Γ, rfl, .refl Γ, hk, fun t z hz => by
    simp only [Env.get] at hz
    split at hz
    · rename_i ht
      subst ht
      cases hz
      exact ⟨y, rfl, hc⟩
    · cases hz⟩
  obtain ⟨y', g1, g2⟩ := h4 0 x rfl
  cases g1
  exact ⟨Γ', h1, h2, h3, g2⟩
section
variable {P : Program} {W : WW} {os : List Oper} {gs : List (List (Nat × Bool))} {ex : List Bool} {e : Env} {H H1 : List Ob} {ty : TypeId} {pos : String} {after : Array Edge} {guard : Option (Nat × Bool)} {K : Env → List Ob → Prop} {x : AVal} {d : Option Nat}
/-- A call, in a drawn region, that turns the heap. -/
theorem RunR.turn {c : FuncId} {args : Array Operand} {ts : Array TypeId} {vs : List AVal}
    (ha : actE e (gs.headD []) = some true) (hx : ex.headD false = false) (how : W.ow.contains c = true) (has : allV (args.toList.map (evO e)) = some vs) (hag : AgL W.hs 0 H H1)
    (hc : Nx.Call P c vs H fun r' H' => r' = x ∧ H' = H1) (hr : RunR P (some W) os gs.tail ex.tail (putE e d x) H1 K) : RunR P (some W) (⟨d, .call { callee := .value (.func c), args := args, argTypes := ts }, ty, pos, after, guard⟩ :: os) gs ex e H K := by
  obtain ⟨e', H', hr1, hr2⟩ := hr
  exact ⟨e', H', .cons (b := true) (x := x) (H1 := H1) ⟨ha, .inr (.inr (.inr (.inl ⟨rfl, hx, c, args, ts, vs, rfl, how, has, fun W0 hW => by cases hW; exact hag.agree, hc⟩)))⟩ hr1, hr2⟩
/-- What an operation has made is only read from there on. -/
theorem RunR.frz {op : Op} {t : Nat} {x0 : AVal} {H0 : List Ob} (h : RunR P (some W) [⟨some t, op, ty, pos, after, guard⟩] gs ex e H fun e' H' => e' = (t, x0) :: e ∧ H' = H0) (ha : actE e (gs.headD []) = some true) (hc : isCall op = false) (hf : fixed op = true) (hw : wOk (some W) (ex.headD false) e H op = true)
    (hz : Frz x0 H0 x H1) (hag : AgL W.hs 0 H H1) (hr : RunR P (some W) os gs.tail ex.tail ((t, x) :: e) H1 K) : RunR P (some W) (⟨some t, op, ty, pos, after, guard⟩ :: os) gs ex e H K := by
  obtain ⟨e', H', hr1, hr2⟩ := hr
  obtain ⟨e2, H2, hs, rfl, rfl⟩ := h
  have key : SemO P e H op x0 H2 := by
    cases hs with
    | @cons _ _ _ _ _ _ b x' H1' _ _ hstep hrest =>
      cases hrest
      obtain ⟨hact, hs⟩ := hstep
      rw [ha] at hact
      cases hact
      rcases hs with ⟨hb, _⟩ | ⟨f, args, ts, c, caps, vs, hop, _⟩ | ⟨_, _, hg⟩ | ⟨_, _, c, args, ts, vs, hop, _⟩ | ⟨_, _, _, _, h1, _⟩
      · cases hb
      · rw [show op = _ from hop] at hc; cases hc
      · unfold gE at hg
        split at hg
        · rename_i y Hy hst
          simp only [cond_true, Option.some.injEq, Prod.mk.injEq] at hg
          obtain ⟨rfl, rfl⟩ := hg
          exact .of_stp (fixed_pick hf) hst (.refl _ _)
        · simp at hg
      · rw [show op = _ from hop] at hc; cases hc
      · exact h1
  exact ⟨e', H', .cons (b := true) (x := x) (H1 := H1) ⟨ha, .inr (.inr (.inr (.inr ⟨rfl, hc, hf, hw, key.frz hz, fun W0 hW => by cases hW; exact hag.agree⟩)))⟩ hr1, hr2⟩
end

theorem Call.nz {P : Program} {f : FuncId} {vs vs' : List AVal} {H : List Ob} {K : AVal → List Ob → Prop} (he : mpVs nzL vs = vs') (h : Nx.Call P f vs' H K) : Nx.Call P f vs H K := by
  subst he
  exact Call.args (fun Γ ys hc => concVs_mp (g := nzL) (Γ' := Γ) (fun l y => nzL_sound Γ l y) vs ys hc) h

theorem Call.trimE {α : Type} {P : Program} {f : FuncId} {args : List AVal} {H : List Ob} {R : α → AVal} {G : α → List Ob} (hl : ∀ u, H.length ≤ (G u).length) (hr : ∀ u, mvV (G u).length (R u) = true) (hH : ∀ u, (G u).all (mvO (G u).length) = true)
    (h : Nx.Call P f args H fun r' H' => ∃ u, r' = R u ∧ ∃ junk, H' = G u ++ junk) : Nx.Call P f args H fun r' H' => ∃ u, r' = R u ∧ H' = G u := by
  refine ⟨h.1, fun Γ hok args' hc => (h.2 Γ hok args' hc).mono fun e w' he => ?_⟩
  obtain ⟨y, r', Γ', H', rfl, ⟨u, rfl, junk, rfl⟩, rfl, hext, hok', hcv⟩ := he
  obtain ⟨d, sz, Γ1, e1, e2, e3, e4⟩ := drop_sat (N := 1) (Γ0 := Γ) (e := [(0, R u)]) (J := junk) (a := { tmps := #[y], defers := [] }) (w := Γ'.w) rfl (by rw [← hok.len]; exact hl u) (by simpa using hr u) (hH u)
    ⟨rfl, rfl, Γ', rfl, hext, hok', fun t x hx => by
      simp only [Env.get] at hx
      split at hx
      · rename_i ht
        subst ht
        cases hx
        exact ⟨y, rfl, hcv⟩
      · cases hx⟩
  obtain ⟨y', g1, g2⟩ := e4 0 (R u) rfl
  simp at g1
  subst g1
  exact ⟨y, R u, Γ1, G u, rfl, ⟨u, rfl, rfl⟩, e1, e2, e3, g2⟩

/-! Division by what is no literal. -/
def rem? (a b : Int) : Option Int := if b = 0 then none else some (a.tmod b)
def quo? (k : IntKind) (a b : Int) : Option Int := if b = 0 then none else some (k.wrap (a.tdiv b))
end Go.Nx
/- A variable array, read at any place. -/
namespace Go.Nx
set_option linter.unusedVariables false
set_option linter.unusedSimpArgs false
section
variable {F : Fr} {Q : Exit → St → Prop} {S S1 : St}
/-- Where the code ends what is known may be known less well. -/
abbrev Exit.endw (F : Fr) (Q : Exit → St → Prop) : Exit → St → Prop
  | .normal, S => ∃ S', S.Weak F S' ∧ Q .normal S'
  | .ret, S => Q .ret S
  | .exit k, S => Q (.exit k) S
  | .goto l, S => Q (.goto l) S
  | e, S => Q e S
theorem Endw.step {Q : St → Prop} (hw : S.Weak F S1) (h : ∃ S', S1.Weak F S' ∧ Q S') : ∃ S', S.Weak F S' ∧ Q S' := by
  obtain ⟨S', h1, h2⟩ := h; exact ⟨S', hw.trans h1, h2⟩
theorem Endw.done {Q : St → Prop} (h : Q S) : ∃ S', S.Weak F S' ∧ Q S' := ⟨S, .refl, h⟩
end
section
variable {P : Program} {N : Nat} {Γ0 : Ctx} {A os : List Oper} {e : Env} {H H1 : List Ob} {ty : TypeId} {pos : String} {after : Array Edge} {t : Nat} {K : Env → List Ob → Prop}
end
section
variable {P : Program} {W : Option WW} {os : List Oper} {gs : List (List (Nat × Bool))} {ex : List Bool} {e : Env} {H H1 : List Ob} {ty : TypeId} {pos : String} {after : Array Edge} {guard : Option (Nat × Bool)} {t : Nat} {b : Bool} {K : Env → List Ob → Prop}
end
end Go.Nx
/- An append that fits, told as a copy; a piece taken beyond a piece's end. -/
namespace Go.Nx
set_option linter.unusedVariables false
set_option linter.unusedSimpArgs false
theorem segRows_none {rows : List (List Leaf)} {lo : Nat} (h : lo ≤ rows.length) : segRows rows lo [] = rows := by
  simp [segRows]
theorem appendIn_sound {P : Program} {Γ : Ctx} {H : List Ob} (hok : HeapOk Γ H) {t ty e size bytes : TypeId} {z : List Leaf} {h ver lo len : Nat} {rows new : List (List Leaf)} {x : Leaf} {ys yx : Value} (hse : se P t = some (e, size, bytes, z)) (hs : conc Γ (.sl h ver lo len) ys) (hx : conc Γ x yx) (hview : view H x = some new)
    (hnl : ∀ r ∈ new, r.length = size) (ho : obj H h ver = some (size, rows)) (hroom : lo + len + new.length ≤ rows.length) :
    ∃ y Γ', (Builtin.append_ #[t, t] ty #[ys, yx]).run P Γ.w = .ok y Γ'.w ∧ Γ.Ext Γ' ∧ HeapOk Γ' (H.set h (.live ver size (segRows rows (lo + len) new))) ∧ concV Γ' (.c (.sl h ver lo (len + new.length))) y := by
  obtain ⟨ht, i, zv, hi, hsize, rfl, hz, hzs, hzl⟩ := se_spec hse
  obtain ⟨news, hcn, hnews, hsrc⟩ := source_spec hnl (view_spec hok hx hview)
  have hS : Src Γ.w new.length news yx := Src.of hnews hsrc
  obtain ⟨g1, g2⟩ := run_appended (P := P) hS hnews
  have g3 := g2 Γ.w rfl
  simp only [conc] at hs
  obtain ⟨inf, ver2, a, cap, hin, hle, rfl, hv⟩ := hs
  obtain ⟨i2, k1, hcap, k2⟩ := hok.obj ho
  rw [hin] at k1
  cases k1
  have hv := hv rfl
  rcases hv with ⟨hbase, rfl, rfl, rfl, rfl⟩ | ⟨b, a', hbase, rfl, rfl, hlc, ha⟩
  · simp only [hbase] at k2
    subst k2
    have hne : new = [] := List.eq_nil_of_length_eq_zero (by simpa using hroom)
    subst hne
    have hn0 : news = [] := List.eq_nil_of_length_eq_zero (by simpa using hnews)
    subst hn0
    refine ⟨.slice none 0 0, Γ, ?_, .refl Γ, ?_, ?_⟩
    · simp at g1 g3
      simp [Builtin.append_, run_underlying ht, sizeOf, typeInfo, hi, hsize, g1, g3]
    · rw [segRows_none (by simp), set_same (obj_some ho)]
      exact hok
    · simp only [concV, conc]
      exact ⟨inf, _, none, 0, hin, Nat.le_refl _, by simp, fun _ => .inl (by simp [hbase])⟩
  · simp only [hbase] at k2
    obtain ⟨hzz, hX, hF, hrc, hisz, cells, T, hh, hcs, hrows⟩ := k2
    have hfit : len + new.length ≤ inf.cap - lo := by omega
    have hres : ∀ Γ' : Ctx, Γ.Ext Γ' → concV Γ' (.c (.sl h ver lo (len + new.length))) (.slice (some a') (len + new.length) (inf.cap - lo)) := by
      intro Γ' hext
      refine concV_mono hext.le _ _ ?_
      simp only [concV, conc]
      exact ⟨inf, _, some a', inf.cap - lo, hin, Nat.le_refl _, rfl, fun _ => .inr ⟨b, a', hbase, rfl, rfl, by omega, ha⟩⟩
    by_cases hm0 : new.length = 0
    · have hne : new = [] := List.eq_nil_of_length_eq_zero hm0
      subst hne
      have hn0 : news = [] := List.eq_nil_of_length_eq_zero (by simpa using hnews)
      subst hn0
      refine ⟨_, Γ, ?_, .refl Γ, ?_, hres Γ (.refl Γ)⟩
      · simp at g1 g3 hfit
        simp [Builtin.append_, run_underlying ht, sizeOf, typeInfo, hi, hsize, g1, g3, hfit, storeCells]
      · rw [segRows_none (by simp at hroom; omega), set_same (obj_some ho)]
        exact hok
    · have ha := ha (by omega)
      subst ha
      obtain ⟨Γ', e1, e2, e3⟩ := seg_sound (P := P) (lo := lo + len) hok ho hin hbase (new := new) hroom hnl hcn
      refine ⟨_, Γ', ?_, e2, e3, hres Γ' e2⟩
      have e4 : inf.off + lo * inf.sz + len * size = inf.off + (lo + len) * inf.sz := by rw [← hzz, Nat.add_mul, Nat.add_assoc]
      simp [Builtin.append_, run_underlying ht, sizeOf, typeInfo, hi, hsize, g1, g3, hfit, add_off, e4, e1]

/-- A piece with both bounds, told by the capacity. -/
theorem slice_run2 {P : Program} {w : World} {t e : TypeId} {size : Nat} (ht : P.underlying t = some (.slice e)) (hs : (sizeOf e).run P w = .ok size w) (a : Option Addr) (n cap : Nat) (k k' : IntKind) (l h : Int) (h0 : 0 ≤ l) (h1 : l ≤ h) (h2 : h ≤ cap) :
    (Instr.sliceAt t (.slice a n cap) (some (.int k l)) (some (.int k' h)) none).run P w = .ok (.slice (if cap = l.toNat then a else a.map (·.add (l.toNat * size))) (h.toNat - l.toNat) (cap - l.toNat)) w := by
  have e1 : ((h.toNat : Nat) : Int) = h := by omega
  have hb' := sliceBound_run (P := P) (w := w) k' h cap .sliceAcap (by omega) (by omega)
  have hb := sliceBound_run (P := P) (w := w) k l h.toNat .sliceB h0 (by omega)
  simp [Instr.sliceAt, run_underlying ht, Instr.slice, Instr.sliceBounds, hs, hb, hb']
/-- A piece with three bounds. -/
theorem slice_run3 {P : Program} {w : World} {t e : TypeId} {size : Nat} (ht : P.underlying t = some (.slice e)) (hs : (sizeOf e).run P w = .ok size w) (a : Option Addr) (n cap : Nat) (k k' k'' : IntKind) (l h m : Int) (h0 : 0 ≤ l) (h1 : l ≤ h) (h2 : h ≤ m) (h3 : m ≤ cap) :
    ∃ y, (Instr.sliceAt t (.slice a n cap) (some (.int k l)) (some (.int k' h)) (some (.int k'' m))).run P w = .ok y w := by
  have e1 : ((h.toNat : Nat) : Int) = h := by omega
  have e2 : ((m.toNat : Nat) : Int) = m := by omega
  have hb'' := sliceBound_run (P := P) (w := w) k'' m cap .slice3Acap (by omega) (by omega)
  have hb' := sliceBound_run (P := P) (w := w) k' h m.toNat .slice3B (by omega) (by omega)
  have hb := sliceBound_run (P := P) (w := w) k l h.toNat .slice3C h0 (by omega)
  exact ⟨_, by simp [Instr.sliceAt, run_underlying ht, Instr.slice, Instr.sliceBounds, hs, hb, hb', hb'']; rfl⟩
theorem sliceB_sound {P : Program} {Γ : Ctx} {H : List Ob} (hok : HeapOk Γ H) {t e size : Nat} {rest : Nat × List Leaf} {h ver lo0 len : Nat} {rows : List (List Leaf)} {y : Value} (hse : se P t = some (e, size, rest)) (hc : conc Γ (.sl h ver lo0 len) y) (ho : obj H h ver = some (size, rows)) (k k' : IntKind) (l m : Int) (h0 : 0 ≤ l) (h1 : l ≤ m) (h2 : (lo0 : Int) + m ≤ rows.length) :
    ∃ z, (Instr.sliceAt t y (some (.int k l)) (some (.int k' m)) none).run P Γ.w = .ok z Γ.w ∧ conc Γ (.sl h ver (lo0 + l.toNat) (m.toNat - l.toNat)) z := by
  obtain ⟨bytes, zz⟩ := rest
  obtain ⟨ht, i, zv, hi, rfl, _, _, _, _⟩ := se_spec hse
  have hs : (sizeOf e).run P Γ.w = .ok i.size Γ.w := by simp [sizeOf, typeInfo, hi]
  obtain ⟨inf, k1, hm, k2⟩ := hok.obj ho
  simp only [conc] at hc
  obtain ⟨inf', ver', a, cap, g1, _, rfl, g3⟩ := hc
  rw [k1] at g1
  cases g1
  rcases g3 rfl with ⟨hb0, rfl, rfl, rfl, rfl⟩ | ⟨b, a', hb0, rfl, rfl, hlc, ha⟩
  · simp only [hb0] at k2
    subst k2
    simp at h2
    have e1 : l = 0 := by omega
    have e2 : m = 0 := by omega
    subst e1 e2
    refine ⟨_, slice_run2 (P := P) (w := Γ.w) ht hs none 0 0 k k' 0 0 (by omega) (by omega) (by omega), ?_⟩
    simp only [conc]
    exact ⟨inf, ver, none, 0, k1, Nat.le_refl _, by simp, fun _ => .inl (by simp [hb0])⟩
  · simp only [hb0] at k2
    have hsz : inf.sz = i.size := k2.1
    have hrc : rows.length ≤ inf.cap := k2.2.2.2.1
    refine ⟨_, slice_run2 (P := P) (w := Γ.w) ht hs (some a') len (inf.cap - lo0) k k' l m h0 h1 (by omega), ?_⟩
    simp only [conc]
    refine ⟨inf, ver, _, _, k1, Nat.le_refl _, rfl, fun _ => .inr ⟨b, if inf.cap - lo0 = l.toNat then a' else a'.add (l.toNat * i.size), hb0, by split <;> rfl, by omega, by omega, fun hlt => ?_⟩⟩
    rw [if_neg (by omega), ha (by omega), add_off, hsz, Nat.add_mul, Nat.add_assoc]

theorem SemO.appendIn {P : Program} {e : Env} {H H1 : List Ob} {α : Type} {ts : TypeId} {y z : Operand} {el size by' h ver lo len : Nat} {z0 : List Leaf} {l : Leaf} (f : α → List Leaf) (xs ys : List α) (ht : se P ts = some (el, size, by', z0)) (hy : evO e y = some (.c (.sl h ver lo len))) (ho : obj H h ver = some (size, xs.map f)) (hz : evO e z = some (.c l)) (hv : view H l = some (ys.map f)) (hf : ∀ x, (f x).length = size) (hroom : lo + len + ys.length ≤ xs.length)
    (hs : SetAt (.live ver size ((cpy xs (lo + len) ys.length ys).map f)) H h H1) : SemO P e H (.call { callee := .builtin .append, args := #[y, z], argTypes := #[ts, ts] }) (.c (.sl h ver lo (len + ys.length))) H1 := by
  refine ⟨fun c y z h => (by cases h), fun Γ a o hop hok hg => ?_⟩
  obtain ⟨dst, op, ty, pos, after, guard⟩ := o
  simp only at hop
  subst hop
  have h1 := hg y (by simp [Op.operands, Call.operands]) _ hy
  have h2 := hg z (by simp [Op.operands, Call.operands]) _ hz
  simp only [concV] at h1 h2
  obtain ⟨v, Γ', g1, g2, g3, g4⟩ := appendIn_sound (P := P) (ty := ty) hok ht h1 h2 hv (by
    intro r hr
    obtain ⟨x, _, rfl⟩ := List.mem_map.1 hr
    exact hf x) ho (by simpa using hroom)
  refine ⟨v, Γ', .inl (by simp [execOp, resolve, invoke, builtin, g1]), g2, ?_, by simpa using g4⟩
  rw [← hs.eq]
  have e1 : (cpy xs (lo + len) ys.length ys).map f = segRows (xs.map f) (lo + len) (ys.map f) := by
    simp [cpy, segRows, List.map_take, List.map_drop]
  rw [e1]
  exact g3
theorem SemO.sliceB {P : Program} {e : Env} {H : List Ob} {α : Type} {ts : TypeId} {y p q : Operand} {el size h ver lo len : Nat} {rest : Nat × List Leaf} {k k' : IntKind} {m n : Int} {xs : List α} {f : α → List Leaf} (ht : se P ts = some (el, size, rest)) (hy : evO e y = some (.c (.sl h ver lo len))) (ho : obj H h ver = some (size, xs.map f)) (hp : evO e p = some (.c (.v (.int k m)))) (hq : evO e q = some (.c (.v (.int k' n)))) (h0 : 0 ≤ m ∧ m ≤ n ∧ (lo : Int) + n ≤ xs.length) : SemO P e H (.slice ts y (some p) (some q) none) (.c (.sl h ver (lo + m.toNat) (n.toNat - m.toNat))) H := by
  refine ⟨fun c y z h => (by cases h), fun Γ a o hop hok hg => ?_⟩
  obtain ⟨dst, op, ty, pos, after, guard⟩ := o
  simp only at hop
  subst hop
  have h1 := hg y (by simp [Op.operands]) _ hy
  have h2 := hg p (by simp [Op.operands]) _ hp
  have h3 := hg q (by simp [Op.operands]) _ hq
  simp only [concV, conc] at h2 h3
  have h1 : conc Γ (.sl h ver lo len) (a.eval y) := by simpa only [concV] using h1
  obtain ⟨v, g1, g2⟩ := sliceB_sound (P := P) hok ht h1 ho k k' m n h0.1 h0.2.1 (by simpa using h0.2.2)
  exact .val hok (y := v) (by simp [execOp, h2.1, h3.1, g1]) (by simpa only [concV] using g2)
section
variable {P : Program} {W : WW} {os : List Oper} {gs : List (List (Nat × Bool))} {ex : List Bool} {e : Env} {H H1 : List Ob} {ty : TypeId} {pos : String} {after : Array Edge} {guard : Option (Nat × Bool)} {K : Env → List Ob → Prop} {x : AVal} {d : Option Nat}
theorem RunR.sem {op : Op} (ha : actE e (gs.headD []) = some true) (hw : wOk (some W) (ex.headD false) e H op = true) (hc : isCall op = false) (hf : fixed op = true) (hag : AgL W.hs 0 H H1) (hs : SemO P e H op x H1) (hr : RunR P (some W) os gs.tail ex.tail (putE e d x) H1 K) : RunR P (some W) (⟨d, op, ty, pos, after, guard⟩ :: os) gs ex e H K := by
  obtain ⟨e', H', hr1, hr2⟩ := hr
  exact ⟨e', H', .cons (b := true) (x := x) (H1 := H1) ⟨ha, .inr (.inr (.inr (.inr ⟨rfl, hc, hf, hw, hs, fun W0 hW => by cases hW; exact hag.agree⟩)))⟩ hr1, hr2⟩
end
section
variable {P : Program} {N : Nat} {Γ0 : Ctx} {A os : List Oper} {e : Env} {H H1 : List Ob} {ty : TypeId} {pos : String} {after : Array Edge} {t : Nat} {d : Option Nat} {x : AVal} {K : Env → List Ob → Prop} {op : Op}
theorem TextR.sem (hs : SemO P e H op x H1) (hr : TextR P N Γ0 A os (putE e d x) H1 K) : TextR P N Γ0 A (⟨d, op, ty, pos, after, none⟩ :: os) e H K := by
  intro ops Q hA hd hQ i hl a w hsat
  obtain ⟨hi, hl', hmem⟩ := drop_next hl
  rw [List.length_cons, List.range'_succ, wpOps_cons]
  obtain ⟨df, sz, Γ, rfl, hext, hok, henv⟩ := hsat
  unfold wpOp
  simp only [hi]
  have hg0 : wantE A e (⟨d, op, ty, pos, after, none⟩ : Oper).guard = some true := rfl
  rw [wanted_eq hA henv hg0, if_pos rfl]
  left
  obtain ⟨y, Γ', hr', hext', hok', hcv⟩ := hs.2 Γ a ⟨d, op, ty, pos, after, none⟩ rfl hok (fun p _ => good_env henv p)
  have hnx := hr ops Q hA hd hQ (i + 1) hl' (a.put d y) Γ'.w ⟨by rw [put_defers]; exact df, by rw [put_size]; exact sz, Γ', rfl, hext.trans hext', hok', put_sat sz henv hext'.le (hd _ hmem) hcv⟩
  unfold Oper.wp
  rcases hr' with hr' | ⟨hr', rfl⟩
  · rw [hr', Oper.upon_value]; exact hnx
  · rw [hr', Oper.upon_skip]; exact hnx
/-- An operation whose result nobody asks for. -/
theorem TextR.void (hn : e.get t = none) (hs : ∀ (Γ : Ctx) (a : Act) (o : Oper), o.op = op → HeapOk Γ H → (∀ p ∈ op.operands, Good Γ e a p) → ∃ y, (execOp a.eval o).run P Γ.w = .ok (.value y) Γ.w) (hr : TextR P N Γ0 A os e H K) : TextR P N Γ0 A (⟨some t, op, ty, pos, after, none⟩ :: os) e H K := by
  intro ops Q hA hd hQ i hl a w hsat
  obtain ⟨hi, hl', hmem⟩ := drop_next hl
  rw [List.length_cons, List.range'_succ, wpOps_cons]
  obtain ⟨df, sz, Γ, rfl, hext, hok, henv⟩ := hsat
  unfold wpOp
  simp only [hi]
  have hg0 : wantE A e (⟨some t, op, ty, pos, after, none⟩ : Oper).guard = some true := rfl
  rw [wanted_eq hA henv hg0, if_pos rfl]
  left
  obtain ⟨y, hr'⟩ := hs Γ a ⟨some t, op, ty, pos, after, none⟩ rfl hok (fun p _ => good_env henv p)
  have hnx := hr ops Q hA hd hQ (i + 1) hl' (a.put (some t) y) Γ.w ⟨by rw [put_defers]; exact df, by rw [put_size]; exact sz, Γ, rfl, hext, hok, fun t' z hz => by
    have hne : some t ≠ some t' := fun h => by cases h; rw [hn] at hz; cases hz
    obtain ⟨v, h1, h2⟩ := henv t' z hz
    exact ⟨v, by rw [put_get hne]; exact h1, h2⟩⟩
  unfold Oper.wp
  rw [hr', Oper.upon_value]; exact hnx
theorem TextR.slice3 {α : Type} {ts : TypeId} {y p q r : Operand} {el size h ver lo len : Nat} {rest : Nat × List Leaf} {k k' k'' : IntKind} {m n u : Int} {xs : List α} {f : α → List Leaf} (hn : e.get t = none) (ht : se P ts = some (el, size, rest)) (hy : evO e y = some (.c (.sl h ver lo len))) (ho : obj H h ver = some (size, xs.map f)) (hp : evO e p = some (.c (.v (.int k m)))) (hq : evO e q = some (.c (.v (.int k' n)))) (hr0 : evO e r = some (.c (.v (.int k'' u)))) (h0 : 0 ≤ m ∧ m ≤ n ∧ n ≤ u ∧ (lo : Int) + u ≤ xs.length) (hr : TextR P N Γ0 A os e H K) : TextR P N Γ0 A (⟨some t, .slice ts y (some p) (some q) (some r), ty, pos, after, none⟩ :: os) e H K :=
  .void hn (fun Γ a o hop hok hg => by
    obtain ⟨dst, op, ty, pos, after, guard⟩ := o
    simp only at hop
    subst hop
    have h1 := hg y (by simp [Op.operands]) _ hy
    have h2 := hg p (by simp [Op.operands]) _ hp
    have h3 := hg q (by simp [Op.operands]) _ hq
    have h4 := hg r (by simp [Op.operands]) _ hr0
    simp only [concV, conc] at h1 h2 h3 h4
    obtain ⟨bytes, zz⟩ := rest
    obtain ⟨htt, i, zv, hi, rfl, _, _, _, _⟩ := se_spec ht
    have hs : (sizeOf el).run P Γ.w = .ok i.size Γ.w := by simp [sizeOf, typeInfo, hi]
    obtain ⟨inf, k1, hm, k2⟩ := hok.obj ho
    obtain ⟨inf', ver', a', cap, g1, _, g2, g3⟩ := h1
    rw [k1] at g1
    cases g1
    have hcap : u ≤ cap := by
      rcases g3 rfl with ⟨hb0, rfl, rfl, rfl, rfl⟩ | ⟨b, a'', hb0, rfl, rfl, hlc, ha⟩
      · simp only [hb0] at k2
        have : xs = [] := by simpa using k2
        subst this
        simp at h0
        omega
      · simp only [hb0] at k2
        have hrc := k2.2.2.2.1
        simp at hrc
        omega
    obtain ⟨v, hv⟩ := slice_run3 (P := P) (w := Γ.w) htt hs a' len cap k k' k'' m n u h0.1 h0.2.1 h0.2.2.1 hcap
    exact ⟨v, by simp [execOp, h2.1, h3.1, h4.1, g2, hv]⟩) hr
end
/-- Bounds of a piece with a capacity; of a piece beyond a piece's end. -/
def sub3? (len : Nat) (m n u : Int) : Option Unit := if 0 ≤ m ∧ m ≤ n ∧ n ≤ u ∧ u ≤ (len : Int) then some () else none
def subB? (len lo : Nat) (m n : Int) : Option Unit := if 0 ≤ m ∧ m ≤ n ∧ (lo : Int) + n ≤ (len : Int) then some () else none
theorem sub3_ok {len : Nat} {m n u : Int} {w : Unit} (h : sub3? len m n u = some w) : 0 ≤ m ∧ m ≤ n ∧ n ≤ u ∧ ((0 : Nat) : Int) + u ≤ (len : Int) := by
  unfold sub3? at h
  split at h
  · omega
  · cases h
theorem subB_ok {len lo : Nat} {m n : Int} {w : Unit} (h : subB? len lo m n = some w) : 0 ≤ m ∧ m ≤ n ∧ (lo : Int) + n ≤ (len : Int) := by
  unfold subB? at h
  split at h
  · assumption
  · cases h
theorem subB_le {len lo : Nat} {m n : Int} {w : Unit} (h : subB? len lo m n = some w) : lo + m.toNat + (n.toNat - m.toNat) ≤ len := by
  have := subB_ok h
  omega
theorem sub_is {α : Type} {xs ys : List α} {lo hi : Int} (h : sub? xs lo hi = some ys) : ys.length = hi.toNat - lo.toNat := by
  obtain ⟨h1, h2, h3, rfl⟩ := sub_len h
  simp
  omega
theorem del_room {α : Type} {xs x1 x2 : List α} {i j u : Int} {w : Unit} (h : sub3? xs.length i j u = some w) (h1 : sub? xs 0 i = some x1) (h2 : sub? xs j (xs.length : Int) = some x2) : 0 + x1.length + x2.length ≤ xs.length := by
  have a := sub3_ok h
  have b := sub_is h1
  have c := sub_is h2
  omega
end Go.Nx
/- A piece made nought, of rows that hold a slice. -/
namespace Go.Nx
set_option linter.unusedVariables false
set_option linter.unusedSimpArgs false
theorem mpH_ok {g : Leaf → Leaf} (hg : ∀ Γ l y, conc Γ l y → conc Γ (g l) y) {Γ : Ctx} {H H1 : List Ob} {h : Nat} {o : Ob} (ho : H[h]? = some o) (hs : H.set h (mpO g o) = H1) (hok : HeapOk Γ H) : HeapOk Γ H1 := by
  rw [← hs]
  have hget : ∀ (n : Nat) (o1 : Ob), (H.set h (mpO g o))[n]? = some o1 → o1 = mpO g o ∧ n = h ∨ H[n]? = some o1 := by
    intro n o1 hn
    rw [List.getElem?_set] at hn
    split at hn
    · rename_i he
      subst he
      split at hn
      · cases hn; exact .inl ⟨rfl, rfl⟩
      · cases hn
    · exact .inr hn
  have hlive : ∀ (n v z : Nat) (r : List (List Leaf)), (H.set h (mpO g o))[n]? = some (Ob.live v z r) → ∃ r', H[n]? = some (Ob.live v z r') := by
    intro n v z r hn
    rcases hget n _ hn with ⟨h1, rfl⟩ | h1
    · obtain ⟨q, rfl⟩ := mpO_live h1.symm
      exact ⟨q, ho⟩
    · exact ⟨r, h1⟩
  refine ⟨by simp [hok.len], fun n o1 hn => ?_, fun n n' v v' z1 z2 r r' i1 i2 b h1 h2 h3 h4 h5 h6 => ?_, hok.F, hok.X⟩
  · rcases hget n o1 hn with ⟨rfl, rfl⟩ | h1
    · exact ObOk.mp (Γ := Γ) (Γ' := Γ) rfl (hg Γ) (fun _ _ _ _ => rfl) (fun v z' r i b e1 e2 e3 e4 e5 => ⟨e5, e4⟩) (hok.ob n o ho)
    · exact hok.ob n o1 h1
  · obtain ⟨q1, g1⟩ := hlive _ _ _ _ h1
    obtain ⟨q2, g2⟩ := hlive _ _ _ _ h2
    exact hok.apart n n' v v' z1 z2 q1 q2 i1 i2 b g1 g2 h3 h4 h5 h6
theorem SemO.clearZ {P : Program} {e : Env} {H H1 : List Ob} {α : Type} {ts : TypeId} {y : Operand} {el size by' h ver lo len : Nat} {z0 : List Leaf} (f : α → List Leaf) (xs : List α) (z : α) (ht : se P ts = some (el, size, by', z0)) (hy : evO e y = some (.c (.sl h ver lo len))) (ho : obj H h ver = some (size, xs.map f)) (hle : lo + len ≤ xs.length)
    (hz : z0.map nzL = f z) (hfx : ∀ x, (f x).map nzL = f x) (hf : ∀ x, (f x).length = size) (hs : SetAt (.live ver size ((clr xs lo len z).map f)) H h H1) : SemO P e H (.call { callee := .builtin .clear, args := #[y], argTypes := #[ts] }) unit H1 := by
  have hz0 : z0.length = size := by
    have := hf z
    rw [← hz] at this
    simpa using this
  refine SemO.of_stp (x0 := unit) (H0 := H.set h (.live ver size (segRows (xs.map f) lo (List.replicate len z0)))) (fun c y z h => (by cases h)) ?_ ?_
  · have h4 : lo + len ≤ (xs.map f).length ∧ True ∧ z0.length = size := ⟨by simpa using hle, trivial, hz0⟩
    simp only [stp, hy, clearV, ht, ho]
    rw [if_pos h4]
  · intro Γ y hk hc
    refine ⟨Γ, rfl, .refl Γ, ?_, hc⟩
    have hh : h < H.length := (List.getElem?_eq_some_iff.1 (obj_some ho)).1
    refine mpH_ok (g := nzL) nzL_sound (h := h) (o := .live ver size (segRows (xs.map f) lo (List.replicate len z0))) (by simp [hh]) ?_ hk
    have e1 : mpO nzL (.live ver size (segRows (xs.map f) lo (List.replicate len z0))) = .live ver size ((clr xs lo len z).map f) := by
      have e2 : (List.map nzL ∘ f) = f := funext fun x => hfx x
      simp [mpO, segRows, clr, hz, List.map_take, List.map_drop, e2]
    rw [e1, ← hs.eq, List.set_set]
section
variable {P : Program} {N : Nat} {Γ0 : Ctx} {A os : List Oper} {e : Env} {H H1 : List Ob} {ty : TypeId} {pos : String} {after : Array Edge} {d : Option Nat} {K : Env → List Ob → Prop}
theorem TextR.clearZ {α : Type} {ts : TypeId} {y : Operand} {el size by' h ver lo len : Nat} {z0 : List Leaf} (f : α → List Leaf) (xs : List α) (z : α) (ht : se P ts = some (el, size, by', z0)) (hy : evO e y = some (.c (.sl h ver lo len))) (ho : obj H h ver = some (size, xs.map f)) (hle : lo + len ≤ xs.length)
    (hz : z0.map nzL = f z) (hfx : ∀ x, (f x).map nzL = f x) (hf : ∀ x, (f x).length = size) (hs : SetAt (.live ver size ((clr xs lo len z).map f)) H h H1) (hr : TextR P N Γ0 A os (putE e d unit) H1 K) : TextR P N Γ0 A (⟨d, .call { callee := .builtin .clear, args := #[y], argTypes := #[ts] }, ty, pos, after, none⟩ :: os) e H K :=
  .sem (SemO.clearZ f xs z ht hy ho hle hz hfx hf hs) hr
end
theorem le_clr {α : Type} (xs : List α) (lo len : Nat) (z : α) : xs.length ≤ (clr xs lo len z).length := by
  simp [clr]
  omega
theorem le_cpy {α : Type} (xs : List α) (lo len : Nat) (ys : List α) : xs.length ≤ (cpy xs lo len ys).length := by
  simp [cpy]
  omega
theorem del_room2 {α : Type} {xs x1 x2 : List α} {i j u : Int} {w : Unit} (h : sub3? xs.length i j u = some w) (h1 : sub? xs 0 i = some x1) (h2 : sub? xs j (xs.length : Int) = some x2) : 0 + x1.length + ((xs.drop j.toNat).take x2.length).length ≤ xs.length := by
  have := del_room h h1 h2
  simp
  omega
end Go.Nx
