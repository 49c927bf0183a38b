/- Rules of the walk. -/
import Derived.Test.YtcdjfellhgdgoaaFwD
import Derived.Shelf.Sort.Plain
import Derived.Shelf.Slices.In.SortNone
import Derived.Shelf.Slices.CompactI
import Derived.Shelf.Slices.Cells
import Derived.Shelf.Slices.Reverse
/- The library's sort, and what drops repeats, at integers of the call's own. -/
namespace Go.Nx
open Go.Sort Go.Shelf
set_option linter.unusedVariables false
set_option linter.unusedSimpArgs false

instance fix_rv {h ver : Nat} : Fix (rvL h ver) := ⟨fun _ _ => rfl, fun _ => rfl, fun _ => rfl⟩
instance okp_rv {h ver : Nat} : Okp (rvK h ver) := ⟨fun _ _ => rfl, fun _ => rfl, fun _ => rfl⟩

theorem gAnd {a b : Bool} (h : a = true) (h' : b = true) : (a && b) = true := by rw [h, h']; rfl
theorem rv_self {α : Type} {E : α → List Leaf} {h ver : Nat} (hp : ∀ x, (E x).all (rvK h ver) = true) (hf : ∀ x, (E x).map (rvL h ver) = E x) (xs : List α) : ∀ r ∈ xs.map E, r.all (rvK h ver) = true ∧ r.map (rvL h ver) = r := by
  intro r hr
  obtain ⟨x, _, rfl⟩ := List.mem_map.1 hr
  exact ⟨hp x, hf x⟩
def ins (x : Int) : List Int → List Int
  | [] => [x]
  | y :: ys => if x ≤ y then x :: y :: ys else y :: ins x ys
def isort : List Int → List Int
  | [] => []
  | x :: xs => ins x (isort xs)
theorem ins_perm (x : Int) : ∀ l, (ins x l).Perm (x :: l)
  | [] => .refl _
  | y :: ys => by
    unfold ins
    split
    · exact .refl _
    · exact ((ins_perm x ys).cons y).trans (.swap x y ys)
theorem isort_perm : ∀ l, (isort l).Perm l
  | [] => .refl _
  | x :: xs => (ins_perm x _).trans ((isort_perm xs).cons x)
theorem ins_sorted (x : Int) : ∀ {l : List Int}, l.Pairwise (· ≤ ·) → (ins x l).Pairwise (· ≤ ·)
  | [], _ => by simp [ins]
  | y :: ys, h => by
    rw [List.pairwise_cons] at h
    unfold ins
    split
    · rename_i hxy
      rw [List.pairwise_cons, List.pairwise_cons]
      exact ⟨fun z hz => by
        rcases List.mem_cons.1 hz with rfl | hz
        · exact hxy
        · exact Int.le_trans hxy (h.1 z hz), h⟩
    · rename_i hxy
      rw [List.pairwise_cons]
      refine ⟨fun z hz => ?_, ins_sorted x h.2⟩
      rcases List.mem_cons.1 ((ins_perm x ys).mem_iff.1 hz) with rfl | hz
      · omega
      · exact h.1 z hz
theorem isort_sorted : ∀ l, (isort l).Pairwise (· ≤ ·)
  | [] => .nil
  | x :: xs => ins_sorted x (isort_sorted xs)
theorem length_isort (l : List Int) : (isort l).length = l.length := (isort_perm l).length_eq
theorem isort_eq (l : List Int) : (l.mergeSort fun x y => decide (x ≤ y)) = isort l := by
  refine List.Perm.eq_of_pairwise (le := (· ≤ ·)) (fun a b _ _ h1 h2 => Int.le_antisymm h1 h2) ?_ (isort_sorted l) ((List.mergeSort_perm l _).trans (isort_perm l).symm)
  have := List.pairwise_mergeSort (le := fun x y : Int => decide (x ≤ y)) (fun a b c h1 h2 => by simp at *; omega) (fun a b => by simp; omega) l
  simpa using this

def dedG (p : Int) : List Int → List Int
  | [] => []
  | y :: ys => if y = p then dedG y ys else y :: dedG y ys
def dedup : List Int → List Int
  | [] => []
  | x :: xs => x :: dedG x xs
theorem dedG_snoc (y : Int) : ∀ (p : Int) (l : List Int), dedG p (l ++ [y]) = dedG p l ++ (if y = l.getLast?.getD p then [] else [y])
  | p, [] => by
    simp only [List.nil_append, dedG, List.getLast?_nil, Option.getD_none]
    by_cases h : y = p <;> simp [h]
  | p, z :: l => by
    have hl : (z :: l).getLast?.getD p = l.getLast?.getD z := by
      cases l with
      | nil => rfl
      | cons a l => simp [List.getLast?_cons_cons, List.getLast?_cons]
    rw [hl, List.cons_append]
    unfold dedG
    split
    · exact dedG_snoc y z l
    · rw [dedG_snoc y z l]; rfl
theorem dedup_snoc (y : Int) : ∀ l : List Int, dedup (l ++ [y]) = dedup l ++ (if l.getLast? = some y then [] else [y])
  | [] => by simp [dedup, dedG]
  | x :: xs => by
    have hl : (x :: xs).getLast? = some (xs.getLast?.getD x) := by
      cases xs with
      | nil => rfl
      | cons a l => simp [List.getLast?_cons_cons, List.getLast?_cons]
    rw [hl, List.cons_append, dedup, dedup, dedG_snoc]
    simp [eq_comm]
theorem dedup_take (zs : List Int) : ∀ m, m ≤ zs.length → Lib.compactUpTo zs.toArray m = dedup (zs.take m)
  | 0, _ => by simp [Lib.compactUpTo, dedup]
  | m + 1, hm => by
    have ih := dedup_take zs m (by omega)
    have hz : zs.take (m + 1) = zs.take m ++ [zs[m]] := by simp
    rw [hz, dedup_snoc, ← ih]
    have h1 : Lib.compactUpTo zs.toArray (m + 1) = Lib.compactUpTo zs.toArray m ++ (if Lib.keeps zs.toArray m then [zs.toArray[m]!] else []) := by
      unfold Lib.compactUpTo
      rw [List.range_succ, List.filter_append, List.map_append]
      congr 1
      by_cases hk : Lib.keeps zs.toArray m = true <;> simp [hk]
    rw [h1]
    congr 1
    have hg : zs.toArray[m]! = zs[m] := by simp [show m < zs.length by omega]
    rcases Nat.eq_zero_or_pos m with rfl | h0
    · simp [Lib.keeps, show 0 < zs.length by omega]
    · have hgl : (zs.take m).getLast? = some zs[m - 1] := by
        rw [List.getLast?_eq_getElem?, List.length_take, Nat.min_eq_left (by omega), List.getElem?_take_of_lt (by omega), List.getElem?_eq_getElem (by omega)]
      have hg1 : zs.toArray[m - 1]! = zs[m - 1] := by simp [show m - 1 < zs.length by omega]
      rw [hgl, hg]
      by_cases he : zs[m] = zs[m - 1]
      · rw [Lib.keeps_neg h0 (by rw [hg, hg1]; exact he)]
        simp [he]
      · rw [Lib.keeps_pos (by rw [hg, hg1]; exact he)]
        simp [fun h => he (Eq.symm h), Ne.symm he]
theorem dedup_eq (zs : List Int) : Lib.compact zs = dedup zs := by
  have := dedup_take zs zs.length (Nat.le_refl _)
  rwa [List.take_length] at this
theorem dedup_le (zs : List Int) : (dedup zs).length ≤ zs.length := by
  rw [← dedup_eq]
  exact Lib.compact_length_le zs

def sort? (l : List Int) : Option (List Int) := if l.length ≤ 10000000000 then some (isort l) else none
def ded? (l : List Int) : Option (List Int) := if l.length ≤ 10000000000 then some (dedup l) else none
def rev? {α : Type} (l : List α) : Option (List α) := if l.length ≤ 10000000000 then some l.reverse else none
theorem length_sort {l r : List Int} (h : sort? l = some r) : r.length = l.length := by
  unfold sort? at h
  split at h
  · cases h; exact length_isort l
  · cases h
theorem Call.narrow {P : Program} {f : FuncId} {args : List AVal} {H H1 H2 : List Ob} {h ver z m : Nat} {rows rows' : List (List Leaf)} (hc : Nx.Call P f args H fun r' H' => r' = .c (.sl h ver 0 m) ∧ H' = H1) (ho : obj H1 h ver = some (z, rows)) (hle : m ≤ rows.length) (hrows : rows.take m = rows') (hs : H1.set h (.live (ver + 1) z rows') = H2) :
    Nx.Call P f args H fun r' H' => r' = .c (.sl h (ver + 1) 0 m) ∧ H' = H2 := by
  subst hs
  refine ⟨hc.1, fun Γ hok args' ha => (hc.2 Γ hok args' ha).mono fun e w' ⟨y, r, Γ', H', he, ⟨hr, hH⟩, hw, hE, hok', hcv⟩ => ?_⟩
  subst hr hH
  obtain ⟨Γ2, k1, k2, k3, k4⟩ := narrow_ctx hok' (lo := 0) (by simpa only [concV] using hcv) ho (by omega) (by simpa using hrows)
  exact ⟨y, _, Γ2, _, he, ⟨rfl, rfl⟩, by rw [k1, hw], hE.trans k2, k3, by simpa only [concV] using k4⟩

section
variable {P : Program} {ρ : Ren} {f : FuncId} {H H1 : List Ob} {h ver : Nat} {xs ys : List Int}
theorem call_sort (L : Go.Proofs.Lays.n189 P ρ) (hf : ρ.f 189 = f) (hent : enters P f = true) (hx : sort? xs = some ys) (ho : H[h]? = some (.live ver 1 (xs.map rI))) (hs : SetAt (.live ver 1 (ys.map rI)) H h H1) :
    Nx.Call P f [.c (.sl h ver 0 xs.length)] H fun r' H' => r' = .tup [] ∧ H' = H1 := by
  subst hf
  have hl := length_sort hx
  unfold sort? at hx
  split at hx
  case isFalse => cases hx
  rename_i hb
  cases hx
  refine Call.turns hent ho hl hs.eq (fun _ blk off cap w hH hblk _ => ?_) (fun _ p cap w => Go.Proofs.Any.slices_Sort_int_none L p cap w)
  have := Go.Proofs.Any.slices_Sort_int L blk off cap xs w hH hblk (by omega)
  rwa [isort_eq] at this
theorem call_ded (L : Go.Proofs.Lays2.n20 P ρ) (hf : ρ.f 20 = f) (hent : enters P f = true) (hx : ded? xs = some ys) (ho : H[h]? = some (.live ver 1 (xs.map rI))) (hs : SetAt (.live (ver + 1) 1 (ys.map rI)) H h H1) :
    Nx.Call P f [.c (.sl h ver 0 xs.length)] H fun r' H' => r' = .c (.sl h (ver + 1) 0 ys.length) ∧ H' = H1 := by
  subst hf
  unfold ded? at hx
  split at hx
  case isFalse => cases hx
  rename_i hb
  cases hx
  have hd := dedup_le xs
  have hlt : h < H.length := (List.getElem?_eq_some_iff.1 ho).1
  have hc := Call.turnsCut (P := P) (f := ρ.f 20) (xs := xs) (ys := dedup xs ++ List.replicate (xs.length - (dedup xs).length) 0) (m := (dedup xs).length) hent ho (by simp; omega) hd rfl (fun _ blk off cap w hH hblk hcap => by
    refine (Go.Proofs.Any.slices_Compact_int L blk off cap xs w hH (by omega) hcap).mono fun e w' ⟨he, q, hw⟩ => ?_
    rw [dedup_eq] at he hw
    exact ⟨he, q, #[], by rw [hw, grow_empty]⟩) (fun _ p cap w => by
    have := Go.Proofs.Any.slices_Compact_int_empty L p cap w
    exact this)
  refine Call.narrow (z := 1) (rows' := (dedup xs).map rI) hc (obj_of (by rw [List.getElem?_set_self hlt])) (by simp) ?_ (by rw [List.set_set]; exact hs.eq)
  rw [List.map_append, List.take_left' (by simp)]
end
end Go.Nx
/- A piece of code that may be left in any way; a callee that hands back an array of its own, while it reads arrays that are lent to it. -/
namespace Go.Nx
set_option linter.unusedVariables false
set_option linter.unusedSimpArgs false
section
variable {F : Fr} {Q : Exit → St → Prop} {S : St}
abbrev Exit.frG (I J : St → Prop) (X G : Nat → St → Prop) : Exit → St → Prop
  | .normal, S => I S
  | .ret, S => J S
  | .exit k, S => X k S
  | .goto l, S => G l S
  | _, _ => False
end

/-- Rows of plain numbers and the like. -/
def flR (rows : List (List Leaf)) : Bool := rows.all fun r => r.all fun | .v _ => true | _ => false
instance fix_bw {H : List Ob} : Fix (bwL H) := ⟨fun _ _ => rfl, fun _ => rfl, fun _ => rfl⟩

/-- Two heaps that are alike but at what may be turned. -/
inductive AgL (W : List Nat) : Nat → List Ob → List Ob → Prop
  | nil {i} : AgL W i [] []
  | same {i o H H'} (h : AgL W (i + 1) H H') : AgL W i (o :: H) (o :: H')
  | turn {i o o' H H'} (hw : W.contains i = true) (h : AgL W (i + 1) H H') : AgL W i (o :: H) (o' :: H')
  | more {i o' H'} (hw : W.contains i = true) (h : AgL W (i + 1) [] H') : AgL W i [] (o' :: H')
theorem AgL.at {W : List Nat} {i : Nat} {H H' : List Ob} (h : AgL W i H H') : ∀ k, W.contains (i + k) = false → H'[k]? = H[k]? := by
  induction h with
  | nil => intro k _; rfl
  | same h ih =>
    intro k hk
    cases k with
    | zero => rfl
    | succ k => simpa using ih k (by rw [Nat.add_assoc, Nat.add_comm 1 k]; exact hk)
  | turn hw h ih =>
    intro k hk
    cases k with
    | zero => rw [Nat.add_zero, hw] at hk; cases hk
    | succ k => simpa using ih k (by rw [Nat.add_assoc, Nat.add_comm 1 k]; exact hk)
  | more hw h ih =>
    intro k hk
    cases k with
    | zero => rw [Nat.add_zero, hw] at hk; cases hk
    | succ k => simpa using ih k (by rw [Nat.add_assoc, Nat.add_comm 1 k]; exact hk)
theorem AgL.agree {W : List Nat} {H H' : List Ob} (h : AgL W 0 H H') : Agree W H H' := fun n ver hn => by
  unfold obj
  rw [h.at n (by simpa using hn)]
section
variable {P : Program} {W : WW} {os : List Oper} {gs : List (List (Nat × Bool))} {ex : List Bool} {e : Env} {H H1 : List Ob} {ty : TypeId} {pos : String} {after : Array Edge} {guard : Option (Nat × Bool)} {K : Env → List Ob → Prop} {x : AVal} {d : Option Nat}
/-- A call, in a drawn region, that turns the heap. -/
theorem RunR.turn {c : FuncId} {args : Array Operand} {ts : Array TypeId} {vs : List AVal}
    (ha : actE e (gs.headD []) = some true) (hx : ex.headD false = false) (how : W.ow.contains c = true) (has : allV (args.toList.map (evO e)) = some vs) (hag : AgL W.hs 0 H H1)
    (hc : Nx.Call P c vs H fun r' H' => r' = x ∧ H' = H1) (hr : RunR P (some W) os gs.tail ex.tail (putE e d x) H1 K) : RunR P (some W) (⟨d, .call { callee := .value (.func c), args := args, argTypes := ts }, ty, pos, after, guard⟩ :: os) gs ex e H K := by
  obtain ⟨e', H', hr1, hr2⟩ := hr
  exact ⟨e', H', .cons (b := true) (x := x) (H1 := H1) ⟨ha, .inr (.inr (.inr (.inl ⟨rfl, hx, c, args, ts, vs, rfl, how, has, fun W0 hW => by cases hW; exact hag.agree, hc⟩)))⟩ hr1, hr2⟩
/-- What an operation has made is only read from there on. -/
theorem RunR.frz {op : Op} {t : Nat} {x0 : AVal} {H0 : List Ob} (h : RunR P (some W) [⟨some t, op, ty, pos, after, guard⟩] gs ex e H fun e' H' => e' = (t, x0) :: e ∧ H' = H0) (ha : actE e (gs.headD []) = some true) (hc : isCall op = false) (hf : fixed op = true) (hw : wOk (some W) (ex.headD false) e H op = true)
    (hz : Frz x0 H0 x H1) (hag : AgL W.hs 0 H H1) (hr : RunR P (some W) os gs.tail ex.tail ((t, x) :: e) H1 K) : RunR P (some W) (⟨some t, op, ty, pos, after, guard⟩ :: os) gs ex e H K := by
  obtain ⟨e', H', hr1, hr2⟩ := hr
  obtain ⟨e2, H2, hs, rfl, rfl⟩ := h
  have key : ∃ x00 H00, stp P e H op = some (x00, H00) ∧ Frz x00 H00 x0 H2 := by
    cases hs with
    | @cons _ _ _ _ _ _ b x' H1' _ _ hstep hrest =>
      cases hrest
      obtain ⟨hact, hs⟩ := hstep
      rw [ha] at hact
      cases hact
      rcases hs with ⟨hb, _⟩ | ⟨f, args, ts, c, caps, vs, hop, _⟩ | ⟨_, _, hg⟩ | ⟨_, _, c, args, ts, vs, hop, _⟩ | ⟨_, _, _, x00, H00, _, h1, h2, _⟩
      · cases hb
      · rw [show op = _ from hop] at hc; cases hc
      · unfold gE at hg
        split at hg
        · rename_i y Hy hst
          simp only [cond_true, Option.some.injEq, Prod.mk.injEq] at hg
          obtain ⟨rfl, rfl⟩ := hg
          exact ⟨_, _, hst, .refl _ _⟩
        · simp at hg
      · rw [show op = _ from hop] at hc; cases hc
      · exact ⟨_, _, h1, h2⟩
  obtain ⟨x00, H00, k1, k2⟩ := key
  exact ⟨e', H', .cons (b := true) (x := x) (H1 := H1) ⟨ha, .inr (.inr (.inr (.inr ⟨rfl, hc, hf, x00, H00, hw, k1, k2.trans hz, fun W0 hW => by cases hW; exact hag.agree⟩)))⟩ hr1, hr2⟩
end

theorem Call.nz {P : Program} {f : FuncId} {vs vs' : List AVal} {H : List Ob} {K : AVal → List Ob → Prop} (he : mpVs nzL vs = vs') (h : Nx.Call P f vs' H K) : Nx.Call P f vs H K := by
  subst he
  exact Call.args (fun Γ ys hc => concVs_mp (g := nzL) (Γ' := Γ) (fun l y => nzL_sound Γ l y) vs ys hc) h

theorem Call.trimE {α : Type} {P : Program} {f : FuncId} {args : List AVal} {H : List Ob} {R : α → AVal} {G : α → List Ob} (hl : ∀ u, H.length ≤ (G u).length) (hr : ∀ u, mvV (G u).length (R u) = true) (hH : ∀ u, (G u).all (mvO (G u).length) = true)
    (h : Nx.Call P f args H fun r' H' => ∃ u, r' = R u ∧ ∃ junk, H' = G u ++ junk) : Nx.Call P f args H fun r' H' => ∃ u, r' = R u ∧ H' = G u := by
  refine ⟨h.1, fun Γ hok args' hc => (h.2 Γ hok args' hc).mono fun e w' he => ?_⟩
  obtain ⟨y, r', Γ', H', rfl, ⟨u, rfl, junk, rfl⟩, rfl, hext, hok', hcv⟩ := he
  obtain ⟨d, sz, Γ1, e1, e2, e3, e4⟩ := drop_sat (N := 1) (Γ0 := Γ) (e := [(0, R u)]) (J := junk) (a := { tmps := #[y], defers := [] }) (w := Γ'.w) rfl (by rw [← hok.len]; exact hl u) (by simpa using hr u) (hH u)
    ⟨rfl, rfl, Γ', rfl, hext, hok', fun t x hx => by
      simp only [Env.get] at hx
      split at hx
      · rename_i ht
        subst ht
        cases hx
        exact ⟨y, rfl, hcv⟩
      · cases hx⟩
  obtain ⟨y', g1, g2⟩ := e4 0 (R u) rfl
  simp at g1
  subst g1
  exact ⟨y, R u, Γ1, G u, rfl, ⟨u, rfl, rfl⟩, e1, e2, e3, g2⟩

/-! Division by what is no literal. -/
def rem? (a b : Int) : Option Int := if b = 0 then none else some (a.tmod b)
def quo? (k : IntKind) (a b : Int) : Option Int := if b = 0 then none else some (k.wrap (a.tdiv b))
end Go.Nx
/- A variable array, read at any place. -/
namespace Go.Nx
set_option linter.unusedVariables false
set_option linter.unusedSimpArgs false
section
variable {F : Fr} {Q : Exit → St → Prop} {S S1 : St}
/-- Where the code ends what is known may be known less well. -/
abbrev Exit.endw (F : Fr) (Q : Exit → St → Prop) : Exit → St → Prop
  | .normal, S => ∃ S', S.Weak F S' ∧ Q .normal S'
  | .ret, S => Q .ret S
  | .exit k, S => Q (.exit k) S
  | .goto l, S => Q (.goto l) S
  | e, S => Q e S
theorem Wp.atEnd {c : Code} (h : Wp F c (Exit.endw F Q) S) : Wp F c Q S := fun a w hs => wp_mono (h a w hs) fun e a' w' ⟨S', h1, h2⟩ => by
  cases e with
  | normal => obtain ⟨S'', g1, g2⟩ := h1; exact ⟨S'', g2, g1 a' w' h2⟩
  | _ => exact ⟨S', h1, h2⟩
theorem Endw.step {Q : St → Prop} (hw : S.Weak F S1) (h : ∃ S', S1.Weak F S' ∧ Q S') : ∃ S', S.Weak F S' ∧ Q S' := by
  obtain ⟨S', h1, h2⟩ := h; exact ⟨S', hw.trans h1, h2⟩
theorem Endw.done {Q : St → Prop} (h : Q S) : ∃ S', S.Weak F S' ∧ Q S' := ⟨S, .refl, h⟩
end
theorem stp_indexR {P : Program} {e : Env} {H : List Ob} {ts : TypeId} {y z : Operand} {n size h ver r kk : Nat} {g : Bool} {k : IntKind} {m : Int} {o : Nat × List (List Leaf)} (ht : ar P ts = some (n, size, g)) (hy : evO e y = some (.c (.ptr h ver r kk))) (hz : evO e z = some (.c (.v (.int k m)))) (ho : obj H h ver = some o) (h0 : 0 ≤ m) (h1 : m < (n : Int)) : stp P e H (.indexAddr ts y z) = some (.c (.ptr h ver r (kk + m.toNat * size)), H) := by
  have hb : 0 ≤ m ∧ m < (n : Int) := ⟨h0, h1⟩
  simp only [stp, hy, hz, indexAddrV, ht, ho]
  rw [if_pos hb]
  rfl
section
variable {P : Program} {N : Nat} {Γ0 : Ctx} {A os : List Oper} {e : Env} {H H1 : List Ob} {ty : TypeId} {pos : String} {after : Array Edge} {t : Nat} {K : Env → List Ob → Prop}
theorem TextR.indexR {α : Type} {ts : TypeId} {y z : Operand} {n size h ver r kk : Nat} {g : Bool} {k : IntKind} {m : Int} {o : Nat × List (List Leaf)} {xs : List α} {x : α} (ht : ar P ts = some (n, size, g)) (hy : evO e y = some (.c (.ptr h ver r kk))) (hz : evO e z = some (.c (.v (.int k m)))) (ho : obj H h ver = some o) (hi : at? xs m = some x) (hn : xs.length = n)
    (hr : TextR P N Γ0 A os ((t, .c (.ptr h ver r (kk + m.toNat * size))) :: e) H K) : TextR P N Γ0 A (⟨some t, .indexAddr ts y z, ty, pos, after, none⟩ :: os) e H K :=
  .op (by
    have h0 := at_pos hi
    have h1 := (List.getElem?_eq_some_iff.1 (at_get hi)).1
    exact stp_indexR ht hy hz ho h0 (by omega)) hr
theorem TextR.load1R {α : Type} {ty0 n h ver z i : Nat} {y : Operand} {xs : List α} {x : α} {f : α → Leaf} (ht : tk P ty0 = some (false, n)) (hi : xs[i]? = some x) (hy : evO e y = some (.c (.ptr h ver 0 (0 + i * 1)))) (ho : obj H h ver = some (z, [xs.map f]))
    (hr : TextR P N Γ0 A os ((t, .c (f x)) :: e) H K) : TextR P N Γ0 A (⟨some t, .load ty0 y, ty, pos, after, none⟩ :: os) e H K :=
  .load1 ht hy (by simp [ld1, ho, hi]) hr
end
section
variable {P : Program} {W : Option WW} {os : List Oper} {gs : List (List (Nat × Bool))} {ex : List Bool} {e : Env} {H H1 : List Ob} {ty : TypeId} {pos : String} {after : Array Edge} {guard : Option (Nat × Bool)} {t : Nat} {b : Bool} {K : Env → List Ob → Prop}
theorem RunR.indexR {α : Type} {ts : TypeId} {y z : Operand} {n size h ver r kk : Nat} {g : Bool} {k : IntKind} {m : Int} {o : Nat × List (List Leaf)} {xs : List α} {x : α} (ht : ar P ts = some (n, size, g)) (ha : actE e (gs.headD []) = some b) (hw : wOk W (ex.headD false) e H (.indexAddr ts y z) = true) (hy : evO e y = some (.c (.ptr h ver r kk))) (hz : evO e z = some (.c (.v (.int k m)))) (ho : obj H h ver = some o) (hi : at? xs m = some x) (hn : xs.length = n)
    (hr : RunR P W os gs.tail ex.tail ((t, .c (.ptr h ver r (kk + m.toNat * size))) :: e) H K) : RunR P W (⟨some t, .indexAddr ts y z, ty, pos, after, guard⟩ :: os) gs ex e H K :=
  .mob rfl rfl ha hw (by
    have h0 := at_pos hi
    have h1 := (List.getElem?_eq_some_iff.1 (at_get hi)).1
    exact stp_indexR ht hy hz ho h0 (by omega)) hr
theorem RunR.indexRG {α : Type} {ts : TypeId} {y z : Operand} {n size h ver r kk : Nat} {g : Bool} {k : IntKind} {m : Int} {o : Nat × List (List Leaf)} {xs : List α} {x : α} (ht : ar P ts = some (n, size, g)) (ha : actE e (gs.headD []) = some b) (hw : wOk W (ex.headD false) e H (.indexAddr ts y z) = true) (hy : evO e y = some (.c (.ptr h ver r kk))) (hz : evO e z = some (.c (.v (.int k m)))) (ho : obj H h ver = some o) (h0 : b = true → 0 ≤ m) (hi : b = true → xs[m.toNat]? = some x) (hn : xs.length = n)
    (hr : RunR P W os gs.tail ex.tail ((t, .c (.ptr h ver r (kk + m.toNat * size))) :: e) H K) : RunR P W (⟨some t, .indexAddr ts y z, ty, pos, after, guard⟩ :: os) gs ex e H K :=
  .mobG rfl rfl ha hw (fun hb => by
    have h0 := h0 hb
    have h1 := (List.getElem?_eq_some_iff.1 (hi hb)).1
    exact stp_indexR ht hy hz ho h0 (by omega)) hr
theorem RunR.load1R {α : Type} {ty0 n h ver z i : Nat} {y : Operand} {xs : List α} {x : α} {f : α → Leaf} (ht : tk P ty0 = some (false, n)) (ha : actE e (gs.headD []) = some b) (hw : wOk W (ex.headD false) e H (.load ty0 y) = true) (hi : xs[i]? = some x) (hy : evO e y = some (.c (.ptr h ver 0 (0 + i * 1)))) (ho : obj H h ver = some (z, [xs.map f]))
    (hr : RunR P W os gs.tail ex.tail ((t, .c (f x)) :: e) H K) : RunR P W (⟨some t, .load ty0 y, ty, pos, after, guard⟩ :: os) gs ex e H K :=
  .load1 ht ha hw hy (by simp [ld1, ho, hi]) hr
theorem RunR.load1RG {α : Type} {ty0 n h ver z i : Nat} {y : Operand} {xs : List α} {x : α} {f : α → Leaf} (ht : tk P ty0 = some (false, n)) (ha : actE e (gs.headD []) = some b) (hw : wOk W (ex.headD false) e H (.load ty0 y) = true) (hi : b = true → xs[i]? = some x) (hy : evO e y = some (.c (.ptr h ver 0 (0 + i * 1)))) (ho : obj H h ver = some (z, [xs.map f]))
    (hr : RunR P W os gs.tail ex.tail ((t, .c (f x)) :: e) H K) : RunR P W (⟨some t, .load ty0 y, ty, pos, after, guard⟩ :: os) gs ex e H K :=
  .mobG rfl rfl ha hw (fun hb => by simp [stp, ht, hy, ld1, ho, hi hb]) hr
end
end Go.Nx
