/- 'stp' is right. -/
import Derived.Test.YtcnbkfgajnlbpaaNxJ
namespace Go.Nx
set_option linter.unusedVariables false
set_option linter.unusedSimpArgs false

theorem pick_sound {P : Program} {Γ : Ctx} {H H' : List Ob} (hok : HeapOk Γ H) {e : Env} {a : Act} {o : Oper} {c p q : Operand} (ho : o.op = .pick c p q) {x : AVal} (h : stp P e H o.op = some (x, H'))
    (hc : Good Γ e a c) (hp : evO e c = some (.c (.v (.bool true))) → Good Γ e a p) (hq : evO e c = some (.c (.v (.bool false))) → Good Γ e a q) : OpRes Γ ((execOp a.eval o).run P Γ.w) x H' := by
  rw [ho] at h
  unfold stp at h
  simp only at h
  split at h
  case h_2 => cases h
  rename_i t u v h1 h2 h3
  simp only [Option.some.injEq, Prod.mk.injEq] at h
  obtain ⟨rfl, rfl⟩ := h
  have hb := hc _ h1
  simp only [concV, conc] at hb
  refine .val (y := if t then a.eval p else a.eval q) hok (by simp [execOp, ho, hb.1, asBool]) ?_
  cases t with
  | true =>
    have := hp h1 _ h2
    unfold pickV
    split
    · simpa using this
    · simpa using this
  | false =>
    have := hq h1 _ h3
    unfold pickV
    split
    · simpa using this
    · simpa using this

set_option maxHeartbeats 1000000 in
theorem stp_sound {P : Program} {Γ : Ctx} {H H' : List Ob} (hok : HeapOk Γ H) {e : Env} {a : Act} {o : Oper} {x : AVal} (hg : ∀ p ∈ o.op.operands, Good Γ e a p) (h : stp P e H o.op = some (x, H')) : OpRes Γ ((execOp a.eval o).run P Γ.w) x H' := by
  obtain ⟨dst, op, ty, pos, after, guard⟩ := o
  simp only at hg h
  cases op with
  | move y =>
    simp only [stp, Option.map_eq_some_iff, Prod.mk.injEq] at h
    obtain ⟨v, h1, rfl, rfl⟩ := h
    exact .val hok (by simp [execOp]) (hg y (by simp [Op.operands]) v h1)
  | assign y =>
    simp only [stp, Option.map_eq_some_iff, Prod.mk.injEq] at h
    obtain ⟨v, h1, rfl, rfl⟩ := h
    exact .val hok (by simp [execOp]) (hg y (by simp [Op.operands]) v h1)
  | pick c p q => exact pick_sound hok (o := ⟨dst, .pick c p q, ty, pos, after, guard⟩) rfl h (hg c (by simp [Op.operands])) (fun _ => hg p (by simp [Op.operands])) (fun _ => hg q (by simp [Op.operands]))
  | alloc t =>
    simp only [stp] at h
    split at h
    case h_2 => cases h
    rename_i z zs hz
    simp only [Option.some.injEq, Prod.mk.injEq] at h
    obtain ⟨rfl, rfl⟩ := h
    obtain ⟨i, zv, hi, hzv, hs, hl⟩ := zc_spec hz
    obtain ⟨Γ', g1, g2, g3, g4⟩ := newVar_sound (P := P) hok t (conc_leaves hl)
    exact ⟨.pointer (some ⟨Γ.w.heap.size, 0, none⟩), Γ', .inl (by simp [execOp, Instr.alloc, zeroValue, typeInfo, hi, hzv, g1]), g2, g3, by simpa [concV] using g4⟩
  | box t y =>
    simp only [stp] at h
    split at h
    case h_2 => cases h
    rename_i v hv
    split at h
    case h_2 => cases h
    rename_i z zs hz
    simp only [Option.some.injEq, Prod.mk.injEq] at h
    obtain ⟨rfl, rfl⟩ := h
    have hc := cells_spec (hg y (by simp [Op.operands]) v hv) hz
    obtain ⟨Γ', g1, g2, g3, g4⟩ := newVar_sound (P := P) hok t hc
    exact ⟨.pointer (some ⟨Γ.w.heap.size, 0, none⟩), Γ', .inl (by simp [execOp, Instr.box, g1]), g2, g3, by simpa [concV] using g4⟩
  | build t ps =>
    simp only [stp] at h
    split at h
    case h_2 => cases h
    rename_i z places hcm
    simp only [Option.map_eq_some_iff, Prod.mk.injEq] at h
    obtain ⟨cs, h1, rfl, rfl⟩ := h
    have hP := parts_of (Γ := Γ) (e := e) (a := a) ps.toList (fun p hp => hg p (by simpa [Op.operands] using hp))
    obtain ⟨out, g1, g2⟩ := build_sound (P := P) (vs := ps.map fun (i, x) => (i, a.eval x)) hcm (by simpa using hP) h1
    exact .val hok (by simp [execOp, g1]) ⟨out, rfl, g2⟩
  | buildSlice t n ps =>
    simp only [stp] at h
    split at h
    case h_2 => cases h
    rename_i el size bytes z hse
    split at h
    case isFalse => cases h
    rename_i hb
    obtain ⟨b1, b2, b3, b4⟩ := hb
    simp only [Option.map_eq_some_iff, Prod.mk.injEq] at h
    obtain ⟨rows, h1, rfl, rfl⟩ := h
    have hP := parts_of (Γ := Γ) (e := e) (a := a) ps.toList (fun p hp => hg p (by simpa [Op.operands] using hp))
    obtain ⟨y, Γ', g1, g2, g3, g4⟩ := buildSlice_sound (P := P) hok (vs := ps.map fun (i, x) => (i, a.eval x)) hse b1 b2 b3 b4 (by simpa using hP) h1
    exact ⟨y, Γ', .inl (by simp [execOp, g1]), g2, g3, by simpa [concV] using g4⟩
  | makeSlice t l c =>
    simp only [stp] at h
    split at h
    case h_2 => cases h
    rename_i el size bytes z k n k' m hse hl hcv
    split at h
    case isFalse => cases h
    rename_i hb
    obtain ⟨b1, b2, b3, rfl, b5, b6⟩ := hb
    simp only [Option.some.injEq, Prod.mk.injEq] at h
    obtain ⟨rfl, rfl⟩ := h
    have h1 := hg l (by simp [Op.operands]) _ hl
    have h2 := hg c (by simp [Op.operands]) _ hcv
    simp only [concV, conc] at h1 h2
    obtain ⟨y, Γ', g1, g2, g3, g4⟩ := makeSlice_sound (P := P) hok hse b1 b2 k k' n b3 b5 b6
    exact ⟨y, Γ', .inl (by simp [execOp, h1.1, h2.1, g1]), g2, g3, by simpa [concV] using g4⟩
  | load t y =>
    simp only [stp] at h
    split at h
    · rename_i n p ht hp
      simp only [Option.map_eq_some_iff, Prod.mk.injEq] at h
      obtain ⟨cs, h1, rfl, rfl⟩ := h
      have hc := hg y (by simp [Op.operands]) _ hp
      simp only [concV] at hc
      obtain ⟨ys, g1, g2⟩ := (load_sound (P := P) hok hc).1 n cs ht h1
      exact .val hok (by simp [execOp, g1]) ⟨ys, rfl, g2⟩
    · rename_i n p ht hp
      simp only [Option.map_eq_some_iff, Prod.mk.injEq] at h
      obtain ⟨l, h1, rfl, rfl⟩ := h
      have hc := hg y (by simp [Op.operands]) _ hp
      simp only [concV] at hc
      obtain ⟨z, g1, g2⟩ := (load_sound (P := P) hok hc).2 n l ht h1
      exact .val hok (y := z) (by simp [execOp, g1]) (by simpa [concV] using g2)
    · cases h
  | store t y v =>
    simp only [stp] at h
    split at h
    case h_2 => cases h
    rename_i g n hd ver i k av ht hy hv
    split at h
    case h_2 => cases h
    rename_i cs z rows hcs ho
    split at h
    case isFalse => cases h
    rename_i hn
    split at h
    case h_2 => cases h
    rename_i r hr
    split at h
    case isFalse => cases h
    rename_i hle
    simp only [Option.some.injEq, Prod.mk.injEq] at h
    obtain ⟨rfl, rfl⟩ := h
    have hc := hg y (by simp [Op.operands]) _ hy
    simp only [concV] at hc
    obtain ⟨Γ', g1, g2, g3⟩ := store_sound (P := P) hok hc ht ho hr hn hle (cells_spec (hg v (by simp [Op.operands]) _ hv) hcs)
    exact ⟨undef, Γ', .inr ⟨by simp [execOp, g1], rfl⟩, g2, g3, by simp [concV, concVs, undef]⟩
  | nilCheck y =>
    simp only [stp] at h
    split at h
    · rename_i hd ver i k hy
      simp only [Option.map_eq_some_iff, Prod.mk.injEq] at h
      obtain ⟨zr, h1, rfl, rfl⟩ := h
      obtain ⟨z, rows⟩ := zr
      have hc := hg y (by simp [Op.operands]) _ hy
      simp only [concV] at hc
      obtain ⟨inf, b, _, _, he⟩ := ptr_value hok hc h1
      refine .val hok (y := a.eval y) (by simp [execOp, he]) (by simpa [concV] using hc)
    · rename_i rows i k hy
      simp only [Option.some.injEq, Prod.mk.injEq] at h
      obtain ⟨rfl, rfl⟩ := h
      have hc := hg y (by simp [Op.operands]) _ hy
      have hc' := hc
      simp only [concV, conc] at hc
      obtain ⟨b, off, sz, he, _⟩ := hc
      exact .val hok (y := a.eval y) (by simp [execOp, he]) hc'
    · rename_i f cs hy
      simp only [Option.some.injEq, Prod.mk.injEq] at h
      obtain ⟨rfl, rfl⟩ := h
      have hc := hg y (by simp [Op.operands]) _ hy
      have hc' := hc
      simp only [concV, conc] at hc
      obtain ⟨ys, he, _⟩ := hc
      exact .val hok (y := a.eval y) (by simp [execOp, he]) hc'
    · cases h
  | binOp op t y z t' =>
    simp only [stp] at h
    split at h
    case h_2 => cases h
    rename_i u v hu hv
    simp only [Option.map_eq_some_iff, Prod.mk.injEq] at h
    obtain ⟨l, h1, rfl, rfl⟩ := h
    obtain ⟨g1, r, g2, g3⟩ := binV_sound hok h1 y z (hg y (by simp [Op.operands]) _ hu) (hg z (by simp [Op.operands]) _ hv)
    exact .val hok (y := r) (by simp [execOp, g1, g2]) (by simpa [concV] using g3)
  | unOp op t y =>
    simp only [stp] at h
    split at h
    · rename_i b hb
      simp only [Option.some.injEq, Prod.mk.injEq] at h
      obtain ⟨rfl, rfl⟩ := h
      have hc := hg y (by simp [Op.operands]) _ hb
      simp only [concV, conc] at hc
      exact .val hok (y := .bool (!b)) (by simp [execOp, hc.1, Op.unary]) (by simp [concV, conc, Value.oneCell'])
    · rename_i k n hb
      simp only [Option.some.injEq, Prod.mk.injEq] at h
      obtain ⟨rfl, rfl⟩ := h
      have hc := hg y (by simp [Op.operands]) _ hb
      simp only [concV, conc] at hc
      exact .val hok (y := .int k (k.wrap (-n))) (by simp [execOp, hc.1, Op.unary, Op.intArith]) (by simp [concV, conc, Value.oneCell'])
    · cases h
  | convert s d y =>
    simp only [stp] at h
    split at h
    case h_2 => cases h
    rename_i k1 k2 k3 n h1 h2 h3
    simp only [Option.some.injEq, Prod.mk.injEq] at h
    obtain ⟨rfl, rfl⟩ := h
    have hc := hg y (by simp [Op.operands]) _ h3
    simp only [concV, conc] at hc
    unfold ik at h1 h2
    split at h1
    case h_2 => cases h1
    rename_i hu1
    split at h2
    case h_2 => cases h2
    rename_i hu2
    cases h1
    cases h2
    refine .val hok (y := .int k2 (k2.wrap n)) ?_ (by simp [concV, conc, Value.oneCell'])
    simp [execOp, hc.1, convert, run_underlying hu1, run_underlying hu2, Conv.intToInt]
  | makeFunc f first caps =>
    cases f with
    | func f =>
      simp only [stp] at h
      split at h
      case isFalse => cases h
      rename_i hf
      simp only [Option.map_eq_some_iff, Prod.mk.injEq] at h
      obtain ⟨cs, h1, rfl, rfl⟩ := h
      have hfe : first = #[] := Array.eq_empty_of_size_eq_zero hf
      subst hfe
      have hc := leafL_spec (Γ := Γ) (a := a) caps.toList cs (fun p hp => hg p (by simpa [Op.operands] using hp)) h1
      refine .val hok (y := .func (.func f) #[] (caps.map a.eval)) (by simp [execOp, Instr.makeFunc]) ?_
      simp only [concV, conc]
      exact ⟨_, rfl, by simpa using hc⟩
    | _ => simp [stp] at h
  | slice t y lo hi mx =>
    cases mx with
    | some m => simp [stp] at h
    | none =>
      simp only [stp] at h
      split at h
      case h_2 => cases h
      rename_i l lo' hi' hy hlo hhi
      simp only [Option.map_eq_some_iff, Prod.mk.injEq] at h
      obtain ⟨r, h1, rfl, rfl⟩ := h
      have hc := hg y (by simp [Op.operands]) _ hy
      simp only [concV] at hc
      obtain ⟨z, g1, g2⟩ := sliceV_sound (P := P) hok h1 hc (lo.map a.eval) (hi.map a.eval) (optInt_spec (Γ := Γ) (fun p hp => hg p (by simp [Op.operands, hp])) hlo) (optInt_spec (Γ := Γ) (fun p hp => hg p (by simp [Op.operands, hp])) hhi)
      exact .val hok (y := z) (by simp [execOp, g1]) (by simpa [concV] using g2)
  | fieldAddr s y f =>
    simp only [stp] at h
    split at h
    · rename_i off n g hd ver i k hfo hy
      split at h
      · cases h
      · rename_i hn
        simp only [Option.map_eq_some_iff, Prod.mk.injEq] at h
        obtain ⟨zr, h1, rfl, rfl⟩ := h
        obtain ⟨z, rows⟩ := zr
        have hc := hg y (by simp [Op.operands]) _ hy
        simp only [concV] at hc
        obtain ⟨v, g1, g2⟩ := (fieldAddr_sound (P := P) hok hfo hn hc).1 hd ver i k z rows rfl h1
        exact .val hok (y := v) (by simp [execOp, g1]) (by simpa [concV] using g2)
    · rename_i off n g rows i k hfo hy
      split at h
      · cases h
      · rename_i hn
        simp only [Option.some.injEq, Prod.mk.injEq] at h
        obtain ⟨rfl, rfl⟩ := h
        have hc := hg y (by simp [Op.operands]) _ hy
        simp only [concV] at hc
        obtain ⟨v, g1, g2⟩ := (fieldAddr_sound (P := P) hok hfo hn hc).2 rows i k rfl
        exact .val hok (y := v) (by simp [execOp, g1]) (by simpa [concV] using g2)
    · cases h
  | field s y f =>
    simp only [stp] at h
    split at h
    case h_2 => cases h
    rename_i off n g cs hfo hy
    simp only [Option.map_eq_some_iff, Prod.mk.injEq] at h
    obtain ⟨v, h1, rfl, rfl⟩ := h
    obtain ⟨fs, fd, hu, hf, rfl, ht⟩ := fo_spec hfo
    have hc := hg y (by simp [Op.operands]) _ hy
    simp only [concV] at hc
    obtain ⟨xs, he, hc⟩ := hc
    obtain ⟨z, g1, g2⟩ := mkSeg_spec (P := P) ht hc h1
    exact .val hok (by simp [execOp, he, Instr.field, run_underlying hu, hf, asAgg, g1]) g2
  | indexAddr t y i =>
    simp only [stp] at h
    split at h
    case h_2 => cases h
    rename_i l k n hy hi
    simp only [Option.map_eq_some_iff, Prod.mk.injEq] at h
    obtain ⟨r, h1, rfl, rfl⟩ := h
    have hc := hg y (by simp [Op.operands]) _ hy
    have hci := hg i (by simp [Op.operands]) _ hi
    simp only [concV, conc] at hc hci
    obtain ⟨z, g1, g2⟩ := indexAddrV_sound (P := P) hok h1 hc k
    exact .val hok (y := z) (by simp [execOp, hci.1, g1]) (by simpa [concV] using g2)
  | index t y i =>
    simp only [stp] at h
    split at h
    case h_2 => cases h
    rename_i n size g cs k j har hy hi
    split at h
    case isFalse => cases h
    rename_i hb
    simp only [Option.map_eq_some_iff, Prod.mk.injEq] at h
    obtain ⟨v, h1, rfl, rfl⟩ := h
    obtain ⟨el, ht, hte⟩ := ar_spec har
    have hc := hg y (by simp [Op.operands]) _ hy
    have hci := hg i (by simp [Op.operands]) _ hi
    simp only [concV, conc] at hc hci
    obtain ⟨xs, he, hc⟩ := hc
    obtain ⟨z, g1, g2⟩ := mkSeg_spec (P := P) hte hc h1
    exact .val hok (by simp [execOp, he, hci.1, Instr.index, asIntOf, run_underlying ht, hb.1, hb.2, (tk_spec hte Γ.w).2, g1]) g2
  | extract y i =>
    simp only [stp] at h
    split at h
    case h_2 => cases h
    rename_i vs hy
    simp only [Option.map_eq_some_iff, Prod.mk.injEq] at h
    obtain ⟨v, h1, rfl, rfl⟩ := h
    have hc := hg y (by simp [Op.operands]) _ hy
    simp only [concV] at hc
    obtain ⟨ys, he, hc⟩ := hc
    have key : ∀ (vs : List AVal) (ys : List Value) (i : Nat) (v : AVal), concVs Γ vs ys → vs[i]? = some v → ∃ z, ys[i]? = some z ∧ concV Γ v z := by
      intro vs
      induction vs with
      | nil => intro ys i v _ hv; simp at hv
      | cons u us ih =>
        intro ys i v hc hv
        simp only [concVs] at hc
        obtain ⟨z, zs, rfl, h2, h3⟩ := hc
        cases i with
        | zero => simp at hv; subst hv; exact ⟨z, by simp, h2⟩
        | succ i => simpa using ih zs i v h3 (by simpa using hv)
    obtain ⟨z, g1, g2⟩ := key vs ys.toList i v hc h1
    have g1' : ys[i]? = some z := by simpa using g1
    exact .val hok (y := z) (by simp [execOp, he, Instr.extract, g1']) g2
  | call c =>
    obtain ⟨callee, args, argTypes⟩ := c
    cases callee with
    | builtin b =>
      cases b with
      | len =>
        simp only [stp] at h
        split at h
        case h_2 => cases h
        rename_i y t ha ht
        split at h
        case h_2 => cases h
        rename_i el l hu hy
        simp only [Option.map_eq_some_iff, Prod.mk.injEq] at h
        obtain ⟨n, h1, rfl, rfl⟩ := h
        obtain ⟨args⟩ := args
        obtain ⟨argTypes⟩ := argTypes
        simp only at ha ht
        subst ha ht
        have hc := hg y (by simp [Op.operands, Call.operands]) _ hy
        simp only [concV] at hc
        obtain ⟨ad, cap, he⟩ := lenL_spec h1 hc
        exact .val hok (y := .int .i64 n) (by simp [execOp, resolve, invoke, builtin, Builtin.len_, run_underlying hu, he, goInt]) (by simp [concV, conc, Value.oneCell'])
      | append =>
        simp only [stp] at h
        split at h
        case h_2 => cases h
        rename_i s y t t' ha ht
        split at h
        case h_2 => cases h
        rename_i ls lx hs hy
        obtain ⟨args⟩ := args
        obtain ⟨argTypes⟩ := argTypes
        simp only at ha ht
        subst ha ht
        have h1 := hg s (by simp [Op.operands, Call.operands]) _ hs
        have h2 := hg y (by simp [Op.operands, Call.operands]) _ hy
        simp only [concV] at h1 h2
        obtain ⟨z, Γ', g1, g2, g3, g4⟩ := append_sound (P := P) (ty := ty) hok h1 h2 h
        exact ⟨z, Γ', .inl (by simp [execOp, resolve, invoke, builtin, g1]), g2, g3, g4⟩
      | min =>
        simp only [stp, Option.map_eq_some_iff, Prod.mk.injEq] at h
        obtain ⟨n, h1, rfl, rfl⟩ := h
        obtain ⟨args⟩ := args
        simp only at h1
        unfold foldInt at h1
        split at h1
        case h_2 => cases h1
        rename_i m r heq
        cases args with
        | nil => simp at heq
        | cons p ps =>
          simp only [List.map_cons, List.cons.injEq] at heq
          obtain ⟨hp, rfl⟩ := heq
          have hcp := hg p (by simp [Op.operands, Call.operands]) _ hp
          simp only [concV, conc] at hcp
          have := foldI_spec (P := P) (Γ := Γ) (a := a) min Builtin.min2 (fun m k n w => by simp [Builtin.min2]; omega) ps m n (fun q hq => hg q (by simp [Op.operands, Call.operands, hq])) h1
          exact .val hok (y := .int .i64 n) (by simp [execOp, resolve, invoke, builtin, Builtin.min_, hcp.1, this]) (by simp [concV, conc, Value.oneCell'])
      | max =>
        simp only [stp, Option.map_eq_some_iff, Prod.mk.injEq] at h
        obtain ⟨n, h1, rfl, rfl⟩ := h
        obtain ⟨args⟩ := args
        simp only at h1
        unfold foldInt at h1
        split at h1
        case h_2 => cases h1
        rename_i m r heq
        cases args with
        | nil => simp at heq
        | cons p ps =>
          simp only [List.map_cons, List.cons.injEq] at heq
          obtain ⟨hp, rfl⟩ := heq
          have hcp := hg p (by simp [Op.operands, Call.operands]) _ hp
          simp only [concV, conc] at hcp
          have := foldI_spec (P := P) (Γ := Γ) (a := a) max Builtin.max2 (fun m k n w => by simp [Builtin.max2]; omega) ps m n (fun q hq => hg q (by simp [Op.operands, Call.operands, hq])) h1
          exact .val hok (y := .int .i64 n) (by simp [execOp, resolve, invoke, builtin, Builtin.max_, hcp.1, this]) (by simp [concV, conc, Value.oneCell'])
      | _ => simp [stp] at h
    | _ => simp [stp] at h
  | _ => simp [stp] at h

end Go.Nx
