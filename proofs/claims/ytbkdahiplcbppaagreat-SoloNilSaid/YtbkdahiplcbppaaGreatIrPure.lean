/- Operations that neither read nor write memory. -/
import Derived.Test.YtbkdahiplcbppaaGreatIrOps
set_option linter.unusedVariables false
set_option linter.unusedSimpArgs false
namespace Go.Ir

/-- An operation answers at every world alike. -/
def Says (P : Program) (a : Act) (o : Oper) (F : Emb) (v : Value) : Prop :=
  ∃ c, (∀ w, (execOp a.eval o).run P w = .ok (.value c) w) ∧ VR F v c

section
variable {P : Program} {LB : List Nat} {F : Emb} {f : Fr} {a : Act} {call : CallF} {lo : Nat} {h h' : Heap} {v : Value}
variable {dst : Option Nat} {ty : TypeId} {pos : String} {after : Array Edge} {guard : Option (Nat × Bool)}

theorem p_move {x : Operand} (hx : opndOk LB x = true) (hop : OpOk LB F f a ⟨dst, .move x, ty, pos, after, guard⟩)
    (hv : iop call lo (.mov x) f h = some (v, h')) : h' = h ∧ Says P a ⟨dst, .move x, ty, pos, after, guard⟩ F v := by
  simp only [iop] at hv
  split at hv <;> simp at hv
  rename_i u hu
  obtain ⟨rfl, rfl⟩ := hv
  exact ⟨rfl, _, fun w => by simp [execOp], hop x (by simp [Op.operands]) hx _ hu⟩

theorem p_assign {x : Operand} (hx : opndOk LB x = true) (hop : OpOk LB F f a ⟨dst, .assign x, ty, pos, after, guard⟩)
    (hv : iop call lo (.mov x) f h = some (v, h')) : h' = h ∧ Says P a ⟨dst, .assign x, ty, pos, after, guard⟩ F v := by
  simp only [iop] at hv
  split at hv <;> simp at hv
  rename_i u hu
  obtain ⟨rfl, rfl⟩ := hv
  exact ⟨rfl, _, fun w => by simp [execOp], hop x (by simp [Op.operands]) hx _ hu⟩

theorem p_pick {c x y : Operand} (hc : opndOk LB c = true) (hx : opndOk LB x = true) (hy : opndOk LB y = true) (hop : OpOk LB F f a ⟨dst, .pick c x y, ty, pos, after, guard⟩)
    (hv : iop call lo (.pick c x y) f h = some (v, h')) : h' = h ∧ Says P a ⟨dst, .pick c x y, ty, pos, after, guard⟩ F v := by
  simp only [iop] at hv
  split at hv <;> try (simp at hv; done)
  rename_i t ht
  split at hv <;> simp at hv
  rename_i u hu
  obtain ⟨rfl, rfl⟩ := hv
  have hcv := hop c (by simp [Op.operands]) hc _ ht
  generalize hce : a.eval c = cv at hcv
  cases hcv
  cases t with
  | true =>
    simp at hu
    exact ⟨rfl, _, fun w => by simp [execOp, hce, asBool], hop x (by simp [Op.operands]) hx _ hu⟩
  | false =>
    simp at hu
    exact ⟨rfl, _, fun w => by simp [execOp, hce, asBool], hop y (by simp [Op.operands]) hy _ hu⟩

theorem mapM_places {P : Program} : ∀ (fs : List Field), (∀ f ∈ fs, (tySize P f.type).isSome) → ∀ w,
    (fs.mapM (m := Sem) fun f => do pure (f.offset, ← sizeOf f.type)).run P w = .ok (fs.map fun f => (f.offset, (tySize P f.type).getD 0)) w
  | [], _, w => by simp
  | f :: fs, h, w => by
    have h0 := h f (by simp)
    obtain ⟨n, hn⟩ := Option.isSome_iff_exists.1 h0
    have ih := mapM_places fs (fun g hg => h g (by simp [hg])) w
    simp only [List.mapM_cons, Sem.run_bind, run_sizeOf' hn, Result.andThen_ok, Sem.run_pure, ih, hn, List.map_cons, Option.getD_some]

theorem eqGuard_int {op : BinOp} {t : TypeId} {x y : Operand} {k k' : IntKind} {n m : Int} (w : World) : (eqGuard op t x y (.int k n) (.int k' m)).run P w = .ok () w := by
  cases op <;> simp [eqGuard]
theorem eqGuard_str {op : BinOp} {t : TypeId} {x y : Operand} {n m : ByteArray} (w : World) : (eqGuard op t x y (.string n) (.string m)).run P w = .ok () w := by
  cases op <;> simp [eqGuard]
theorem eqGuard_float {op : BinOp} {t : TypeId} {x y : Operand} {k k' : FloatKind} {n m : Nat} (w : World) : (eqGuard op t x y (.float k n) (.float k' m)).run P w = .ok () w := by
  cases op <;> simp [eqGuard]

theorem ishift_ok {op : BinOp} {k yk : IntKind} {n m : Int} {v : Value} (h : ishift op k n m = some v) (w : World) : (Op.shift op k n yk m).run P w = .ok v w ∧ flat1 v = true := by
  unfold ishift at h
  split at h
  · simp at h
  · rename_i hm
    cases op <;> simp at h <;> (subst h; simp [Op.shift, hm, flat1])

theorem ibinI_ok {op : BinOp} {k : IntKind} {n m : Int} {v : Value} {t : TypeId} (hs : isShift op = false) (h : ibinI op k n m = some v) (w : World) :
    (binOp op t (.int k n) (.int k m)).run P w = .ok v w ∧ flat1 v = true := by
  cases op <;> simp [isShift] at hs <;> simp [ibinI] at h
  all_goals first
    | (subst h; simp [binOp, Op.intArith, Op.intBits, Op.intCmp, flat1]; done)
    | (obtain ⟨h0, rfl⟩ := h; simp [binOp, Op.intDiv, h0, flat1]; done)

theorem ibinS_ok {op : BinOp} {n m : ByteArray} {v : Value} {t : TypeId} (h : ibinS op n m = some v) (w : World) :
    (binOp op t (.string n) (.string m)).run P w = .ok v w ∧ flat1 v = true := by
  cases op <;> simp [ibinS] at h
  case add =>
    obtain ⟨h0, rfl⟩ := h
    have h1 : ¬ ((n.size + m.size : Nat) : Int) > IntKind.i64.max := by
      have : IntKind.i64.max = 9223372036854775807 := by simp [IntKind.max, IntKind.signed, IntKind.bits]
      omega
    refine ⟨?_, rfl⟩
    simp only [binOp, Op.stringOp]
    rw [if_neg h1]
    rfl
  all_goals (subst h; simp [binOp, Op.stringOp, flat1])

theorem ibin_ok {op : BinOp} {x y v : Value} {t : TypeId} {ox oy : Operand} (h : ibin op x y = some v) (w : World) :
    ((do eqGuard op t ox oy x y; binOp op t x y : Sem Value)).run P w = .ok v w ∧ flat1 v = true := by
  unfold ibin at h
  split at h
  · rename_i k n k' m
    split at h
    · rename_i hs
      have := ishift_ok (P := P) (yk := k') h w
      cases op <;> simp [isShift] at hs <;> simp [eqGuard_int, binOp, this]
    · rename_i hs
      split at h
      · rename_i hk; subst hk
        have := ibinI_ok (P := P) (t := t) (by simpa using hs) h w
        simp [eqGuard_int, this]
      · simp at h
  · have := ibinS_ok (P := P) (t := t) h w
    simp [eqGuard_str, this]
  · rename_i k n k' m
    split at h
    · split at h
      · rename_i hk; subst hk
        split at h
        · rename_i r hr
          simp at h; subst h
          simp [eqGuard, binOp, Op.floatArith, hr, flat1]
        · simp at h
      · simp at h
    · simp at h
  · simp at h

theorem ibin_flat {op : BinOp} {x y v : Value} (h : ibin op x y = some v) : flat1 x = true ∧ flat1 y = true := by
  unfold ibin at h
  split at h <;> first | (simp [flat1]; done) | (simp at h; done)

theorem p_bin {op : BinOp} {t t' : TypeId} {x y : Operand} (hx : opndOk LB x = true) (hy : opndOk LB y = true) (hop : OpOk LB F f a ⟨dst, .binOp op t x y t', ty, pos, after, guard⟩)
    (hv : iop call lo (.bin op x y) f h = some (v, h')) : h' = h ∧ Says P a ⟨dst, .binOp op t x y t', ty, pos, after, guard⟩ F v := by
  simp only [iop] at hv
  split at hv <;> try (simp at hv; done)
  rename_i u u' hu hu'
  split at hv <;> simp at hv
  rename_i r hr
  obtain ⟨rfl, rfl⟩ := hv
  obtain ⟨f1, f2⟩ := ibin_flat hr
  have e1 := (hop x (by simp [Op.operands]) hx _ hu).eq_flat1 f1
  have e2 := (hop y (by simp [Op.operands]) hy _ hu').eq_flat1 f2
  refine ⟨rfl, _, fun w => ?_, VR.flat1 (ibin_ok (P := P) (t := t) (ox := x) (oy := y) hr default).2⟩
  have := (ibin_ok (P := P) (t := t) (ox := x) (oy := y) hr w).1
  simp only [execOp, e1, e2]
  simp only [Sem.run_bind] at this ⊢
  rw [this]
  simp

theorem p_un {op : UnOp} {t : TypeId} {x : Operand} (hx : opndOk LB x = true) (hop : OpOk LB F f a ⟨dst, .unOp op t x, ty, pos, after, guard⟩)
    (hv : iop call lo (.un op x) f h = some (v, h')) : h' = h ∧ Says P a ⟨dst, .unOp op t x, ty, pos, after, guard⟩ F v := by
  simp only [iop] at hv
  split at hv <;> try (simp at hv; done)
  rename_i u hu
  split at hv <;> simp at hv
  rename_i r hr
  obtain ⟨rfl, rfl⟩ := hv
  have hxv := hop x (by simp [Op.operands]) hx _ hu
  refine ⟨rfl, r, fun w => ?_, ?_⟩
  · unfold iun at hr
    split at hr
    · have e1 := hxv.eq_flat1 rfl
      simp at hr; subst hr; simp [execOp, e1, Op.unary, Op.intArith]
    · have e1 := hxv.eq_flat1 rfl
      simp at hr; subst hr; simp [execOp, e1, Op.unary]
    · have e1 := hxv.eq_flat1 rfl
      simp [ibinI] at hr; subst hr; simp [execOp, e1, Op.unary, Op.intBits]
    · simp at hr
  · unfold iun at hr
    split at hr
    · simp at hr; subst hr; exact .int _ _
    · simp at hr; subst hr; exact .bool _
    · simp [ibinI] at hr; subst hr; exact .int _ _
    · simp at hr

theorem p_mkif {t : TypeId} {x : Operand} (hx : opndOk LB x = true) (ht : ∀ ms, P.underlying t ≠ some (.interface ms)) (ht' : P.underlying t ≠ none)
    (hop : OpOk LB F f a ⟨dst, .makeInterface t x, ty, pos, after, guard⟩)
    (hv : iop call lo (.mkif t x) f h = some (v, h')) : h' = h ∧ Says P a ⟨dst, .makeInterface t x, ty, pos, after, guard⟩ F v := by
  simp only [iop] at hv
  split at hv <;> simp at hv
  rename_i u hu
  obtain ⟨rfl, rfl⟩ := hv
  refine ⟨rfl, .iface t (a.eval x), fun w => ?_, .iface _ _ _ (hop x (by simp [Op.operands]) hx _ hu)⟩
  cases hd : P.underlying t with
  | none => exact absurd hd ht'
  | some d =>
    have hr := run_underlying hd w
    cases d <;> first
      | (simp [execOp, Instr.makeInterface, hr]; done)
      | exact absurd hd (ht _)

theorem p_mkfn {fn : Fn} {first caps : Array Operand} (h1 : first.toList.all (opndOk LB) = true) (h2 : caps.toList.all (opndOk LB) = true)
    (hop : OpOk LB F f a ⟨dst, .makeFunc fn first caps, ty, pos, after, guard⟩)
    (hv : iop call lo (.mkfn fn first.toList caps.toList) f h = some (v, h')) : h' = h ∧ Says P a ⟨dst, .makeFunc fn first caps, ty, pos, after, guard⟩ F v := by
  simp only [iop] at hv
  split at hv <;> simp at hv
  rename_i us us' hu hu'
  obtain ⟨rfl, rfl⟩ := hv
  refine ⟨rfl, .func fn (first.map a.eval) (caps.map a.eval), fun w => by simp [execOp, Instr.makeFunc], .func _ _ _ _ _ ?_ ?_⟩
  · simpa using evs_ok (a := a) h1 (fun x hx => hop x (by simp [Op.operands]; left; simpa using hx)) hu
  · simpa using evs_ok (a := a) h2 (fun x hx => hop x (by simp [Op.operands]; right; simpa using hx)) hu'

theorem p_extract {x : Operand} {i : Nat} (hx : opndOk LB x = true) (hop : OpOk LB F f a ⟨dst, .extract x i, ty, pos, after, guard⟩)
    (hv : iop call lo (.extract x i) f h = some (v, h')) : h' = h ∧ Says P a ⟨dst, .extract x i, ty, pos, after, guard⟩ F v := by
  simp only [iop] at hv
  split at hv <;> try (simp at hv; done)
  rename_i vs hu
  split at hv <;> simp at hv
  rename_i r hr
  obtain ⟨rfl, rfl⟩ := hv
  have hxv := hop x (by simp [Op.operands]) hx _ hu
  generalize hce : a.eval x = cv at hxv
  cases hxv
  rename_i cs hcs
  obtain ⟨c, h1, h2⟩ := hcs.get hr
  exact ⟨rfl, c, fun w => by simp at h1; simp [execOp, hce, Instr.extract, h1], h2⟩

theorem p_faddr {t u : TypeId} {fi off : Nat} {x : Operand} (hf : fieldOf P t fi = some (off, u)) (hx : opndOk LB x = true) (hop : OpOk LB F f a ⟨dst, .fieldAddr t x fi, ty, pos, after, guard⟩)
    (hv : iop call lo (.faddr off x) f h = some (v, h')) : h' = h ∧ Says P a ⟨dst, .fieldAddr t x fi, ty, pos, after, guard⟩ F v := by
  obtain ⟨fs, fd, hu1, hfd, rfl, rfl, hsz⟩ := fieldOf_of hf
  simp only [iop] at hv
  split at hv <;> simp at hv
  rename_i ad hu
  obtain ⟨rfl, rfl⟩ := hv
  have hxv := hop x (by simp [Op.operands]) hx _ hu
  generalize hce : a.eval x = cv at hxv
  cases hxv with
  | ptr _ c e hs he hc =>
    obtain ⟨n, hn⟩ := hsz
    have hr1 := fun w => run_underlying hu1 w
    refine ⟨rfl, .pointer (some (c.add fd.offset)), fun w => ?_, .ptr _ _ e rfl he (fun x hx => ?_)⟩
    · simp [execOp, hce, Instr.fieldAt, hr1, hfd, Instr.sureAddr, fieldPlace, run_sizeOf' hn]
    · rw [hc x hx]
      unfold Addr.add
      split <;> simp_all <;> omega

theorem p_field {t u : TypeId} {fi off : Nat} {n : Option Nat} {x : Operand} (hf : fieldOf P t fi = some (off, u)) (hn : tyN P u = some n) (hx : opndOk LB x = true)
    (hop : OpOk LB F f a ⟨dst, .field t x fi, ty, pos, after, guard⟩)
    (hv : iop call lo (.field off n x) f h = some (v, h')) : h' = h ∧ Says P a ⟨dst, .field t x fi, ty, pos, after, guard⟩ F v := by
  obtain ⟨fs, fd, hu1, hfd, rfl, rfl, hsz⟩ := fieldOf_of hf
  simp only [iop] at hv
  split at hv <;> try (simp at hv; done)
  rename_i cs hu
  split at hv <;> simp at hv
  rename_i r hr
  obtain ⟨rfl, rfl⟩ := hv
  have hxv := hop x (by simp [Op.operands]) hx _ hu
  generalize hce : a.eval x = cv at hxv
  cases hxv with
  | agg _ ds hds =>
    obtain ⟨c, h1, h2⟩ := part_ok_all hn hds hr
    exact ⟨rfl, c, fun w => by simp [execOp, hce, Instr.field, run_underlying hu1, hfd, asAgg, h1], h2⟩

theorem p_index {t e : TypeId} {len s : Nat} {n : Option Nat} {x i : Operand} (hu1 : P.underlying t = some (.array len e)) (hs : tySize P e = some s) (hn : tyN P e = some n)
    (hx : opndOk LB x = true) (hi : opndOk LB i = true) (hop : OpOk LB F f a ⟨dst, .index t x i, ty, pos, after, guard⟩)
    (hv : iop call lo (.index len s n x i) f h = some (v, h')) : h' = h ∧ Says P a ⟨dst, .index t x i, ty, pos, after, guard⟩ F v := by
  simp only [iop] at hv
  split at hv <;> try (simp at hv; done)
  rename_i cs k ix hu hi'
  split at hv <;> try (simp at hv; done)
  rename_i hb
  split at hv <;> simp at hv
  rename_i r hr
  obtain ⟨rfl, rfl⟩ := hv
  have hxv := hop x (by simp [Op.operands]) hx _ hu
  have hiv := (hop i (by simp [Op.operands]) hi _ hi').eq_flat1 rfl
  generalize hce : a.eval x = cv at hxv
  cases hxv with
  | agg _ ds hds =>
    obtain ⟨c, h1, h2⟩ := part_ok_all hn hds hr
    exact ⟨rfl, c, fun w => by simp [execOp, hce, hiv, Instr.index, asIntOf, run_underlying hu1, hb, run_sizeOf' hs, h1], h2⟩

theorem p_indexS {t : TypeId} {x i : Operand} (hu1 : P.underlying t = some .string)
    (hx : opndOk LB x = true) (hi : opndOk LB i = true) (hop : OpOk LB F f a ⟨dst, .index t x i, ty, pos, after, guard⟩)
    (hv : iop call lo (.indexS x i) f h = some (v, h')) : h' = h ∧ Says P a ⟨dst, .index t x i, ty, pos, after, guard⟩ F v := by
  simp only [iop] at hv
  split at hv <;> try (simp at hv; done)
  rename_i s k ix hu hi'
  split at hv <;> try (simp at hv; done)
  rename_i hb
  split at hv <;> simp at hv
  rename_i r hr
  obtain ⟨rfl, rfl⟩ := hv
  have hxv := (hop x (by simp [Op.operands]) hx _ hu).eq_flat1 rfl
  have hiv := (hop i (by simp [Op.operands]) hi _ hi').eq_flat1 rfl
  refine ⟨rfl, _, fun w => ?_, .int _ _⟩
  have hs : s[ix.toNat]? = some r := by
    have h1 : ix.toNat < s.data.toList.length := by
      rcases Nat.lt_or_ge ix.toNat s.data.toList.length with h2 | h2
      · exact h2
      · rw [List.getElem?_eq_none h2] at hr; cases hr
    have h3 : ix.toNat < s.size := by simpa using h1
    rw [getElem?_pos s ix.toNat h3]
    rw [List.getElem?_eq_getElem h1] at hr
    simp at hr
    rw [← hr]
    rfl
  simp [execOp, hxv, hiv, Instr.index, asIntOf, run_underlying hu1, hb, hs]

theorem p_iaddrA {t e : TypeId} {len s : Nat} {x i : Operand} (hu1 : P.underlying t = some (.array len e)) (hs : tySize P e = some s)
    (hx : opndOk LB x = true) (hi : opndOk LB i = true) (hop : OpOk LB F f a ⟨dst, .indexAddr t x i, ty, pos, after, guard⟩)
    (hv : iop call lo (.iaddr (some len) s x i) f h = some (v, h')) : h' = h ∧ Says P a ⟨dst, .indexAddr t x i, ty, pos, after, guard⟩ F v := by
  simp only [iop] at hv
  split at hv <;> try (simp at hv; done)
  rename_i u k ix hu hi'
  split at hv <;> (try (simp at hv; done)) <;> (try contradiction)
  · rename_i len' ad e1
    injection e1 with e1; subst e1
    split at hv <;> simp at hv
    rename_i hb
    obtain ⟨rfl, rfl⟩ := hv
    have hxv := hop x (by simp [Op.operands]) hx _ hu
    have hiv := (hop i (by simp [Op.operands]) hi _ hi').eq_flat1 rfl
    generalize hce : a.eval x = cv at hxv
    cases hxv with
    | ptr _ c e hsp he hc =>
      refine ⟨rfl, .pointer (some (c.add (ix.toNat * s))), fun w => ?_, .ptr _ _ e rfl he (fun x hx => ?_)⟩
      · simp [execOp, hce, hiv, Instr.indexAt, asIntOf, run_underlying hu1, Instr.sureAddr, hb, run_sizeOf' hs]
      · rw [hc x hx]
        unfold Addr.add
        split <;> simp_all <;> omega

theorem p_iaddrS {t e : TypeId} {s : Nat} {x i : Operand} (hu1 : P.underlying t = some (.slice e)) (hs : tySize P e = some s)
    (hx : opndOk LB x = true) (hi : opndOk LB i = true) (hop : OpOk LB F f a ⟨dst, .indexAddr t x i, ty, pos, after, guard⟩)
    (hv : iop call lo (.iaddr none s x i) f h = some (v, h')) : h' = h ∧ Says P a ⟨dst, .indexAddr t x i, ty, pos, after, guard⟩ F v := by
  simp only [iop] at hv
  split at hv <;> try (simp at hv; done)
  rename_i u k ix hu hi'
  split at hv <;> (try (simp at hv; done)) <;> (try contradiction)
  rename_i ad len cap e1
  split at hv <;> simp at hv
  rename_i hb
  obtain ⟨rfl, rfl⟩ := hv
  have hxv := hop x (by simp [Op.operands]) hx _ hu
  have hiv := (hop i (by simp [Op.operands]) hi _ hi').eq_flat1 rfl
  generalize hce : a.eval x = cv at hxv
  cases hxv with
  | slice _ c _ _ e hsp he hn hc =>
    refine ⟨rfl, .pointer (some (c.add (ix.toNat * s))), fun w => ?_, .ptr _ _ e rfl he (fun x hx => ?_)⟩
    · simp [execOp, hce, hiv, Instr.indexAt, asIntOf, run_underlying hu1, hb, run_sizeOf' hs]
    · rw [hc x hx (by omega)]
      unfold Addr.add
      split <;> simp_all <;> omega
  | loose _ c _ _ cap' e hsp he hn hc =>
    refine ⟨rfl, .pointer (some (c.add (ix.toNat * s))), fun w => ?_, .ptr _ _ e rfl he (fun x hx => ?_)⟩
    · simp [execOp, hce, hiv, Instr.indexAt, asIntOf, run_underlying hu1, hb, run_sizeOf' hs]
    · obtain ⟨h1, h2, h3, h4⟩ := hc x hx
      have h5 := h3 (by omega)
      clear h3 h4 hc
      obtain ⟨cb, co, cs⟩ := c
      simp only at h1 h2 h5
      subst h1 h2 h5
      unfold Addr.add
      split <;> simp_all <;> omega

theorem p_nilchk {x : Operand} (hx : opndOk LB x = true) (hop : OpOk LB F f a ⟨dst, .nilCheck x, ty, pos, after, guard⟩)
    (hv : iop call lo (.nilchk x) f h = some (v, h')) : h' = h ∧ Says P a ⟨dst, .nilCheck x, ty, pos, after, guard⟩ F v := by
  simp only [iop] at hv
  split at hv <;> simp at hv
  all_goals
    rename_i hu
    obtain ⟨rfl, rfl⟩ := hv
    have hxv := hop x (by simp [Op.operands]) hx _ hu
    generalize hce : a.eval x = cv at hxv
    cases hxv
  · exact ⟨rfl, a.eval x, fun w => by simp [execOp, hce], by rw [hce]; exact .ptr _ _ _ (by assumption) (by assumption) (by assumption)⟩
  · exact ⟨rfl, a.eval x, fun w => by simp [execOp, hce], by rw [hce]; exact .iface _ _ _ (by assumption)⟩
  · exact ⟨rfl, a.eval x, fun w => by simp [execOp, hce], by rw [hce]; exact .func _ _ _ _ _ (by assumption) (by assumption)⟩

theorem nilAhead_tab {name : String} {t g : Nat} (h : (methodTab P name).lookup t = some g) (recv : Value) (w : World) :
    (nilAhead (P.types.size + Made.depth) t recv name).run P w = .ok (some false) w := by
  have hm : (t, g) ∈ methodTab P name := by
    generalize methodTab P name = l at h
    induction l with
    | nil => simp at h
    | cons p l ih =>
      obtain ⟨k, v⟩ := p
      simp only [List.lookup_cons] at h
      split at h
      · rename_i he
        have : t = k := by simpa using he
        injection h with h
        subst this h
        simp
      · exact List.mem_cons_of_mem _ (ih h)
  simp only [methodTab, List.mem_filterMap] at hm
  obtain ⟨t', ht', hm⟩ := hm
  split at hm <;> try (cases hm; done)
  rename_i i hi
  split at hm <;> try (cases hm; done)
  rename_i m hfind
  split at hm <;> try (cases hm; done)
  all_goals
    rename_i g' e hf hp hu
    injection hm with hm
    injection hm with e1 e2
    subst e1 e2
    have hmp : m.path.toList = [] := by
      have : m.path = #[] := by simpa using hp
      rw [this]
    obtain ⟨q, hq⟩ : ∃ q, P.types.size + Made.depth = q + 1 := ⟨P.types.size + 99, rfl⟩
    rw [hq]
    simp only [nilAhead, Sem.run_bind, run_typeInfo (w := w) hi, Result.andThen_ok, hfind, hmp, followBlind, Sem.run_pure, hf, run_underlying hu]

theorem p_nilchkm {x : Operand} {name : String} (hx : opndOk LB x = true) (hop : OpOk LB F f a ⟨dst, .nilCheck x, ty, pos, after, guard⟩)
    (hv : iop call lo (.nilchkm name (methodTab P name) x) f h = some (v, h')) : h' = h ∧ Says P a ⟨dst, .nilCheck x, ty, pos, after, guard⟩ F v := by
  simp only [iop] at hv
  split at hv <;> try (cases hv; done)
  rename_i n a1 b1 hu
  split at hv <;> try (cases hv; done)
  rename_i hn
  subst hn
  split at hv <;> try (cases hv; done)
  rename_i t u r hl
  split at hv <;> try (cases hv; done)
  rename_i g hg
  injection hv with hv
  injection hv with e1 e2
  subst e1 e2
  have hxv := hop x (by simp [Op.operands]) hx _ hu
  generalize hce : a.eval x = cv at hxv
  cases hxv with
  | func _ _ f' _ c' hf hc =>
    have hf0 := hf
    rw [hl] at hf
    generalize hfl : f'.toList = fl at hf
    cases hf with
    | cons _ c _ cs h1 h2 =>
      cases h1 with
      | iface _ _ c1 h3 =>
        have e0 : f'[0]? = some (Value.iface t c1) := by rw [← Array.getElem?_toList, hfl]; rfl
        refine ⟨rfl, .func (.method n) f' c', fun w => ?_, .func _ _ _ _ _ hf0 hc⟩
        have := nilAhead_tab hg c1 w
        simp only [execOp, hce, e0, Sem.run_bind, run_program, Result.andThen_ok, this]
        simp

theorem p_conv {s d : TypeId} {k : ConvK} {x : Operand} (hx : opndOk LB x = true)
    (hk : (∃ j j', P.underlying s = some (.int j) ∧ P.underlying d = some (.int j') ∧ k = .int j') ∨ (∃ j j', P.underlying s = some (.float j) ∧ P.underlying d = some (.int j') ∧ k = .int j') ∨
      (∃ j j', P.underlying s = some (.int j) ∧ P.underlying d = some (.float j') ∧ k = .float j') ∨ (P.underlying s = some .string ∧ P.underlying d = some .string ∧ k = .same))
    (hop : OpOk LB F f a ⟨dst, .convert s d x, ty, pos, after, guard⟩)
    (hv : iop call lo (.conv k x) f h = some (v, h')) : h' = h ∧ Says P a ⟨dst, .convert s d x, ty, pos, after, guard⟩ F v := by
  simp only [iop] at hv
  split at hv <;> try (simp at hv; done)
  rename_i u hu
  split at hv <;> simp at hv
  rename_i r hr
  obtain ⟨rfl, rfl⟩ := hv
  have hxv := hop x (by simp [Op.operands]) hx _ hu
  rcases hk with ⟨j, j', h1, h2, rfl⟩ | ⟨j, j', h1, h2, rfl⟩ | ⟨j, j', h1, h2, rfl⟩ | ⟨h1, h2, rfl⟩
  all_goals
    have hr1 := fun w => run_underlying h1 w
    have hr2 := fun w => run_underlying h2 w
    unfold iconv at hr
    split at hr <;> (try simp at hr) <;> (try contradiction)
  · rename_i e; injection e with e; subst e; subst hr
    have e1 := hxv.eq_flat1 rfl
    exact ⟨rfl, _, fun w => by simp [execOp, e1, convert, hr1, hr2, Conv.intToInt], .int _ _⟩
  · rename_i e; injection e with e; subst e
    split at hr <;> simp at hr
    rename_i n hn
    obtain ⟨hb, rfl⟩ := hr
    have e1 := hxv.eq_flat1 rfl
    exact ⟨rfl, _, fun w => by simp [execOp, e1, convert, hr1, hr2, Conv.floatToInt, hn, hb], .int _ _⟩
  · rename_i e; injection e with e; subst e; subst hr
    have e1 := hxv.eq_flat1 rfl
    exact ⟨rfl, _, fun w => by simp [execOp, e1, convert, hr1, hr2, Conv.intToInt], .int _ _⟩
  · rename_i e; injection e with e; subst e
    split at hr <;> simp at hr
    rename_i n hn
    obtain ⟨hb, rfl⟩ := hr
    have e1 := hxv.eq_flat1 rfl
    exact ⟨rfl, _, fun w => by simp [execOp, e1, convert, hr1, hr2, Conv.floatToInt, hn, hb], .int _ _⟩
  · rename_i e; injection e with e; subst e; subst hr
    have e1 := hxv.eq_flat1 rfl
    exact ⟨rfl, _, fun w => by simp [execOp, e1, convert, hr1, hr2, Conv.intToFloat], .float _ _⟩
  · subst hr
    have e1 := hxv.eq_flat1 rfl
    exact ⟨rfl, _, fun w => by simp [execOp, e1, convert, hr1, hr2], .string _⟩

end
end Go.Ir
