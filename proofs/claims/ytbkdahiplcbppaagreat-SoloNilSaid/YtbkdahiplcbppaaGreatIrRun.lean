/- The interpreter's runs: heaps are kept below 'lo'. -/
import Derived.Test.YtbkdahiplcbppaaGreatIrReg13
import Derived.Scope
set_option linter.unusedVariables false
set_option linter.unusedSimpArgs false
namespace Go.Ir

/-- From one heap to a later one: longer, and the same below lo. -/
structure Kp (lo : Nat) (h h' : Heap) : Prop where
  len : h.length ≤ h'.length
  keep : lo ≤ h.length → ∀ i, i < lo → h'[i]? = h[i]?

theorem Kp.refl (lo : Nat) (h : Heap) : Kp lo h h := ⟨Nat.le_refl _, fun _ _ _ => rfl⟩
theorem Kp.trans {lo : Nat} {h h' h'' : Heap} (a : Kp lo h h') (b : Kp lo h' h'') : Kp lo h h'' :=
  ⟨Nat.le_trans a.len b.len, fun hl i hi => (b.keep (Nat.le_trans hl a.len) i hi).trans (a.keep hl i hi)⟩
theorem Kp.append {lo : Nat} {h : Heap} (k : List Blk) : Kp lo h (h ++ k) := ⟨by simp, fun hl i hi => List.getElem?_append_left (by omega)⟩
theorem Kp.set {lo i : Nat} {h : Heap} {k : Blk} (hi : lo ≤ i) : Kp lo h (h.set i k) := ⟨by simp, fun hl j hj => List.getElem?_set_ne (by omega)⟩

def CallKp (lo : Nat) (call : CallF) : Prop := ∀ g vs h v h', call g vs h = some (v, h') → Kp lo h h'

theorem stN_kp {lo : Nat} {h h' : Heap} {a : Addr} {vs : List Value} (hs : stN lo h a vs = some h') : Kp lo h h' := by
  unfold stN at hs
  split at hs <;> try (cases hs; done)
  obtain ⟨hl, hs⟩ := ifSomeO hs
  obtain ⟨_, hs⟩ := ifSomeO hs
  obtain ⟨_, rfl⟩ := ifSome hs
  exact .set hl

theorem iappend_kp {lo esz bytes : Nat} {h h' : Heap} {x y v : Value} (hs : iappend lo esz bytes h x y = some (v, h')) : Kp lo h h' := by
  unfold iappend at hs
  split at hs <;> try (cases hs; done)
  obtain ⟨_, hs⟩ := ifSomeO hs
  split at hs <;> try (cases hs; done)
  split at hs
  · split at hs
    · injection hs with hs; injection hs with _ e; subst e; exact .refl _ _
    · injection hs with hs; injection hs with _ e; subst e; exact .append _
  · split at hs
    · split at hs
      · split at hs
        · injection hs with hs; injection hs with _ e; subst e; exact .refl _ _
        · split at hs <;> try (cases hs; done)
          rename_i h1
          injection hs with hs; injection hs with _ e; subst e
          exact stN_kp h1
      · split at hs <;> try (cases hs; done)
        injection hs with hs; injection hs with _ e; subst e; exact .append _
    · split at hs
      · injection hs with hs; injection hs with _ e; subst e; exact .refl _ _
      · split at hs <;> try (cases hs; done)
        obtain ⟨hc, hs⟩ := ifSome hs
        injection hs with _ e; subst e; exact (Kp.set hc.2).trans (.append _)

theorem iop_kp {call : CallF} {lo : Nat} (hk : CallKp lo call) {o : IOp} {f : Fr} {h h' : Heap} {v : Value} (hv : iop call lo o f h = some (v, h')) : Kp lo h h' := by
  cases hal : isAlloc o with
  | true => obtain ⟨k, rfl⟩ := iop_alloc hal hv; exact .append _
  | false =>
    cases hef : isEff o with
    | false => rw [iop_same hef hal hv]; exact .refl _ _
    | true =>
      have fin : ∀ {u : Value} {k : Heap}, (some (u, k) : Option (Value × Heap)) = some (v, h') → Kp lo h k → Kp lo h h' := fun e l => by
        injection e with e; injection e with _ e; subst e; exact l
      cases o <;> simp [isEff] at hef <;> simp only [iop] at hv
      case store n x y =>
        split at hv <;> try (cases hv; done)
        obtain ⟨_, hv⟩ := ifSomeO hv
        split at hv <;> try (cases hv; done)
        rename_i h1
        exact fin hv (stN_kp h1)
      case call g args =>
        split at hv <;> try (cases hv; done)
        exact hk _ _ _ _ _ hv
      case callv x args =>
        split at hv <;> try (cases hv; done)
        split at hv <;> try (cases hv; done)
        exact hk _ _ _ _ _ hv
      case invoke tab x args =>
        split at hv <;> try (cases hv; done)
        split at hv <;> try (cases hv; done)
        exact hk _ _ _ _ _ hv
      case append esz bytes x y =>
        split at hv <;> try (cases hv; done)
        exact iappend_kp hv
      case copy esz x y =>
        split at hv <;> try (cases hv; done)
        split at hv <;> try (cases hv; done)
        split at hv <;> try (cases hv; done)
        split at hv
        · exact fin hv (.refl _ _)
        · split at hv
          · exact fin hv (.refl _ _)
          · split at hv <;> try (cases hv; done)
            rename_i h1
            exact fin hv (stN_kp h1)
      case clear esz zero x =>
        split at hv <;> try (cases hv; done)
        split at hv
        · exact fin hv (.refl _ _)
        · split at hv
          · exact fin hv (.refl _ _)
          · split at hv <;> try (cases hv; done)
            rename_i h1
            exact fin hv (stN_kp h1)
      case mapupd m k x =>
        split at hv <;> try (cases hv; done)
        obtain ⟨hc, hv⟩ := ifSomeO hv
        split at hv <;> try (cases hv; done)
        split at hv <;> try (cases hv; done)
        exact fin hv (.set hc.2)
      case mapdel m k =>
        split at hv <;> try (cases hv; done)
        obtain ⟨_, hv⟩ := ifSomeO hv
        split at hv
        · exact fin hv (.refl _ _)
        · obtain ⟨hc, hv⟩ := ifSomeO hv
          split at hv <;> try (cases hv; done)
          split at hv <;> try (cases hv; done)
          exact fin hv (.set hc)

theorem iops_kp {call : CallF} {lo : Nat} (hk : CallKp lo call) : ∀ {os : List IOper} {f f' : Fr} {h h' : Heap} {hs : List Heap}, iops call lo os f h hs = some (f', h') → Kp lo h h'
  | [], f, f', h, h', hs, hv => by simp [iops] at hv; rw [hv.2]; exact .refl _ _
  | o :: os, f, f', h, h', hs, hv => by
    simp only [iops] at hv
    split at hv <;> try (cases hv; done)
    · exact iops_kp hk hv
    · split at hv <;> try (cases hv; done)
      rename_i hi
      obtain ⟨_, hv⟩ := ifSomeO hv
      exact (iop_kp hk hi).trans (iops_kp hk hv)

theorem tidy1_kp {n0 : Nat} {h' : Heap} {v v' : Value} {acc acc' : Heap} (ht : tidy1 n0 h' v acc = some (v', acc')) : acc' = acc ∨ (acc.length = n0 ∧ ∃ k, acc' = acc ++ [k]) := by
  unfold tidy1 at ht
  split at ht
  · split at ht
    · injection ht with ht; injection ht with _ e; exact .inl e.symm
    · split at ht <;> try (cases ht; done)
      obtain ⟨hc, ht⟩ := ifSome ht
      injection ht with _ e
      exact .inr ⟨hc.2, _, e.symm⟩
  · obtain ⟨_, ht⟩ := ifSome ht
    injection ht with _ e; exact .inl e.symm

theorem tidyL_kp {n0 lo : Nat} {h' : Heap} : ∀ {vs vs' : List Value} {acc acc' : Heap}, tidyL n0 h' vs acc = some (vs', acc') → Kp lo acc acc'
  | [], vs', acc, acc', ht => by simp [tidyL] at ht; rw [ht.2]; exact .refl _ _
  | v :: vs, vs', acc, acc', ht => by
    simp only [tidyL] at ht
    split at ht <;> try (cases ht; done)
    rename_i v1 acc1 h1
    split at ht <;> try (cases ht; done)
    rename_i vs1 acc2 h2
    injection ht with ht; injection ht with _ e; subst e
    have k2 := tidyL_kp (lo := lo) h2
    rcases tidy1_kp h1 with rfl | ⟨_, k, rfl⟩
    · exact k2
    · exact (Kp.append _).trans k2

theorem tidy_kp {lo : Nat} {h h' h'' : Heap} {v v' : Value} (ht : tidy h v h' = some (v', h'')) : Kp lo h h'' := by
  unfold tidy at ht
  split at ht
  · split at ht <;> try (cases ht; done)
    rename_i h1
    injection ht with ht; injection ht with _ e; subst e
    exact tidyL_kp h1
  · rcases tidy1_kp ht with rfl | ⟨_, k, rfl⟩
    · exact .refl _ _
    · exact .append _

def ExKp (ex : ExF) : Prop := ∀ lo items f h f' h', ex lo items f h = some (f', h') → Kp lo h h'
def PrimKp (E : Env) : Prop := ∀ g p, E.prim g = some p → ∀ lo vs h v h', p lo vs h = some (v, h') → Kp lo h h'

theorem callW_kp {E : Env} {ex : ExF} (hp : PrimKp E) (hx : ExKp ex) (lo : Nat) : CallKp lo (callW E ex lo) := by
  intro g vs h v h' hv
  unfold callW at hv
  split at hv
  · rename_i p hpr; exact hp g p hpr _ _ _ _ _ hv
  · split at hv <;> try (cases hv; done)
    rename_i fn hfn
    split at hv <;> try (cases hv; done)
    split at hv <;> try (cases hv; done)
    rename_i f1 h1 he
    split at hv <;> try (cases hv; done)
    rename_i v1 hr
    have hk := hx _ _ _ _ _ _ he
    split at hv
    · exact tidy_kp hv
    · rename_i hs
      injection hv with hv; injection hv with _ e; subst e
      simp only [hs] at hk
      exact hk

theorem exN_kp {E : Env} (hp : PrimKp E) : ∀ n, ExKp (exN E n)
  | 0 => fun lo items f h f' h' hv => by simp [exN] at hv
  | n + 1 => fun lo items f h f' h' hv => by
    have ih := exN_kp hp n
    cases items with
    | nil => simp [exN] at hv; rw [hv.2]; exact .refl _ _
    | cons it k =>
      cases it with
      | endB id => simp only [exN] at hv; exact ih _ _ _ _ _ _ hv
      | again ls b => simp only [exN] at hv; exact ih _ _ _ _ _ _ hv
      | inScope b => simp only [exN] at hv; exact ih _ _ _ _ _ _ hv
      | code c =>
        cases c <;> simp only [exN] at hv
        case region ops =>
          split at hv <;> try (cases hv; done)
          rename_i h1
          exact (iops_kp (callW_kp hp ih lo) h1).trans (ih _ _ _ _ _ _ hv)
        case cond c a b =>
          split at hv <;> try (cases hv; done)
          exact ih _ _ _ _ _ _ hv
        case exit id =>
          split at hv <;> try (cases hv; done)
          exact ih _ _ _ _ _ _ hv
        case goto l ls =>
          split at hv <;> try (cases hv; done)
          exact ih _ _ _ _ _ _ hv
        case ret => injection hv with hv; injection hv with _ e; subst e; exact .refl _ _
        all_goals exact ih _ _ _ _ _ _ hv

theorem callMono_of {E : Env} (hp : PrimKp E) (n lo : Nat) : CallMono (callW E (exN E n) lo) := fun g vs h v h' hv => (callW_kp hp (exN_kp hp n) lo g vs h v h' hv).len

/-! ### code -/
section
variable {P : Program} {LB : List Nat} {nt : Nat}

inductive IRel (P : Program) (LB : List Nat) (nt : Nat) : Item → Go.Item → Prop where
  | code (c : Code) (i : ICode) (hs hs' : List (List Nat)) (h : cCode P LB nt c hs = some (i, hs')) : IRel P LB nt (.code i) (.code c)
  | endB (id : Nat) : IRel P LB nt (.endB id) (.inBlock id)
  | again (ls : List Nat) (c : Code) (i : ICode) (hs hs' : List (List Nat)) (h : cCode P LB nt c hs = some (i, hs')) : IRel P LB nt (.again ls i) (.inLoop c)
  | inScope (c : Code) (i : ICode) (hs hs' : List (List Nat)) (h : cCode P LB nt c hs = some (i, hs')) : IRel P LB nt (.inScope i) (.inScope c)

inductive KRel (P : Program) (LB : List Nat) (nt : Nat) : List Item → List Go.Item → Prop where
  | nil : KRel P LB nt [] []
  | cons (x : Item) (y : Go.Item) (xs : List Item) (ys : List Go.Item) (h : IRel P LB nt x y) (hs : KRel P LB nt xs ys) : KRel P LB nt (x :: xs) (y :: ys)

theorem findI_ok : ∀ {c : Code} {i : ICode} {hs hs' : List (List Nat)} {l : Nat}, cCode P LB nt c hs = some (i, hs') →
    (∀ r, findI i l = some r → ∃ rc hs1, findLabel c l = some rc ∧ cCode P LB nt rc hs1 = some (r, hs')) ∧ (findI i l = none → findLabel c l = none) := by
  intro c
  induction c with
  | seq a b iha ihb =>
    intro i hs hs' l hc
    simp only [cCode] at hc
    split at hc <;> try (cases hc; done)
    rename_i a' hs1 ha
    split at hc <;> try (cases hc; done)
    rename_i b' hs2 hb
    injection hc with hc; injection hc with e1 e2; subst e1 e2
    obtain ⟨a1, a2⟩ := iha (l := l) ha
    obtain ⟨b1, b2⟩ := ihb (l := l) hb
    refine ⟨fun r hr => ?_, fun hr => ?_⟩
    · simp only [findI] at hr
      split at hr
      · rename_i r' hr'
        injection hr with hr; subst hr
        obtain ⟨rc, hs3, g1, g2⟩ := a1 r' hr'
        exact ⟨.seq rc b, hs3, by simp [findLabel, g1], by simp [cCode, g2, hb]⟩
      · rename_i hn
        obtain ⟨rc, hs3, g1, g2⟩ := b1 r hr
        exact ⟨rc, hs3, by simp [findLabel, a2 hn, g1], g2⟩
    · simp only [findI] at hr
      split at hr
      · cases hr
      · rename_i hn
        simp [findLabel, a2 hn, b2 hr]
  | label j =>
    intro i hs hs' l hc
    simp only [cCode, Option.some.injEq, Prod.mk.injEq] at hc
    obtain ⟨rfl, rfl⟩ := hc
    refine ⟨fun r hr => ?_, fun hr => ?_⟩
    · simp only [findI] at hr
      obtain ⟨h1, rfl⟩ := ifSome hr
      exact ⟨.skip, hs, by simp [findLabel, h1], rfl⟩
    · simp only [findI] at hr
      split at hr
      · cases hr
      · rename_i h; simp [findLabel, h]
  | _ =>
    intro i hs hs' l hc
    have hni : findI i l = none := by
      simp only [cCode] at hc
      repeat' (split at hc)
      all_goals first
        | (cases hc; done)
        | (injection hc with hc; injection hc with e1 e2; subst e1; rfl)
        | (obtain ⟨x, _, e⟩ := mapSome hc; injection e with e1 e2; subst e1; rfl)
    exact ⟨fun r hr => (by rw [hni] at hr; cases hr), fun _ => rfl⟩

theorem KRel.exit {id : Nat} : ∀ {ki k' : List Item} {k : List Go.Item}, KRel P LB nt ki k → exitI id ki = some k' → ∃ k2, exitTo id k = some k2 ∧ KRel P LB nt k' k2
  | _, _, _, .nil, h => by simp [exitI] at h
  | _, k', _, .cons x y xs ys hx hs, h => by
    cases hx with
    | endB j =>
      simp only [exitI] at h
      by_cases hj : j = id
      · rw [if_pos hj] at h
        injection h with h; subst h
        exact ⟨ys, by simp [exitTo, hj], hs⟩
      · rw [if_neg hj] at h
        obtain ⟨k2, h1, h2⟩ := hs.exit h
        exact ⟨k2, by simp [exitTo, hj, h1], h2⟩
    | code c i hs1 hs2 hc => simp only [exitI] at h; obtain ⟨k2, h1, h2⟩ := hs.exit h; exact ⟨k2, by simp [exitTo, h1], h2⟩
    | again ls c i hs1 hs2 hc => simp only [exitI] at h; obtain ⟨k2, h1, h2⟩ := hs.exit h; exact ⟨k2, by simp [exitTo, h1], h2⟩
    | inScope c i hs1 hs2 hc => simp only [exitI] at h; obtain ⟨k2, h1, h2⟩ := hs.exit h; exact ⟨k2, by simp [exitTo, h1], h2⟩

theorem KRel.goto {l : Nat} : ∀ {ki k' : List Item} {k : List Go.Item}, KRel P LB nt ki k → gotoI l ki = some k' → ∃ k2, gotoIn l k = some k2 ∧ KRel P LB nt k' k2
  | _, _, _, .nil, h => by simp [gotoI] at h
  | _, k', _, .cons x y xs ys hx hs, h => by
    cases hx with
    | inScope c i hs1 hs2 hc =>
      obtain ⟨f1, f2⟩ := findI_ok (l := l) hc
      simp only [gotoI] at h
      split at h
      · rename_i r hr
        injection h with h; subst h
        obtain ⟨rc, hs3, g1, g2⟩ := f1 r hr
        exact ⟨_, by simp only [gotoIn, g1], .cons _ _ _ _ (.code rc r hs3 hs2 g2) (.cons _ _ _ _ (.inScope c i hs1 hs2 hc) hs)⟩
      · rename_i hn
        obtain ⟨k2, h1, h2⟩ := hs.goto h
        exact ⟨k2, by simp [gotoIn, f2 hn, h1], h2⟩
    | endB j => simp only [gotoI] at h; obtain ⟨k2, h1, h2⟩ := hs.goto h; exact ⟨k2, by simp [gotoIn, h1], h2⟩
    | code c i hs1 hs2 hc => simp only [gotoI] at h; obtain ⟨k2, h1, h2⟩ := hs.goto h; exact ⟨k2, by simp [gotoIn, h1], h2⟩
    | again ls c i hs1 hs2 hc => simp only [gotoI] at h; obtain ⟨k2, h1, h2⟩ := hs.goto h; exact ⟨k2, by simp [gotoIn, h1], h2⟩

theorem fget_keep {f : Fr} {t : Nat} {v : Value} : ∀ {ls : List Nat}, fget (keep ls f) t = some v → fget f t = some v
  | [], h => by simp [keep, fget] at h
  | s :: ls, h => by
    simp only [keep] at h
    split at h
    · rename_i u hu
      simp only [fget] at h
      split at h
      · rename_i e; subst e; injection h with h; subst h; exact hu
      · exact fget_keep h
    · exact fget_keep h

theorem Fram.keep {B0 : Nat} {w0 : World} {Ef : Emb} {wf : World} {D : List Deferred} {E : Emb} {bx : Nat → Nat} {f : Fr} {h : Heap} {a : Act} {w : World} (fr : Fram B0 w0 LB nt Ef wf D E bx f h a w) (ls : List Nat) :
    Fram B0 w0 LB nt Ef wf D E bx (Ir.keep ls f) h a w :=
  ⟨fr.sim, fun t v hl hf => fr.slot t v hl (fget_keep hf), fun t v hl hf hv => fr.box t v hl (fget_keep hf) hv, fun t t' v v' hl hl' hne hf hf' hv hv' => fr.sep t t' v v' hl hl' hne (fget_keep hf) (fget_keep hf') hv hv',
    fr.later, fr.tmps, fr.defers⟩

end
end Go.Ir
