/- The interpreter's word holds of the machine. -/
import Derived.Test.YtbkdahiplcbppaaGreatIrRun
set_option linter.unusedVariables false
set_option linter.unusedSimpArgs false
namespace Go.Ir

section
variable {P : Program}

def CallsOk (P : Program) (E : Env) (n : Nat) : Prop := ∀ (B0 : Nat) (w0 : World) (lo : Nat), B0 ≤ w0.heap.size → CallOk P B0 w0 (callW E (exN E n) lo)

def ExOk (P : Program) (E : Env) (n : Nat) : Prop :=
  ∀ (B0 : Nat) (w0 : World) (LB : List Nat) (nt : Nat) (Ef : Emb) (wf : World) (D : List Deferred), B0 ≤ w0.heap.size →
  ∀ (lo : Nat) (items : List Item) (f : Fr) (h : Heap) (f' : Fr) (h' : Heap), exN E n lo items f h = some (f', h') →
  ∀ (k : List Go.Item) (Em : Emb) (bx : Nat → Nat) (a : Act) (w : World), KRel P LB nt items k → Fram B0 w0 LB nt Ef wf D Em bx f h a w →
  ∀ (b : Frame) (cs : List Frame), ∃ a' w' Em' bx' todo, Fram B0 w0 LB nt Ef wf D Em' bx' f' h' a' w' ∧ Steps P (lone (b.at a k) cs w) (lone { b.at a' todo with mode := .returning } cs w')

theorem exN_ok (E : Env) (hp : PrimKp E) (hmix : P.follows .mixedOrders = true) : ∀ n, (∀ m, m < n → CallsOk P E m) → ExOk P E n
  | 0, _ => fun _ _ _ _ _ _ _ _ lo items f h f' h' hv => by simp [exN] at hv
  | n + 1, hcalls => by
    have ih := exN_ok E hp hmix n fun m hm => hcalls m (by omega)
    intro B0 w0 LB nt Ef wf D hB0 lo items f h f' h' hv k Em bx a w hk fr b cs
    -- one step, then the rest
    have go : ∀ {items1 : List Item} {f1 : Fr} {h1 : Heap} {k1 : List Go.Item} {Em1 : Emb} {bx1 : Nat → Nat} {a1 : Act} {w1 : World}, exN E n lo items1 f1 h1 = some (f', h') → KRel P LB nt items1 k1 →
        Fram B0 w0 LB nt Ef wf D Em1 bx1 f1 h1 a1 w1 → Steps P (lone (b.at a k) cs w) (lone (b.at a1 k1) cs w1) →
        ∃ a' w' Em' bx' todo, Fram B0 w0 LB nt Ef wf D Em' bx' f' h' a' w' ∧ Steps P (lone (b.at a k) cs w) (lone { b.at a' todo with mode := .returning } cs w') := fun h1 h2 h3 h4 => by
      obtain ⟨a', w', Em', bx', todo, g1, g2⟩ := ih B0 w0 LB nt Ef wf D hB0 lo _ _ _ f' h' h1 _ _ _ _ _ h2 h3 b cs
      exact ⟨a', w', Em', bx', todo, g1, h4.trans g2⟩
    cases hk with
    | nil =>
      simp only [exN, Option.some.injEq, Prod.mk.injEq] at hv
      obtain ⟨rfl, rfl⟩ := hv
      exact ⟨a, w, Em, bx, [], fr, .one step_end⟩
    | cons x y xs ys hx hs =>
      cases hx with
      | endB id => simp only [exN] at hv; exact go hv hs fr (.one step_inBlock)
      | inScope c i hs1 hs2 hc => simp only [exN] at hv; exact go hv hs fr (.one step_inScope)
      | again ls c i hs1 hs2 hc =>
        simp only [exN] at hv
        exact go hv (.cons _ _ _ _ (.code c i hs1 hs2 hc) (.cons _ _ _ _ (.again ls c i hs1 hs2 hc) hs)) (fr.keep ls) (.one step_inLoop)
      | code c i hs1 hs2 hc =>
        cases c with
        | skip =>
          simp only [cCode, Option.some.injEq, Prod.mk.injEq] at hc
          obtain ⟨rfl, rfl⟩ := hc
          simp only [exN] at hv
          exact go hv hs fr (.one step_skip)
        | region id ops draw =>
          simp only [cCode] at hc
          obtain ⟨l, hl, e⟩ := mapSome hc
          injection e with e1 e2
          subst e1 e2
          simp only [exN] at hv
          split at hv <;> try (cases hv; done)
          rename_i f1 h1 hio
          obtain ⟨e, a1, w1, ⟨he, Em1, bx1, fr1⟩, harr⟩ := region_wp (id := id) hl (callMono_of hp n lo) hB0 (hcalls n (by omega) B0 w0 lo hB0) hmix hio fr b ys cs
          subst he
          exact go hv hs fr1 harr
        | seq c1 c2 =>
          simp only [cCode] at hc
          split at hc <;> try (cases hc; done)
          rename_i a' hs3 ha
          split at hc <;> try (cases hc; done)
          rename_i b' hs4 hb
          injection hc with hc; injection hc with e1 e2; subst e1 e2
          simp only [exN] at hv
          exact go hv (.cons _ _ _ _ (.code c1 a' hs1 hs3 ha) (.cons _ _ _ _ (.code c2 b' hs3 hs4 hb) hs)) fr (.one step_seq)
        | cond c c1 c2 =>
          simp only [cCode] at hc
          split at hc <;> try (cases hc; done)
          rename_i hok
          split at hc <;> try (cases hc; done)
          rename_i a' hs3 ha
          split at hc <;> try (cases hc; done)
          rename_i b' hs4 hb
          injection hc with hc; injection hc with e1 e2; subst e1 e2
          simp only [exN] at hv
          split at hv <;> try (cases hv; done)
          rename_i t ht
          have hvr := ev_ok (LB := LB) (F := Em) (f := f) (a := a) hok (fun t' ht' hl u hu => fr.slot t' u hl hu) ht
          generalize hce : a.eval c = cv at hvr
          cases hvr
          refine go hv (.cons _ _ _ _ ?_ hs) fr (.one (step_cond hce))
          cases t
          · exact .code c2 b' hs3 hs4 hb
          · exact .code c1 a' hs1 hs3 ha
        | block id c1 =>
          simp only [cCode] at hc
          split at hc <;> try (cases hc; done)
          rename_i b' hs4 hb
          injection hc with hc; injection hc with e1 e2; subst e1 e2
          simp only [exN] at hv
          exact go hv (.cons _ _ _ _ (.code c1 b' hs1 hs4 hb) (.cons _ _ _ _ (.endB id) hs)) fr (.one step_block)
        | loop c1 =>
          simp only [cCode] at hc
          split at hc <;> try (cases hc; done)
          rename_i ls hs3
          split at hc <;> try (cases hc; done)
          rename_i b' hs4 hb
          injection hc with hc; injection hc with e1 e2; subst e1 e2
          simp only [exN] at hv
          exact go hv (.cons _ _ _ _ (.code c1 b' _ hs4 hb) (.cons _ _ _ _ (.again ls c1 b' _ hs4 hb) hs)) (fr.keep ls) (.one step_loop)
        | exit id =>
          simp only [cCode, Option.some.injEq, Prod.mk.injEq] at hc
          obtain ⟨rfl, rfl⟩ := hc
          simp only [exN] at hv
          split at hv <;> try (cases hv; done)
          rename_i k' hk'
          obtain ⟨k2, g1, g2⟩ := hs.exit hk'
          exact go hv g2 fr (.one (step_exit g1))
        | scope c1 =>
          simp only [cCode] at hc
          split at hc <;> try (cases hc; done)
          rename_i b' hs4 hb
          injection hc with hc; injection hc with e1 e2; subst e1 e2
          simp only [exN] at hv
          exact go hv (.cons _ _ _ _ (.code c1 b' hs1 hs4 hb) (.cons _ _ _ _ (.inScope c1 b' hs1 hs4 hb) hs)) fr (.one step_scope)
        | label l =>
          simp only [cCode, Option.some.injEq, Prod.mk.injEq] at hc
          obtain ⟨rfl, rfl⟩ := hc
          simp only [exN] at hv
          exact go hv hs fr (.one step_label)
        | goto l =>
          simp only [cCode] at hc
          split at hc <;> try (cases hc; done)
          rename_i ls hs3
          injection hc with hc; injection hc with e1 e2; subst e1 e2
          simp only [exN] at hv
          split at hv <;> try (cases hv; done)
          rename_i k' hk'
          obtain ⟨k2, g1, g2⟩ := hs.goto hk'
          exact go hv g2 (fr.keep ls) (.one (step_goto g1))
        | ret =>
          simp only [cCode, Option.some.injEq, Prod.mk.injEq] at hc
          obtain ⟨rfl, rfl⟩ := hc
          simp only [exN, Option.some.injEq, Prod.mk.injEq] at hv
          obtain ⟨rfl, rfl⟩ := hv
          exact ⟨a, w, Em, bx, _, fr, .one step_ret⟩
        | _ => simp [cCode] at hc

/-! ### results -/

theorem box_load {B0 : Nat} {E : Emb} {w : World} {cs : Array Value} {c v : Value} {b : Nat} {t : TypeId} {n : Option Nat} (hn : tyN P t = some n) (hb : Boxed B0 E w (.agg cs) c b)
    (hp : part n cs.toList 0 = some v) : ∃ d, (loadVar t ⟨b, 0, none⟩).run P w = .ok d w ∧ VR E v d := by
  obtain ⟨cs', C, ct, h1, h2, h3, h4, h5⟩ := hb
  injection h1 with h1
  subst h1
  have hag := run_isAgg' hn w
  cases n with
  | none =>
    simp only [part] at hp
    obtain ⟨d, h6, h7⟩ := h4.get hp
    refine ⟨d, ?_, h7⟩
    have : w.cell? ⟨b, 0, none⟩ = some d := by rw [cell_row h3]; simpa using h6
    simp [loadVar, hag, this]
  | some n =>
    simp only [part] at hp
    obtain ⟨hle, rfl⟩ := ifSome hp
    have hl := h4.length
    simp at hl hle
    have hr := run_loadCells_row (P := P) h3 (o := 0) (n := n) (by omega)
    refine ⟨.agg (((C.toList.drop 0).take n).toArray), ?_, .agg _ _ ?_⟩
    · simp only [loadVar, Sem.run_bind, hag, Result.andThen_ok, Option.isSome_some, if_true, run_sizeOf' (tyN_size hn), hr]
      rfl
    · simp only [List.toList_toArray]
      exact (h4.drop 0).take n

def resSem (tmps : Array Value) : ResultVar → Sem Value
  | .tmp t => pure (tmps.getD t undef)
  | .cell a t => do loadVar t (← asAddr (tmps.getD a undef))

theorem iresL_ok {B0 : Nat} {w0 : World} {LB : List Nat} {nt : Nat} {Ef : Emb} {wf : World} {D : List Deferred} {E : Emb} {bx : Nat → Nat} {f : Fr} {h : Heap} {a : Act} {w : World}
    (fr : Fram B0 w0 LB nt Ef wf D E bx f h a w) : ∀ {l : List ResultVar} {rs : List IRes} {vs : List Value}, l.mapM (cRes P LB) = some rs → iresL f h rs = some vs →
      ∃ cs : List Value, (l.mapM (resSem a.tmps)).run P w = .ok cs w ∧ VRs E vs cs
  | [], rs, vs, hm, hv => by
    simp at hm
    subst hm
    simp [iresL] at hv
    subst hv
    exact ⟨[], by simp [List.mapM_nil], .nil⟩
  | r :: l, rs, vs, hm, hv => by
    rw [List.mapM_cons] at hm
    cases hr : cRes P LB r with
    | none => rw [hr] at hm; simp at hm
    | some x =>
      rw [hr] at hm
      cases hl : l.mapM (cRes P LB) with
      | none => rw [hl] at hm; simp at hm
      | some xs =>
        rw [hl] at hm
        simp at hm
        subst hm
        simp only [iresL] at hv
        split at hv <;> try (cases hv; done)
        rename_i v hx
        split at hv <;> try (cases hv; done)
        rename_i vs' hxs
        injection hv with hv
        subst hv
        obtain ⟨cs, h1, h2⟩ := iresL_ok fr hl hxs
        have hone : ∃ c, (resSem a.tmps r).run P w = .ok c w ∧ VR E v c := by
          cases r with
          | tmp t =>
            simp only [cRes] at hr
            split at hr
            · cases hr
            · rename_i hnl
              injection hr with hr
              subst hr
              exact ⟨_, by simp [resSem], fr.slot t v (by simpa using hnl) hx⟩
          | cell t ty =>
            simp only [cRes] at hr
            obtain ⟨n, hn, hr⟩ := mapSome hr
            subst hr
            by_cases hlb : LB.contains t = true
            · rw [if_pos hlb] at hx
              simp only [ires] at hx
              split at hx <;> try (cases hx; done)
              rename_i cs0 hcs0
              obtain ⟨hb, _, _⟩ := fr.box t _ hlb hcs0 (by simp [noneV])
              obtain ⟨d, g1, g2⟩ := box_load hn hb hx
              obtain ⟨_, _, _, _, h2', _⟩ := hb
              exact ⟨d, by simp only [resSem, h2', asAddr, Sem.run_bind, Sem.run_pure, Result.andThen_ok, g1], g2⟩
            · rw [if_neg hlb] at hx
              simp only [ires] at hx
              split at hx <;> try (cases hx; done)
              rename_i ad had
              have hp := fr.slot t _ (by simpa using hlb) had
              generalize hce : a.tmps.getD t undef = cv at hp
              cases hp with
              | ptr _ c e hs he hc =>
                obtain ⟨d, g1, g2⟩ := loadV_ok (P := P) hn he hc fr.sim.has hx
                exact ⟨d, by simp only [resSem, hce, asAddr, Sem.run_bind, Sem.run_pure, Result.andThen_ok, g1], g2⟩
        obtain ⟨c, g1, g2⟩ := hone
        exact ⟨c :: cs, by simp only [List.mapM_cons, Sem.run_bind, g1, Result.andThen_ok, h1, Sem.run_pure], .cons _ _ _ _ g2 h2⟩

theorem results_eq (fn : Func) (tmps : Array Value) : Go.results fn tmps = (do let vs ← fn.results.mapM (resSem tmps); pure (if h : vs.size = 1 then vs[0] else .tuple vs)) := by
  unfold Go.results
  congr 1

theorem results_ok {B0 : Nat} {w0 : World} {LB : List Nat} {nt : Nat} {Ef : Emb} {wf : World} {D : List Deferred} {E : Emb} {bx : Nat → Nat} {f : Fr} {h : Heap} {a : Act} {w : World}
    (fr : Fram B0 w0 LB nt Ef wf D E bx f h a w) {F : Func} {rs : List IRes} {v : Value} (hm : F.results.toList.mapM (cRes P LB) = some rs) (hv : results rs f h = some v) :
    ∃ c, (Go.results F a.tmps).run P w = .ok c w ∧ VR E v c := by
  unfold results at hv
  cases hl : iresL f h rs with
  | none => rw [hl] at hv; cases hv
  | some vs =>
    rw [hl] at hv
    obtain ⟨cs, h1, h2⟩ := iresL_ok fr hm hl
    have hrun : (Go.results F a.tmps).run P w = .ok (if h : cs.toArray.size = 1 then cs.toArray[0] else .tuple cs.toArray) w := by
      rw [results_eq, Array.mapM_eq_mapM_toList]
      simp only [Sem.run_bind, Sem.run_map, h1, Result.andThen_ok, Sem.run_pure]
    refine ⟨_, hrun, ?_⟩
    cases h2 with
    | nil =>
      simp at hv
      subst hv
      exact .tuple _ _ (by simpa using VRs.nil)
    | cons v1 c1 vs1 cs1 g1 g2 =>
      cases g2 with
      | nil =>
        simp at hv
        subst hv
        simpa using g1
      | cons v2 c2 vs2 cs2 g3 g4 =>
        simp at hv
        subst hv
        rw [dif_neg (by simp)]
        exact .tuple _ _ (.cons _ _ _ _ g1 (.cons _ _ _ _ g3 g4))

end
end Go.Ir
