/- Long closed runs, in parts: each part is one evaluation by the kernel. -/
import Derived.Test.YtbkdahiplcbppaaGreatIrFast
set_option linter.unusedVariables false
set_option linter.unusedSimpArgs false
namespace Go.Ir

abbrev Sta := List Item × Fr × Heap
abbrev Nx := List Item → Fr → Heap → Option Sta
abbrev StJ := CallF → Nat → Nx → List Item → Fr → Heap → Option Sta

noncomputable def j_pop : StJ := fun _ _ nx k f h => nx k f h
noncomputable def j_again (ls : List Nat) (b : ICode) : StJ := fun _ _ nx k f h => nx (.code b :: .again ls b :: k) (keep ls f) h
noncomputable def j_region (ops : List IOper) : StJ := fun call lo nx k f h =>
  match iopsF call lo ops f h [] with
  | some (f', h') => nx k f' h'
  | none => none
noncomputable def j_seq (a b : ICode) : StJ := fun _ _ nx k f h => nx (.code a :: .code b :: k) f h
noncomputable def j_cond (c : Operand) (a b : ICode) : StJ := fun _ _ nx k f h =>
  match evF f c with
  | some (.bool t) => nx (.code (match t with | true => a | false => b) :: k) f h
  | _ => none
noncomputable def j_block (id : Nat) (b : ICode) : StJ := fun _ _ nx k f h => nx (.code b :: .endB id :: k) f h
noncomputable def j_exit (id : Nat) : StJ := fun _ _ nx k f h =>
  match exitI id k with
  | some k' => nx k' f h
  | none => none
noncomputable def j_none : StJ := fun _ _ _ _ _ _ => none
noncomputable def jC (c : ICode) : StJ :=
  match c with
  | .skip => j_pop
  | .region ops => j_region ops
  | .seq a b => j_seq a b
  | .cond c a b => j_cond c a b
  | .block id b => j_block id b
  | .loop ls b => j_again ls b
  | .exit id => j_exit id
  | .label _ => j_pop
  | .scope _ | .goto .. | .ret => j_none
noncomputable def jI (it : Item) : StJ :=
  match it with
  | .endB _ => j_pop
  | .again ls b => j_again ls b
  | .inScope _ => j_pop
  | .code c => jC c
noncomputable def exJs (call : CallF) (lo : Nat) (nx : Nx) : Nx := fun items f h =>
  match items with
  | [] => none
  | it :: k => jI it call lo nx k f h
noncomputable def exJ (call : CallF) (lo n : Nat) : Nx := Nat.rec (motive := fun _ => Nx) (fun items f h => some (items, f, h)) (fun _ ih => exJs call lo ih) n

section
variable {E : Env} {lo N : Nat}
theorem exJ_ok : ∀ (n : Nat) {items items' : List Item} {f f' : Fr} {h h' : Heap}, exJ (callW E (exF E N) lo) lo n items f h = some (items', f', h') → exR E lo items f h = exR E lo items' f' h'
  | 0, items, items', f, f', h, h', hv => by
    injection hv with hv
    injection hv with e1 e2
    injection e2 with e2 e3
    rw [e1, e2, e3]
  | n + 1, items, items', f, f', h, h', hv => by
    have hv : exJs (callW E (exF E N) lo) lo (exJ (callW E (exF E N) lo) lo n) items f h = some (items', f', h') := hv
    have ih := @exJ_ok n
    have hle : CLe (callW E (exF E N) lo) (callR E lo) := fun g vs h r hr => by
      rw [exF_eq] at hr
      exact callR_iff.2 ⟨N, hr⟩
    cases items with
    | nil => cases hv
    | cons it k =>
      cases it with
      | endB _ => rw [exR_endB]; exact ih hv
      | again ls b => rw [exR_again]; exact ih hv
      | inScope _ => rw [exR_inScope]; exact ih hv
      | code c =>
        cases c with
        | skip => rw [exR_skip]; exact ih hv
        | region ops =>
          simp only [exJs, jI, jC, j_region, iopsF_eq] at hv
          split at hv <;> try (cases hv; done)
          rename_i f1 h1 hr
          rw [exR_region (iops_le hle hr)]
          exact ih hv
        | seq a b => rw [exR_seq]; exact ih hv
        | cond c a b =>
          simp only [exJs, jI, jC, j_cond, evF_eq] at hv
          split at hv <;> try (cases hv; done)
          rename_i t ht
          rw [exR_cond ht]
          cases t <;> exact ih hv
        | block id b => rw [exR_block]; exact ih hv
        | loop ls b => rw [exR_loop]; exact ih hv
        | exit id =>
          simp only [exJs, jI, jC, j_exit] at hv
          split at hv <;> try (cases hv; done)
          rename_i k' hk
          rw [exR_exit hk]
          exact ih hv
        | label _ => rw [exR_label]; exact ih hv
        | scope _ => cases hv
        | goto _ _ => cases hv
        | ret => cases hv

/-- What is behind so many parts of a row. -/
def tailC : Nat → ICode → ICode
  | 0, c => c
  | n + 1, .seq _ b => tailC n b
  | _ + 1, c => c

noncomputable def endsB (E : Env) (N : Nat) (rs : List IRes) (items : List Item) (f : Fr) (h : Heap) : Bool :=
  match exF E N 0 items f h with
  | some (f', h') =>
    match results rs f' h' with
    | some (.bool true) => true
    | _ => false
  | none => false

theorem cut_true {g : Nat} {fn : IFunc} {f : Fr} {h : Heap} {items : List Item} (hp : E.prim g = none) (hf : E.fn g = some fn) (ha : 0 = fn.nargs) (hs : fn.scr = false)
    (hr : exR E 0 [.code fn.body] [] [] = exR E 0 items f h) (he : endsB E N fn.res items f h = true) : ∃ n, okB (callW E (exN E n) 0 g [] []) = true := by
  unfold endsB at he
  split at he <;> try (cases he; done)
  rename_i f' h' h1
  split at he <;> try (cases he; done)
  rename_i h2
  rw [exF_eq] at h1
  have h3 : exR E 0 [.code fn.body] (number 0 []) [] = some (f', h') := by rw [show number 0 [] = [] from rfl, hr]; exact exR_of N _ _ _ _ _ h1
  have := callR_fn (lo := 0) (args := []) hp hf ha hs h3 h2
  obtain ⟨n, hn⟩ := callR_iff.1 this
  exact ⟨n, by rw [hn]; rfl⟩
end

/-- A closed call that answers true, whatever the bound. -/
theorem closed_some {P : Program} {E0 : Env} (ok : EnvOk P E0) (hmix : P.follows .mixedOrders = true) {g : Nat} (hv : ∃ n, okB (callW E0 (exN E0 n) 0 g [] []) = true) : PrimOk P g (constPrim (.bool true)) := by
  obtain ⟨n, hn⟩ := hv
  exact closed_true ok hmix hn
end Go.Ir
