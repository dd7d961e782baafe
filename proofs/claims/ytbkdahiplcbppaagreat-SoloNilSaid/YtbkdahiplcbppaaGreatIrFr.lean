/- Frames; operations on variables that are kept in the frame. -/
import Derived.Test.YtbkdahiplcbppaaGreatIrMem6
set_option linter.unusedVariables false
set_option linter.unusedSimpArgs false
namespace Go.Ir

/-- A variable that is kept in the frame: its row is nobody else's. -/
def Boxed (B0 : Nat) (E : Emb) (w : World) (v : Value) (c : Value) (b : Nat) : Prop :=
  ∃ cs C ty, v = .agg cs ∧ c = .pointer (some ⟨b, 0, none⟩) ∧ w.heap[b]? = some (.cells C ty (0, 0)) ∧ VRs E cs.toList C.toList ∧ B0 ≤ b

theorem Boxed.mono {B0 : Nat} {E E' : Emb} {w : World} {v c : Value} {b : Nat} (h : E.le E') (k : Boxed B0 E w v c b) : Boxed B0 E' w v c b := by
  obtain ⟨cs, C, ty, h1, h2, h3, h4, h5⟩ := k
  exact ⟨cs, C, ty, h1, h2, h3, h4.mono h, h5⟩

theorem Boxed.world {B0 : Nat} {E : Emb} {w w' : World} {v c : Value} {b : Nat} (h : w'.heap[b]? = w.heap[b]?) (k : Boxed B0 E w v c b) : Boxed B0 E w' v c b := by
  obtain ⟨cs, C, ty, h1, h2, h3, h4, h5⟩ := k
  exact ⟨cs, C, ty, h1, h2, h.trans h3, h4, h5⟩

theorem Boxed.lt {B0 : Nat} {E : Emb} {w : World} {v c : Value} {b : Nat} (k : Boxed B0 E w v c b) : b < w.heap.size := by
  obtain ⟨cs, C, ty, h1, h2, h3, h4, h5⟩ := k
  exact (Array.getElem?_eq_some_iff.1 h3).1

section
variable {P : Program} {LB : List Nat} {E : Emb} {f : Fr} {a : Act} {call : CallF} {lo : Nat} {h h' : Heap} {v : Value} {w w0 : World} {B0 : Nat}
variable {dst : Option Nat} {ty : TypeId} {pos : String} {after : Array Edge} {guard : Option (Nat × Bool)}

theorem l_laddr {t u : TypeId} {x : Operand} {fi off o' b : Nat} (hf : fieldOf P t fi = some (off, u)) (hx : a.eval x = .pointer (some ⟨b, o', none⟩)) (w : World) :
    (execOp a.eval ⟨dst, .fieldAddr t x fi, ty, pos, after, guard⟩).run P w = .ok (.value (.pointer (some ⟨b, o' + off, none⟩))) w := by
  obtain ⟨fs, fd, hu1, hfd, rfl, rfl, n, hn⟩ := fieldOf_of hf
  simp [execOp, hx, Instr.fieldAt, run_underlying hu1, hfd, Instr.sureAddr, fieldPlace, run_sizeOf' hn, add_eq]

theorem l_load {t : TypeId} {x : Operand} {n : Option Nat} {off b : Nat} {cs : Array Value} (hn : tyN P t = some n) (hx : a.eval x = .pointer (some ⟨b, off, none⟩)) {c : Value} (hb : Boxed B0 E w (.agg cs) c b)
    (hp : part n cs.toList off = some v) : ∃ d, (execOp a.eval ⟨dst, .load t x, ty, pos, after, guard⟩).run P w = .ok (.value d) w ∧ VR E v d := by
  obtain ⟨cs', C, ct, h1, h2, h3, h4, h5⟩ := hb
  injection h1 with h1
  subst h1
  have hag := run_isAgg' hn w
  cases n with
  | none =>
    simp only [part] at hp
    obtain ⟨d, h6, h7⟩ := h4.get hp
    refine ⟨d, ?_, h7⟩
    have : w.cell? ⟨b, off, none⟩ = some d := by rw [cell_row h3]; simpa using h6
    simp [execOp, hx, Instr.loadAt, Instr.sureAddr, loadVar, hag, this]
  | some n =>
    simp only [part] at hp
    obtain ⟨hle, rfl⟩ := ifSome hp
    have hl := h4.length
    simp at hl hle
    have hr := run_loadCells_row (P := P) h3 (o := off) (n := n) (by omega)
    refine ⟨.agg (((C.toList.drop off).take n).toArray), ?_, .agg _ _ ?_⟩
    · simp [execOp, hx, Instr.loadAt, Instr.sureAddr, loadVar, hag, run_sizeOf' (tyN_size hn), hr]
    · simp only [List.toList_toArray]
      exact (h4.drop off).take n

theorem l_store {t : TypeId} {x y : Operand} {n off b : Nat} {cs : Array Value} {u : Value} (hn : tySize P t = some n) (hx : a.eval x = .pointer (some ⟨b, off, none⟩)) {c : Value} (hb : Boxed B0 E w (.agg cs) c b)
    (hy : VR E u (a.eval y)) (hl : (vcells u).length = n) (h1 : (vcells u).all oneA = true) (hle : off + n ≤ cs.toList.length) :
    ∃ C', (execOp a.eval ⟨dst, .store t x y, ty, pos, after, guard⟩).run P w = .ok .skip (w.setRow b C') ∧ Boxed B0 E (w.setRow b C') (.agg (splice cs.toList off (vcells u)).toArray) c b := by
  obtain ⟨cs', C, ct, e1, h2, h3, h4, h5⟩ := hb
  injection e1 with e1
  subst e1
  have hcl := hy.cells
  have hsz : (a.eval y).cells.size = n := by have := hcl.length; simp at this; omega
  have hlen := h4.length
  simp at hlen hle
  have hr := run_storeCells_at (P := P) b off ct (a.eval y).cells.toList 0 C w h3 (by simp; omega) (hcl.one h1)
  refine ⟨(splice C.toList (off + 0) (a.eval y).cells.toList).toArray, ?_, (splice cs.toList off (vcells u)).toArray, _, ct, rfl, h2, setRow_same h3, ?_, h5⟩
  · simp only [splice]
    simp only [execOp, hx, Instr.storeAt, Instr.sureAddr, storeVar, Sem.run_bind, Sem.run_pure, Result.andThen_ok, run_sizeOf' hn, hsz, ne_eq, not_true, if_false, hr]
  · simp only [List.toList_toArray, Nat.add_zero]
    exact h4.splice hcl off

theorem l_box {x : Operand} {t : TypeId} {u : Value} (hB : B0 ≤ w.heap.size) (hx : VR E u (a.eval x)) :
    ∃ obj, (execOp a.eval ⟨dst, .box t x, ty, pos, after, guard⟩).run P w = .ok (.value (.pointer (some ⟨w.heap.size, 0, none⟩))) (w.alloc obj) ∧
      Boxed B0 E (w.alloc obj) (.agg (vcells u).toArray) (.pointer (some ⟨w.heap.size, 0, none⟩)) w.heap.size := by
  refine ⟨.cells (a.eval x).cells t, by simp [execOp, Instr.box, newVar, newRow], _, _, t, rfl, rfl, alloc_heap w _, ?_, hB⟩
  simp only [List.toList_toArray]
  exact hx.cells

theorem l_zero {t : TypeId} {z : Value} (hz : zeroFlat P t = some z) (hB : B0 ≤ w.heap.size) :
    ∃ obj, (execOp a.eval ⟨dst, .alloc t, ty, pos, after, guard⟩).run P w = .ok (.value (.pointer (some ⟨w.heap.size, 0, none⟩))) (w.alloc obj) ∧
      Boxed B0 E (w.alloc obj) (.agg (vcells z).toArray) (.pointer (some ⟨w.heap.size, 0, none⟩)) w.heap.size := by
  obtain ⟨hz1, hz2, hz3⟩ := zeroFlat_of hz
  refine ⟨.cells z.cells t, by simp [execOp, Instr.alloc, run_zeroValue' hz1, newVar, newRow], _, _, t, rfl, rfl, alloc_heap w _, ?_, hB⟩
  simp only [List.toList_toArray]
  rw [vcells_cells] at hz3 ⊢
  exact VRs.flat hz3

/-- A write into a row that is nobody's. -/
theorem Sim.aside (s : Sim B0 w0 E h w) {b : Nat} {C' : Array Value} (hB : B0 ≤ b) (hn : ∀ j y, E j = some (some y) → y.b ≠ b) : Sim B0 w0 E h (w.setRow b C') :=
  ⟨Below.setRow s.below hB _, s.out, s.dead, fun i k hi hk => by
    obtain ⟨x, hx, hb⟩ := s.live i k hi hk
    exact ⟨x, hx, hb.world (setRow_other (hn i x hx))⟩, s.inj⟩

/-- A new row that is nobody's. -/
theorem Sim.allocAside (s : Sim B0 w0 E h w) (hB : B0 ≤ w.heap.size) (obj : Obj) : Sim B0 w0 E h (w.alloc obj) :=
  ⟨s.below.alloc hB obj, s.out, s.dead, fun i k hi hk => by
    obtain ⟨x, hx, hb⟩ := s.live i k hi hk
    exact ⟨x, hx, hb.world (Go.RowKit.Below.heap_alloc _ _ _ (hb.lt hk))⟩, s.inj⟩

end
end Go.Ir
