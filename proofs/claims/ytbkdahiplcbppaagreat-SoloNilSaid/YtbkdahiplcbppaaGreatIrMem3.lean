/- Operations that make blocks. -/
import Derived.Test.YtbkdahiplcbppaaGreatIrMem2
import Derived.IntWalk
set_option linter.unusedVariables false
set_option linter.unusedSimpArgs false
namespace Go.Ir

theorem flat_bang {xs : Array Value} (h : xs.toList.all flat1 = true) (i : Nat) : flat1 xs[i]! = true := by
  rcases Nat.lt_or_ge i xs.size with hi | hi
  · rw [getElem!_pos xs i hi]
    exact List.all_eq_true.1 h _ (by simp)
  · rw [getElem!_neg xs i (by omega)]
    rfl

theorem rowOf_flat {z : Value} (h : (vcells z).all flat1 = true) (n : Nat) : (rowOf z n).all flat1 = true := by
  rw [vcells_cells] at h
  simp only [rowOf, List.all_map, List.all_eq_true, Function.comp]
  intro i _
  exact flat_bang h _

theorem repeat_range {α : Type} [Inhabited α] (z : Array α) (hz : 0 < z.size) : ∀ n, ((List.range (n * z.size)).map fun i => z[i % z.size]!) = (List.replicate n z.toList).flatten
  | 0 => by simp
  | n + 1 => by
    rw [show (n + 1) * z.size = z.size + n * z.size from by rw [Nat.add_mul]; omega, List.range_add, List.map_append, List.map_map]
    rw [List.replicate_succ, List.flatten_cons]
    congr 1
    · apply List.ext_getElem
      · simp
      · intro i h1 h2
        simp at h1 h2
        simp [Nat.mod_eq_of_lt h1, getElem!_pos z i h1]
    · rw [← repeat_range z hz n]
      apply List.map_congr_left
      intro i _
      simp

theorem repeatL_eq (z : List Value) : ∀ n, repeatL z n = (List.replicate n z).flatten
  | 0 => by simp [repeatL]
  | n + 1 => by simp [repeatL, List.replicate_succ, repeatL_eq z n]

theorem repeatL_flat {z : List Value} (h : z.all flat1 = true) : ∀ n, (repeatL z n).all flat1 = true
  | 0 => rfl
  | n + 1 => by simp only [repeatL, List.all_append, Bool.and_eq_true]; exact ⟨h, repeatL_flat h n⟩

section
variable {P : Program} {LB : List Nat} {F : Emb} {f : Fr} {a : Act} {call : CallF} {lo : Nat} {h h' : Heap} {v : Value} {w : World} {B0 : Nat}

/-- A new block that an operation made. -/
def Made (P : Program) (B0 : Nat) (a : Act) (o : Oper) (F : Emb) (h h' : Heap) (v : Value) (w : World) : Prop :=
  ∃ blk c obj x, h' = h ++ [blk] ∧ blk ≠ .dead ∧ (execOp a.eval o).run P w = .ok (.value c) (w.alloc obj) ∧ x.b = w.heap.size ∧ (∀ F', F.le F' → BR B0 F' (w.alloc obj) x blk) ∧
    ∀ F' : Emb, F' h.length = some (some x) → VR F' v c

theorem alloc_heap (w : World) (obj : Obj) : (w.alloc obj).heap[w.heap.size]? = some obj := by
  show (w.heap.push obj)[w.heap.size]? = some obj
  simp

theorem made_row {C : Array Value} {t : TypeId} {cs : List Value} (hB : B0 ≤ w.heap.size) (hr : VRs F cs C.toList) (ho : cs.all oneA = true) {F' : Emb} (hF : F.le F') :
    BR B0 F' (w.alloc (.cells C t)) ⟨w.heap.size, 0, C.size⟩ (.row cs false) := by
  have hl := hr.length
  simp at hl
  refine ⟨C, t, (0, 0), alloc_heap w _, rfl, by simp; omega, ?_, fun _ => ⟨hB, rfl⟩, ho⟩
  simp only [List.drop_zero]
  rw [List.take_of_length_le (by simp; omega)]
  exact hr.mono hF

theorem alloc_ok {ops : List Oper} {o : Oper} {io : IOp} (hc : NP P LB ops o io) (hp : isAlloc io = true) (hop : OpOk LB F f a o) (hB : B0 ≤ w.heap.size)
    (hv : iop call lo io f h = some (v, h')) : Made P B0 a o F h h' v w := by
  obtain ⟨dst, op, ty, pos, after, guard⟩ := o
  cases hc <;> simp [isAlloc] at hp
  case zeroH t z d ho hz hd =>
    simp only at ho
    subst ho
    obtain ⟨hz1, hz2, hz3⟩ := zeroFlat_of hz
    simp only [iop, ev] at hv
    obtain ⟨hone, hv⟩ := ifSome hv
    injection hv with e1 e2
    subst e1 e2
    refine ⟨_, .pointer (some ⟨w.heap.size, 0, none⟩), .cells z.cells t, ⟨w.heap.size, 0, z.cells.size⟩, rfl, by simp, ?_, rfl, fun F' hF => made_row hB (by rw [vcells_cells] at hz3 ⊢; exact VRs.flat hz3) hone hF, fun F' hF => .ptr _ _ _ rfl hF (fun x hx => by injection hx with hx; subst hx; rfl)⟩
    simp [execOp, Instr.alloc, run_zeroValue' hz1, newVar, newRow]
  case boxH t x d ho hx hd =>
    simp only at ho
    subst ho
    simp only [iop] at hv
    split at hv <;> try (cases hv; done)
    rename_i u hu
    obtain ⟨hone, hv⟩ := ifSome hv
    injection hv with e1 e2
    subst e1 e2
    have hxv := hop x (by simp [Op.operands]) hx _ hu
    refine ⟨_, .pointer (some ⟨w.heap.size, 0, none⟩), .cells (a.eval x).cells t, ⟨w.heap.size, 0, (a.eval x).cells.size⟩, rfl, by simp, ?_, rfl, fun F' hF => made_row hB hxv.cells hone hF, fun F' hF => .ptr _ _ _ rfl hF (fun x hx => by injection hx with hx; subst hx; rfl)⟩
    simp [execOp, Instr.box, newVar, newRow]
  case buildSlice t e n len z parts ho hu hn hz hl hx =>
    simp only at ho
    subst ho
    obtain ⟨hz1, hz2, hz3⟩ := zeroFlat_of hz
    simp only [iop] at hv
    split at hv <;> try (cases hv; done)
    rename_i us hus
    split at hv <;> try (cases hv; done)
    rename_i cs hcs
    obtain ⟨hone, hv⟩ := ifSome hv
    injection hv with e1 e2
    subst e1 e2
    have hpr := evp_ok (a := a) (xs := parts.toList.map fun (i, x) => (i * n, n, x)) (LB := LB) (F := F) (by simpa [List.all_map, Function.comp] using hx) (fun p hp => hop p.2.2 (by
      simp at hp
      obtain ⟨i, x, hm, rfl⟩ := hp
      simp [Op.operands]
      exact ⟨i, hm⟩)) hus
    have hrow : VRs F (if len * n = 0 then [] else rowOf z (len * n)) ((Array.range (len * n)).map fun i => (if len * n = 0 then #[] else z.cells)[i % (if len * n = 0 then #[] else z.cells).size]!).toList := by
      by_cases h0 : len * n = 0
      · simp [h0]; exact .nil
      · simp only [h0, if_false]
        have : ((Array.range (len * n)).map fun i => z.cells[i % z.cells.size]!).toList = rowOf z (len * n) := by
          simp [rowOf, Array.toList_range]
        rw [this]
        exact VRs.flat (rowOf_flat hz3 _)
    have hps : ∀ (j i : Nat) (x : Operand), parts.toList[j]? = some (i, x) → (parts.toList.map fun (i, x) => (i * n, n, x))[j]? = some (i * n, n, x) := fun j i x hj => by simp [hj]
    obtain ⟨cs', h5, h6⟩ := fill_ok (place := fun i => some (i * n, n)) (ix := parts.toList.map (·.1)) hpr (by simp) (fun j i d hi hd => by
      simp only [List.getElem?_map] at hi hd
      cases hpj : parts.toList[j]? with
      | none => simp [hpj] at hi
      | some p =>
        obtain ⟨i', x⟩ := p
        simp [hpj] at hi
        subst hi
        simp [hpj] at hd
        subst hd
        rfl) hrow hcs
    rw [zip_parts (by simp) (fun j i x hj => ⟨_, _, hps j i x hj⟩)] at h5
    have hl6 := h6.length
    refine ⟨_, .slice (some ⟨w.heap.size, 0, none⟩) len len, .cells cs' e, ⟨w.heap.size, 0, cs'.size⟩, rfl, by simp, ?_, rfl, fun F' hF => made_row hB h6 hone hF, fun F' hF => .slice _ _ _ _ _ rfl hF (Nat.le_refl _) (fun x hx _ => by injection hx with hx; subst hx; rfl)⟩
    have hle : ¬ len * n > 2 ^ 24 := by
      have : (2 : Nat) ^ 20 = 1048576 := rfl
      have : (2 : Nat) ^ 24 = 16777216 := rfl
      omega
    have h5' : Instr.fill (fun i => some (i * n, n)) ((Array.range (len * n)).map fun i => (if len * n = 0 then #[] else z.cells)[i % (if len * n = 0 then #[] else z.cells).size]!) (parts.map fun x => (x.1, a.eval x.2)).toList = some cs' := by
      rw [Array.toList_map]; exact h5
    simp only [execOp, Instr.buildSlice, Sem.run_bind, run_underlying hu, Result.andThen_ok, run_sizeOf' hn, hle, if_false]
    by_cases h0 : len * n = 0
    · simp only [h0, if_true] at h5' ⊢
      simp at h5'
      simp [newRow, h5']
    · simp only [h0, if_false] at h5' ⊢
      simp only [Sem.run_bind, run_zeroValue' hz1, Sem.run_pure, Result.andThen_ok, h5']
      simp [newRow]
  case mkmap t r ho hr =>
    simp only at ho
    subst ho
    simp only [iop] at hv
    injection hv with hv
    injection hv with e1 e2
    subst e1 e2
    refine ⟨.map [], .map (some w.heap.size), .map #[] 0, ⟨w.heap.size, 0, 0⟩, rfl, by simp, ?_, rfl, fun F' hF => ⟨#[], 0, alloc_heap w _, .nil, hB⟩, fun F' hF => .map _ _ _ hF (fun x hx => by injection hx with hx; subst hx; rfl)⟩
    rcases hr with rfl | ⟨⟨k, n, rfl⟩, e, e', hu⟩
    · simp [execOp, Instr.makeMap]
    · simp [execOp, Instr.makeMap, run_underlying hu, Act.eval, asInt, asIntOf]
  case mkslice t e n c i z ho hu hi hz hl hn hcc =>
    simp only at ho
    subst ho
    obtain ⟨hz1, hz2, hz3⟩ := zeroFlat_of hz
    simp only [iop] at hv
    split at hv <;> try (cases hv; done)
    rename_i n' c' hn' hc'
    obtain ⟨hb, hv⟩ := ifSome hv
    injection hv with e1 e2
    subst e1 e2
    have e1 := (hop n (by simp [Op.operands]) hn _ hn').eq_flat1 rfl
    have e2 := (hop c (by simp [Op.operands]) hcc _ hc').eq_flat1 rfl
    obtain ⟨b1, b2, b3, b4⟩ := hb
    have p30 : (2 : Int) ^ 30 = 1073741824 := by decide
    have p12 : (2 : Nat) ^ 12 = 4096 := rfl
    rw [p30] at b3
    rw [p12] at b4
    have w1 : IntKind.i64.wrap n' = n' := IntWalk.i64_in _ (by omega)
    have w2 : IntKind.i64.wrap c' = c' := IntWalk.i64_in _ (by omega)
    have hbig : ¬ ((i.bytes : Int) * c' > 2 ^ 48) := by
      have h1 : (i.bytes : Int) * c' ≤ 4096 * 1073741824 := Int.mul_le_mul (by omega) b3 (by omega) (by omega)
      have : (2 : Int) ^ 48 = 281474976710656 := by decide
      rw [this]
      omega
    have hcells : ((Array.range (c'.toNat * i.size)).map fun j => (if c'.toNat * i.size = 0 then #[] else z.cells)[j % (if c'.toNat * i.size = 0 then #[] else z.cells).size]!).toList = repeatL (vcells z) c'.toNat := by
      have hzs : z.cells.size = i.size := by rw [← hl, vcells_cells]; simp
      by_cases h0 : c'.toNat * i.size = 0
      · simp only [h0, if_true]
        simp
        rcases Nat.mul_eq_zero.1 h0 with h1 | h1
        · rw [h1]; rfl
        · rw [repeatL_eq]
          have : vcells z = [] := List.length_eq_zero_iff.1 (by rw [hl]; exact h1)
          simp [this]
      · simp only [h0, if_false]
        have hpos : 0 < z.cells.size := by
          rcases Nat.eq_zero_or_pos z.cells.size with h1 | h1
          · exact absurd (by rw [← hzs, h1, Nat.mul_zero]) h0
          · exact h1
        rw [Array.toList_map, Array.toList_range, ← hzs, repeat_range z.cells hpos, repeatL_eq, vcells_cells]
    refine ⟨_, .slice (some ⟨w.heap.size, 0, none⟩) n'.toNat c'.toNat, .cells ((Array.range (c'.toNat * i.size)).map fun j => (if c'.toNat * i.size = 0 then #[] else z.cells)[j % (if c'.toNat * i.size = 0 then #[] else z.cells).size]!) e, ⟨w.heap.size, 0, _⟩, rfl, by simp, ?_, rfl,
      fun F' hF => made_row hB (by rw [hcells]; exact VRs.flat (repeatL_flat hz3 _)) (oneA_flatL (repeatL_flat hz3 _)) hF, fun F' hF => .slice _ _ _ _ _ rfl hF (by omega) (fun x hx _ => by injection hx with hx; subst hx; rfl)⟩
    simp only [execOp, e1, e2, Instr.makeSlice, Sem.run_bind, run_underlying hu, Result.andThen_ok, asInt, asIntOf, Sem.run_pure, run_typeInfo (w := w) hi, w1, w2]
    have c1 : ¬ ((decide (c' < 0) || decide ((i.bytes : Int) * c' > 2 ^ 48)) = true ∨ n' < 0 ∨ n' > c') := by
      simp only [Bool.or_eq_true, decide_eq_true_eq, not_or]
      exact ⟨⟨by omega, hbig⟩, by omega, by omega⟩
    have c2 : (decide (c' < 0) || decide ((i.bytes : Int) * c' > 2 ^ 48) || decide (n' < 0) || decide (n' > c')) = false := by
      simp only [Bool.or_eq_false_iff, decide_eq_false_iff_not]
      exact ⟨⟨⟨by omega, hbig⟩, by omega⟩, by omega⟩
    simp only [c2, Bool.false_eq_true, if_false, Sem.run_bind, run_askRoom, Result.andThen_ok, run_tySize hi]
    by_cases h0 : c'.toNat * i.size = 0
    · simp [h0, newRow]
    · simp [h0, run_zeroValue' hz1, newRow]

end
end Go.Ir
