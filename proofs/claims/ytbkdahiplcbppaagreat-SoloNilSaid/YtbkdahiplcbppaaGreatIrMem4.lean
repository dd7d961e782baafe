/- Operations that write (but calls). -/
import Derived.Test.YtbkdahiplcbppaaGreatIrMem3
set_option linter.unusedVariables false
set_option linter.unusedSimpArgs false
namespace Go.Ir

section
variable {P : Program} {LB : List Nat} {E : Emb} {f : Fr} {a : Act} {call : CallF} {lo : Nat} {h h' : Heap} {v : Value} {w w0 : World} {B0 : Nat}

def Effd (P : Program) (B0 : Nat) (w0 : World) (a : Act) (o : Oper) (E : Emb) (w : World) (h' : Heap) (v : Value) : Prop :=
  ∃ c w' E', ((execOp a.eval o).run P w = .ok (.value c) w' ∨ ((execOp a.eval o).run P w = .ok .skip w' ∧ c = undef)) ∧ Sim B0 w0 E' h' w' ∧ Later E w E' w' ∧ VR E' v c

theorem stN_ok (s : Sim B0 w0 E h w) {ad c : Addr} {e : Option Ent} {vs ds : List Value} (he : E ad.block = some e) (hc : ∀ x, e = some x → c = ⟨x.b, x.base + ad.off, none⟩)
    (hv : VRs E vs ds) (h1 : vs.all oneA = true) (hst : stN lo h ad vs = some h') : ∃ w', (storeCells c ds).run P w = .ok () w' ∧ Sim B0 w0 E h' w' ∧ Later E w E w' := by
  unfold stN at hst
  split at hst <;> try (cases hst; done)
  rename_i cs ro hb
  obtain ⟨_, hst⟩ := ifSomeO hst
  obtain ⟨hro, hst⟩ := ifSomeO hst
  obtain ⟨hl, rfl⟩ := ifSome hst
  subst hro
  rcases s.ent he with ⟨x, k, rfl, hk, hd, hbr⟩ | ⟨_, hk⟩
  · rw [hb] at hk
    injection hk with hk
    subst hk
    obtain ⟨C, t, fz, h2, h3, h4, h5, h6, h7⟩ := hbr
    obtain ⟨hB, rfl⟩ := h6 rfl
    have e1 := hc x rfl
    subst e1
    have hlen := hv.length
    have hrun := run_storeCells_at (P := P) x.b (x.base + ad.off) t ds 0 C w h2 (by omega) (hv.one h1)
    obtain ⟨g1, g2⟩ := s.write hb he h2 h3 h4 hB h5 h7 hv h1 hl
    refine ⟨_, ?_, g1, g2⟩
    rw [hrun]
    simp only [Nat.add_zero, splice]
  · rw [hb] at hk; cases hk

theorem src_ok {F : Emb} (hh : Has B0 F h w) {esz n m : Nat} {y y' : Value} {l : List Value} (hy : VR F y y') (hl : lenV y = some m) (hn : n ≤ m) (hs : srcCells h esz n y = some l) :
    ∃ ds : Array Value, (∀ w' : World, w'.heap = w.heap → (Builtin.firstCells esz n y').run P w' = .ok ds w') ∧ VRs F l ds.toList ∧ l.length = n * esz ∧ l.all oneA = true := by
  unfold srcCells at hs
  split at hs
  · injection hs with hs; subst hs
    cases hy
    simp [lenV] at hl
    subst hl
    have : n = 0 := by omega
    subst this
    exact ⟨#[], fun w' _ => by simp [Builtin.firstCells], .nil, by simp, rfl⟩
  · rename_i ad len cap
    simp [lenV] at hl
    subst hl
    split at hs
    · rename_i h0
      injection hs with hs; subst hs h0
      cases hy <;> exact ⟨#[], fun w' _ => by simp [Builtin.firstCells, loadCells, loadCellsFrom], .nil, by simp, rfl⟩
    · rename_i h0
      have key : ∀ (c : Addr) (e : Option Ent), F ad.block = some e → (∀ x, e = some x → c = ⟨x.b, x.base + ad.off, none⟩) →
          ∃ ds : Array Value, (∀ w' : World, w'.heap = w.heap → (loadCells c (n * esz)).run P w' = .ok ds w') ∧ VRs F l ds.toList ∧ l.length = n * esz ∧ l.all oneA = true := by
        intro c e he hc
        unfold ldN at hs
        split at hs <;> try (cases hs; done)
        rename_i cs hcs
        obtain ⟨hle, rfl⟩ := ifSome hs
        have hb : ∃ ro, h[ad.block]? = some (.row cs ro) := by
          unfold hrow at hcs
          split at hcs
          · rename_i cs' ro hb; injection hcs with hcs; subst hcs; exact ⟨ro, hb⟩
          · cases hcs
        obtain ⟨ro, hb⟩ := hb
        rcases hh _ _ _ he hb with ⟨x, rfl, hd, hbr⟩ | ⟨_, hk⟩
        · obtain ⟨C, ct, fz, h1, h2, h3, h4, h5, h6⟩ := hbr
          have e1 := hc x rfl
          subst e1
          refine ⟨_, fun w' hw' => run_loadCells_row (P := P) (w := w') (by rw [hw']; exact h1) (o := x.base + ad.off) (n := n * esz) (by omega), ?_, by simp; omega, ?_⟩
          · simp only [List.toList_toArray]
            have := (h4.drop ad.off).take (n * esz)
            rwa [sub_row _ _ _ _ _ hle] at this
          · simp only [List.all_eq_true] at h6 ⊢
            exact fun v hv => h6 v (List.mem_of_mem_drop (List.mem_of_mem_take hv))
        · cases hk
      cases hy with
      | slice _ c _ _ e hsp he hnc hc =>
        obtain ⟨ds, h1, h2⟩ := key c e he (fun x hx => hc x hx (by omega))
        exact ⟨ds, fun w' hw' => by simp [Builtin.firstCells, h1 w' hw'], h2⟩
      | loose _ c _ _ cap' e hsp he hnc hc =>
        obtain ⟨ds, h1, h2⟩ := key c e he (fun x hx => by
          obtain ⟨r1, r2, r3, r4⟩ := hc x hx
          have r5 := r3 (by omega)
          obtain ⟨cb, co, cs⟩ := c
          simp only at r1 r2 r5
          subst r1 r2 r5
          rfl)
        exact ⟨ds, fun w' hw' => by simp [Builtin.firstCells, h1 w' hw'], h2⟩
  · cases hs

theorem lenV_vr {F : Emb} {y y' : Value} {n : Nat} (hy : VR F y y') (hl : lenV y = some n) (hs : ∀ s, y ≠ .string s) : ∃ b c, y' = .slice b n c := by
  cases hy <;> simp [lenV] at hl
  case string s => exact absurd rfl (hs s)
  case slice0 => subst hl; exact ⟨_, _, rfl⟩
  case slice => subst hl; exact ⟨_, _, rfl⟩
  case loose => subst hl; exact ⟨_, _, rfl⟩

theorem srcCells_slice {esz n : Nat} {y : Value} {l : List Value} (hs : srcCells h esz n y = some l) : ∀ s, y ≠ .string s := by
  rintro s rfl
  simp [srcCells] at hs

theorem growBy_le (L : Nat) : ∀ (r c : Nat), Builtin.growBy L r c ≤ Nat.max c (L + (L + 768) / 4)
  | 0, c => by simp only [Builtin.growBy]; exact Nat.le_max_left _ _
  | r + 1, c => by
    simp only [Builtin.growBy]
    split
    · exact Nat.le_max_left _ _
    · have := growBy_le L r (c + (c + 768) / 4)
      have h1 : c + (c + 768) / 4 ≤ L + (L + 768) / 4 := by omega
      have h2 : Nat.max (c + (c + 768) / 4) (L + (L + 768) / 4) = L + (L + 768) / 4 := Nat.max_eq_right h1
      rw [h2] at this
      exact Nat.le_trans this (Nat.le_max_right _ _)

theorem nextcap_le (need cap : Nat) (h : cap < need) : Builtin.nextslicecap need cap ≤ 2 * need + 512 := by
  unfold Builtin.nextslicecap
  split
  · omega
  · split
    · omega
    · have := growBy_le need 4 cap
      have h2 : Nat.max cap (need + (need + 768) / 4) = need + (need + 768) / 4 := Nat.max_eq_right (by omega)
      rw [h2] at this
      omega

/-- What an append that finds no room comes to. -/
theorem run_append_grow {t u e e' : TypeId} {i : TypeInfo} {b b' : Option Addr} {sl sc n c' : Nat} (hu : P.underlying t = some (.slice e)) (hu' : P.underlying u = some (.slice e'))
    (hi : P.info? e = some i) {z : Value} (hz : zeroOf P e = some z) (hroom : sc < sl + n) (h1 : sl + n ≤ 2 ^ 30) (h2 : i.bytes ≤ 2 ^ 12) {old new : Array Value} {ty : TypeId}
    (ho : ∀ w' : World, w'.heap = w.heap → (Builtin.firstCells i.size sl (.slice b sl sc)).run P w' = .ok old w') (hn : ∀ w' : World, w'.heap = w.heap → (Builtin.firstCells i.size n (.slice b' n c')).run P w' = .ok new w') :
    ∃ (newCap : Nat) (rest : Array Value), sl + n ≤ newCap ∧ rest.size = (newCap - (sl + n)) * z.cells.size ∧
      (Builtin.append_ #[t, u] ty #[.slice b sl sc, .slice b' n c']).run P w =
        .ok (.slice (some ⟨w.heap.size, 0, none⟩) (sl + n) newCap) ((w.drew).alloc (.cells (old ++ new ++ rest) e)) := by
  have p30 : (2 : Nat) ^ 30 = 1073741824 := rfl
  have p12 : (2 : Nat) ^ 12 = 4096 := rfl
  have p48 : (2 : Nat) ^ 48 = 281474976710656 := rfl
  have hcap : ¬ Builtin.nextslicecap (sl + n) sc * i.bytes > 2 ^ 48 := by
    have h3 := nextcap_le (sl + n) sc hroom
    have h4 : Builtin.nextslicecap (sl + n) sc * i.bytes ≤ (2 * (sl + n) + 512) * 4096 := Nat.mul_le_mul h3 (by omega)
    omega
  have hmax : ¬ (((sl + n : Nat) : Int) > IntKind.i64.max ∧ (False ∨ i.bytes = 0)) := by
    have : IntKind.i64.max = 9223372036854775807 := by simp [IntKind.max, IntKind.signed, IntKind.bits]
    rw [this]
    rintro ⟨h, _⟩
    omega
  refine ⟨(Question.appendCap (sl + n) sc e).cut (w.tape w.drawn (.appendCap (sl + n) sc e)), Builtin.zeroCells z.cells ((Question.appendCap (sl + n) sc e).cut (w.tape w.drawn (.appendCap (sl + n) sc e)) - (sl + n)), ?_, ?_, ?_⟩
  · simp [Question.cut]
  · simp [Builtin.zeroCells]
  · have a0 : (#[t, u] : Array TypeId)[0]? = some t := rfl
    have a1 : (#[t, u] : Array TypeId)[1]? = some u := rfl
    have a2 : (#[.slice b sl sc, .slice b' n c'] : Array Value)[0]? = some (.slice b sl sc) := rfl
    have a3 : (#[.slice b sl sc, .slice b' n c'] : Array Value)[1]? = some (.slice b' n c') := rfl
    have q1 : (sl + n ≤ sc) = False := by simp; omega
    have q2 : (((sl + n : Nat) : Int) > IntKind.i64.max ∧ (False ∨ i.bytes = 0)) = False := by simpa using hmax
    have q3 : (Builtin.nextslicecap (sl + n) sc * i.bytes > 2 ^ 48) = False := by simpa using hcap
    have rt : ∀ w', (typeInfo e).run P w' = .ok i w' := fun w' => run_typeInfo (w := w') hi
    simp only [Builtin.append_, a0, a1, a2, a3]
    simp only [Sem.run_bind, run_underlying hu, Result.andThen_ok, run_tySize hi, run_underlying hu', Sem.run_pure, Builtin.lenOf, Sem.run_ite, Bool.false_eq_true, if_false, q1, rt, q2, q3, run_choose, Question.forced, World.drew_eq, run_askRoom,
      ho w.drew rfl, hn w.drew rfl, Bool.not_false, if_true, run_zeroValue' hz, newRow, run_newObj]
    rfl

theorem run_append_room {t u e e' : TypeId} {i : TypeInfo} {b b' : Option Addr} {sl sc n c' : Nat} (hu : P.underlying t = some (.slice e)) (hu' : P.underlying u = some (.slice e'))
    (hi : P.info? e = some i) (hroom : sl + n ≤ sc) {new : Array Value} {ty : TypeId}
    (hn : (Builtin.firstCells i.size n (.slice b' n c')).run P w = .ok new w) :
    (Builtin.append_ #[t, u] ty #[.slice b sl sc, .slice b' n c']).run P w =
      (match b with | none => .ok (.slice b (sl + n) sc) w | some ad => ((storeCells (ad.add (sl * i.size)) new.toList).run P w).andThen fun _ w' => .ok (.slice b (sl + n) sc) w') := by
  have a0 : (#[t, u] : Array TypeId)[0]? = some t := rfl
  have a1 : (#[t, u] : Array TypeId)[1]? = some u := rfl
  have a2 : (#[.slice b sl sc, .slice b' n c'] : Array Value)[0]? = some (.slice b sl sc) := rfl
  have a3 : (#[.slice b sl sc, .slice b' n c'] : Array Value)[1]? = some (.slice b' n c') := rfl
  have q1 : (sl + n ≤ sc) = True := by simp [hroom]
  simp only [Builtin.append_, a0, a1, a2, a3]
  simp only [Sem.run_bind, run_underlying hu, Result.andThen_ok, run_tySize hi, run_underlying hu', Sem.run_pure, Builtin.lenOf, Sem.run_ite, Bool.false_eq_true, if_false, q1, Bool.not_false, if_true, hn]
  cases b with
  | none => simp
  | some ad => simp

end
end Go.Ir
