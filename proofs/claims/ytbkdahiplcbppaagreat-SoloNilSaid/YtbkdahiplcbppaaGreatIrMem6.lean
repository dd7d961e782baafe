/- Operations that write (but calls), third part: each keeps the relation. -/
import Derived.Test.YtbkdahiplcbppaaGreatIrMem5
set_option linter.unusedVariables false
set_option linter.unusedSimpArgs false
namespace Go.Ir

section
variable {P : Program} {LB : List Nat} {E : Emb} {f : Fr} {a : Act} {call : CallF} {lo : Nat} {h h' : Heap} {v : Value} {w w0 : World} {B0 : Nat}

theorem append_ok (s : Sim B0 w0 E h w) (hB : B0 ≤ w.heap.size) {t u e e' : TypeId} {i : TypeInfo} {x y x' y' : Value} {ty : TypeId} (hu : P.underlying t = some (.slice e)) (hu' : P.underlying u = some (.slice e'))
    (hi : P.info? e = some i) (hz : ((zeroOf P e).map fun z => (vcells z).length) = some i.size) (hx : VR E x x') (hy : VR E y y') (hv : iappend lo i.size i.bytes h x y = some (v, h')) :
    ∃ c w' E', (Builtin.append_ #[t, u] ty #[x', y']).run P w = .ok c w' ∧ Sim B0 w0 E' h' w' ∧ Later E w E' w' ∧ VR E' v c := by
  obtain ⟨z, hz1, hz2⟩ : ∃ z, zeroOf P e = some z ∧ z.cells.size = i.size := by
    cases hzz : zeroOf P e with
    | none => simp [hzz] at hz
    | some z => simp [hzz, vcells_cells] at hz; exact ⟨z, rfl, hz⟩
  unfold iappend at hv
  split at hv <;> try (cases hv; done)
  rename_i base len cap n hn
  obtain ⟨⟨hb1, hb2⟩, hv⟩ := ifSomeO hv
  split at hv <;> try (cases hv; done)
  rename_i new hnew
  obtain ⟨dn, hdn, hdr, hdl, hdo⟩ := src_ok (P := P) s.has hy hn (Nat.le_refl _) hnew
  obtain ⟨b', c', rfl⟩ := lenV_vr hy hn (srcCells_slice hnew)
  have hdl' : dn.size = n * i.size := by have := hdr.length; simp at this; omega
  have hEn : E h.length = none := s.out _ (Nat.le_refl _)
  -- what a copy comes to
  have grow : ∀ {E1 : Emb} {h1 : Heap} (s1 : Sim B0 w0 E1 h1 w) (l1 : Later E w E1 w) (hh1 : h1.length = h.length) (bb : Option Addr) (sc : Nat) (old : List Value) (od : Array Value),
      sc < len + n → (∀ w' : World, w'.heap = w.heap → (Builtin.firstCells i.size len (.slice bb len sc)).run P w' = .ok od w') → VRs E old od.toList → old.length = len * i.size → old.all oneA = true →
      ∃ c w' E', (Builtin.append_ #[t, u] ty #[.slice bb len sc, .slice b' n c']).run P w = .ok c w' ∧ Sim B0 w0 E' (h1 ++ [.row (old ++ new) false]) w' ∧ Later E w E' w' ∧
        VR E' (.slice (some (loose h.length 0)) (len + n) i.size) c := by
    intro E1 h1 s1 l1 hh1 bb sc old od hroom hod hor hol hoo
    obtain ⟨nc, rest, g1, g2, g3⟩ := run_append_grow (P := P) (w := w) (ty := ty) hu hu' hi hz1 hroom hb1 hb2 hod hdn
    have hor1 : VRs E1 (old ++ new) (od ++ dn).toList := by
      rw [Array.toList_append]; exact (hor.app hdr).mono l1.le
    obtain ⟨s2, l2⟩ := s1.grown (t := e) (rest := rest) hB hor1 (by simp [List.all_append, hoo, hdo])
    refine ⟨_, _, _, g3, s2, l1.trans l2, ?_⟩
    refine .loose _ _ _ _ _ _ rfl (by rw [show (loose h.length 0).block = h1.length from hh1.symm]; exact Emb.put_same) g1 (fun x hx => ?_)
    injection hx with hx
    subst hx
    refine ⟨rfl, rfl, fun _ => rfl, ?_⟩
    have hol' : od.size = len * i.size := by have := hor.length; simp at this; omega
    simp only [Array.size_append, g2, hol', hdl', hz2]
    have : len * i.size + n * i.size + (nc - (len + n)) * i.size = nc * i.size := by
      rw [← Nat.add_mul, ← Nat.add_mul]
      congr 1
      omega
    omega
  split at hv
  · -- nil
    cases hx
    have hold : ∀ w' : World, w'.heap = w.heap → (Builtin.firstCells i.size 0 (.slice none 0 0)).run P w' = .ok #[] w' := fun w' _ => by simp [Builtin.firstCells]
    split at hv
    · rename_i h0
      injection hv with hv
      injection hv with e1 e2
      subst e1 e2 h0
      refine ⟨.slice none 0 0, w, E, ?_, s, Later.refl E w, .slice0⟩
      have := run_append_room (P := P) (w := w) (b := none) (sl := 0) (sc := 0) (ty := ty) hu hu' hi (by omega) (hdn w rfl)
      simpa using this
    · rename_i h0
      injection hv with hv
      injection hv with e1 e2
      subst e1 e2
      have := grow s (Later.refl E w) rfl none 0 [] #[] (by omega) hold .nil (by simp) rfl
      simpa using this
  · rename_i ad _
    split at hv
    · -- the capacity is known
      rename_i hsp
      cases hx with
      | loose _ c _ _ cap' e0 hsp' he hn' hc => rw [hsp] at hsp'; cases hsp'
      | slice _ c _ _ e0 hsp' he hn' hc =>
        split at hv
        · rename_i hroom
          split at hv
          · rename_i h0
            injection hv with hv
            injection hv with e1 e2
            subst e1 e2 h0
            have hdn0 : dn = #[] := Array.eq_empty_of_size_eq_zero (by omega)
            refine ⟨.slice (some c) len cap, w, E, ?_, s, Later.refl E w, .slice _ _ _ _ e0 hsp he hn' hc⟩
            rw [run_append_room (P := P) hu hu' hi hroom (hdn w rfl)]
            simp [hdn0, storeCells]
          · rename_i h0
            split at hv <;> try (cases hv; done)
            rename_i h1 hst
            injection hv with hv
            injection hv with e1 e2
            subst e1 e2
            have hbl : (ad.add (len * i.size)).block = ad.block := by unfold Addr.add; split <;> rfl
            have hof : (ad.add (len * i.size)).off = ad.off + len * i.size := by unfold Addr.add; split <;> simp_all
            obtain ⟨w', g1, g2, g3⟩ := stN_ok (P := P) s (ad := ad.add (len * i.size)) (c := c.add (len * i.size)) (e := e0) (by rw [hbl]; exact he) (fun x hx => by
              rw [hc x hx (by omega), add_eq, hof, Nat.add_assoc]) hdr hdo hst
            refine ⟨.slice (some c) (len + n) cap, w', E, ?_, g2, g3, .slice _ _ _ _ e0 hsp he hroom hc⟩
            rw [run_append_room (P := P) hu hu' hi hroom (hdn w rfl)]
            simp [g1]
        · rename_i hroom
          split at hv <;> try (cases hv; done)
          rename_i old hold
          injection hv with hv
          injection hv with e1 e2
          subst e1 e2
          obtain ⟨od, hod, hor, hol, hoo⟩ := src_ok (P := P) s.has (VR.slice ad c len cap e0 hsp he hn' hc) rfl (Nat.le_refl _) hold
          exact grow s (Later.refl E w) rfl (some c) cap old od (by omega) hod hor hol hoo
    · -- it is not
      rename_i q hsp
      cases hx with
      | slice _ c _ _ e0 hsp' he hn' hc => rw [hsp] at hsp'; cases hsp'
      | loose _ c _ _ cap' e0 hsp' he hn' hc =>
        split at hv
        · rename_i h0
          injection hv with hv
          injection hv with e1 e2
          subst e1 e2 h0
          have hdn0 : dn = #[] := Array.eq_empty_of_size_eq_zero (by omega)
          refine ⟨.slice (some c) len cap', w, E, ?_, s, Later.refl E w, .loose _ _ _ _ _ e0 hsp' he hn' hc⟩
          rw [run_append_room (P := P) hu hu' hi (by omega) (hdn w rfl)]
          simp [hdn0, storeCells]
        · rename_i h0
          split at hv <;> try (cases hv; done)
          rename_i old cs hold hb
          obtain ⟨⟨hce, hlo⟩, hv⟩ := ifSome hv
          injection hv with e1 e2
          subst e1 e2
          obtain ⟨od, hod, hor, hol, hoo⟩ := src_ok (P := P) s.has (VR.loose ad c len cap cap' e0 hsp' he hn' hc) rfl (Nat.le_refl _) hold
          have hilt : ad.block < h.length := (List.getElem?_eq_some_iff.1 hb).1
          by_cases hroom : len + n ≤ cap'
          · rcases s.ent he with ⟨x, k, rfl, hk, hd, hbr⟩ | ⟨_, hk⟩
            · rw [hb] at hk
              injection hk with hk
              subst hk
              obtain ⟨C, ct, fz, k1, k2, k3, k4, k5, k6⟩ := hbr
              obtain ⟨hB', rfl⟩ := k5 rfl
              obtain ⟨r1, r2, r3, r4⟩ := hc x rfl
              obtain ⟨cb, co, csp⟩ := c
              simp only at r1 r2 r3 r4
              subst r1 r2
              have hdone : VRs E new dn.toList := hdr
              have hsize : co + len * i.size + new.length ≤ C.size := by
                have h1 : (len + n) * i.size ≤ cap' * cap := by rw [hce]; exact Nat.mul_le_mul_right _ hroom
                rw [Nat.add_mul] at h1
                omega
              have hone : ∀ q ∈ dn.toList, q.oneCell' = true := hdr.one hdo
              have hrun := run_storeCells_at (P := P) x.b (co + len * i.size) ct dn.toList 0 C w k1 (by simp; have := hdr.length; simp at this; omega) hone
              obtain ⟨s2, l2⟩ := s.reuse (cs' := old ++ new) (C' := (splice C.toList (co + len * i.size) dn.toList).toArray) (o := co) hb he k1 hB' (by
                have := splice_length C.toList dn.toList (co + len * i.size) (by simp; omega)
                simpa using this) k2 (by
                have := splice_length C.toList dn.toList (co + len * i.size) (by simp; omega)
                simp only [List.size_toArray, this, List.length_append, Array.length_toList]
                omega) (by
                simp only [List.toList_toArray, List.length_append]
                rw [hol, show new.length = dn.toList.length by simp; omega, splice_tail _ _ _ _ (by simp; omega)]
                refine VRs.app ?_ hdr
                by_cases hl0 : len = 0
                · subst hl0
                  have : old = [] := List.length_eq_zero_iff.1 (by omega)
                  subst this
                  simpa using VRs.nil
                · have hco : co = x.base + ad.off := r3 (by omega)
                  have := hod w rfl
                  rw [show (Builtin.firstCells i.size len (.slice (some ⟨x.b, co, none⟩) len cap') : Sem (Array Value)) = loadCells ⟨x.b, co, none⟩ (len * i.size) from rfl,
                    run_loadCells_row (P := P) k1 (o := co) (n := len * i.size) (by omega)] at this
                  injection this with this
                  rw [← this] at hor
                  simpa using hor) (by simp [List.all_append, hoo, hdo])
              refine ⟨.slice (some ⟨x.b, co, none⟩) (len + n) cap', _, _, ?_, s2, l2, ?_⟩
              · rw [run_append_room (P := P) hu hu' hi hroom (hdn w rfl)]
                simp only [add_eq, hrun]
                simp [splice]
              · refine .loose _ _ _ _ _ _ rfl Emb.put_same hroom (fun y hy => ?_)
                injection hy with hy
                subst hy
                exact ⟨rfl, rfl, fun _ => rfl, by rw [← hce]; exact r4⟩
            · rw [hb] at hk; cases hk
          · obtain ⟨s1, l1⟩ := s.kill hilt
            exact grow s1 l1 (by simp) (some c) cap' old od (by omega) hod hor hol hoo

theorem mapPut_ok {k : IntKind} {n : Int} {d : TypeDesc} (hd : ∃ j, d = .int j) {u u' : Value} (hu : VR E u u') : ∀ {es es' : List (Value × Value)} {xs : List MapEntry}, MR E es xs → mapPut (.int k n) u es = some es' →
    ∀ i, (∃ (j : Nat) (c : Value) (y : MapEntry), Instr.findNow d (.int k n) xs i = some (some (i + j, c)) ∧ xs[j]? = some y ∧ y.key = .int k n ∧ ∀ b : Nat, MR E es' (xs.modify j fun e => { e with key := .int k n, val := u' })) ∨
      (Instr.findNow d (.int k n) xs i = some none ∧ ∀ b : Nat, MR E es' (xs ++ [{ key := .int k n, val := u', born := b }]))
  | _, es', _, .nil, h, i => by
    simp [mapPut] at h; subst h
    exact .inr ⟨rfl, fun b => .cons _ _ _ _ _ _ rfl hu .nil⟩
  | _, es', _, .cons k' n' v x es xs hk hv hs, h, i => by
    obtain ⟨q, rfl⟩ := hd
    simp only [mapPut, eq1] at h
    by_cases hkk : k = k'
    · subst hkk
      by_cases hn : n = n'
      · subst hn
        simp at h
        subst h
        exact .inl ⟨0, x.val, x, by simp [Instr.findNow, hk, Instr.sameNow], by simp, hk, fun _ => by simpa using MR.cons k n u _ _ _ rfl hu hs⟩
      · have hf : (n == n') = false := by simpa using hn
        simp only [if_true, hf] at h
        split at h <;> try (cases h; done)
        rename_i r hr
        injection h with h
        subst h
        rcases mapPut_ok ⟨q, rfl⟩ hu hs hr (i + 1) with ⟨j, c, y, h1, h2, h3, h4⟩ | ⟨h1, h2⟩
        · refine .inl ⟨j + 1, c, y, ?_, by simpa using h2, h3, fun b => ?_⟩
          · simp only [Instr.findNow, hk, Instr.sameNow, if_true, hf, h1]
            simp
            omega
          · rw [List.modify_succ_cons]
            exact .cons k n' v _ _ _ hk hv (h4 b)
        · refine .inr ⟨by simp [Instr.findNow, hk, Instr.sameNow, hf, h1], fun b => ?_⟩
          rw [List.cons_append]
          exact .cons k n' v _ _ _ hk hv (h2 b)
    · simp [hkk] at h

theorem mapDrop_ok {k : IntKind} {n : Int} {d : TypeDesc} (hd : ∃ j, d = .int j) : ∀ {es es' : List (Value × Value)} {xs : List MapEntry}, MR E es xs → mapDrop (.int k n) es = some es' →
    ∀ i, (∃ (j : Nat) (c : Value), Instr.findNow d (.int k n) xs i = some (some (i + j, c)) ∧ j < xs.length ∧ MR E es' (xs.eraseIdx j)) ∨
      (Instr.findNow d (.int k n) xs i = some none ∧ MR E es' xs)
  | _, es', _, .nil, h, i => by
    simp [mapDrop] at h; subst h
    exact .inr ⟨rfl, .nil⟩
  | _, es', _, .cons k' n' v x es xs hk hv hs, h, i => by
    obtain ⟨q, rfl⟩ := hd
    simp only [mapDrop, eq1] at h
    by_cases hkk : k = k'
    · subst hkk
      by_cases hn : n = n'
      · subst hn
        simp at h
        subst h
        exact .inl ⟨0, x.val, by simp [Instr.findNow, hk, Instr.sameNow], by simp, by simpa using hs⟩
      · have hf : (n == n') = false := by simpa using hn
        simp only [if_true, hf] at h
        split at h <;> try (cases h; done)
        rename_i r hr
        injection h with h
        subst h
        rcases mapDrop_ok ⟨q, rfl⟩ hs hr (i + 1) with ⟨j, c, h1, h2, h3⟩ | ⟨h1, h2⟩
        · refine .inl ⟨j + 1, c, ?_, by simpa using h2, ?_⟩
          · simp only [Instr.findNow, hk, Instr.sameNow, if_true, hf, h1]
            simp
            omega
          · simpa using MR.cons k n' v _ _ _ hk hv h3
        · exact .inr ⟨by simp [Instr.findNow, hk, Instr.sameNow, hf, h1], .cons k n' v _ _ _ hk hv h2⟩
    · simp [hkk] at h

/-- A write into a map. -/
theorem Sim.setMap (s : Sim B0 w0 E h w) {i : Nat} {es es' : List (Value × Value)} (hi : h[i]? = some (.map es)) {x : Ent} (hx : E i = some (some x)) {M : Array MapEntry} {clk' : Nat} (hB : B0 ≤ x.b)
    (hlt : x.b < w.heap.size) (hr : MR E es' M.toList) :
    Sim B0 w0 E (h.set i (.map es')) { w with heap := w.heap.setIfInBounds x.b (.map M clk') } ∧ Later E w E { w with heap := w.heap.setIfInBounds x.b (.map M clk') } := by
  have hilt : i < h.length := (List.getElem?_eq_some_iff.1 hi).1
  have hother : ∀ j y, j ≠ i → E j = some (some y) → y.b ≠ x.b := fun j y hj hy e => by
    have := (s.inj i j x y (fun e => hj e.symm) hx hy e.symm).1
    rw [hi] at this
    cases this
  have hold : ∀ b, b ≠ x.b → (w.heap.setIfInBounds x.b (.map M clk'))[b]? = w.heap[b]? := fun b hb => by
    rw [Array.getElem?_setIfInBounds_ne (fun e => hb e.symm)]
  constructor
  · refine ⟨s.below.trans ⟨rfl, rfl, rfl, by simp, fun b hb => hold b (by omega)⟩, fun j hj => s.out j (by simpa using hj), fun j hj => ?_, fun j k hj hk => ?_, fun j j' y y' hne hy hy' he => ?_⟩
    · rw [List.getElem?_set] at hj
      split at hj
      · cases hj
      · exact s.dead j hj
    · by_cases hji : j = i
      · subst hji
        rw [List.getElem?_set_self hilt] at hj
        injection hj with hj
        subst hj
        exact ⟨x, hx, M, clk', by simp [hlt], hr, hB⟩
      · rw [List.getElem?_set_ne (fun e => hji e.symm)] at hj
        obtain ⟨y, hy, hbr⟩ := s.live j k hj hk
        exact ⟨y, hy, hbr.world (hold _ (hother j y hji hy))⟩
    · have := s.inj j j' y y' hne hy hy' he
      have h1 : j ≠ i := fun e => by subst e; rw [hi] at this; cases this.1
      have h2 : j' ≠ i := fun e => by subst e; rw [hi] at this; cases this.2
      rw [List.getElem?_set_ne (fun e => h1 e.symm), List.getElem?_set_ne (fun e => h2 e.symm)]
      exact this
  · exact ⟨Emb.le_refl E, fun j y hy => .inl ⟨j, y, hy, rfl⟩, by simp, fun b hb hn => hold b (fun e => hn i x hx e.symm)⟩

theorem run_setObj_map {b : Nat} {M : Array MapEntry} {clk : Nat} (hM : w.heap[b]? = some (.map M clk)) (o : Obj) : (setObj b o).run P w = .ok () { w with heap := w.heap.setIfInBounds b o } := by
  simp [setObj, Sem.run, hM]

def isCall : IOp → Bool
  | .call .. | .callv .. | .invoke .. => true
  | _ => false

/-- Writing. -/
theorem eff_ok {ops : List Oper} {o : Oper} {io : IOp} (hc : NP P LB ops o io) (hp : isEff io = true) (hnc : isCall io = false) (hop : OpOk LB E f a o) (s : Sim B0 w0 E h w) (hB : B0 ≤ w.heap.size)
    (hv : iop call lo io f h = some (v, h')) : Effd P B0 w0 a o E w h' v := by
  have vnone : VR E noneV undef := .tuple _ _ (by simpa using VRs.nil)
  obtain ⟨dst, op, ty, pos, after, guard⟩ := o
  cases hc <;> simp [isEff] at hp <;> simp [isCall] at hnc
  case store t x y n ho hn hx hy =>
    simp only at ho
    subst ho
    simp only [iop] at hv
    split at hv <;> try (cases hv; done)
    rename_i ad u hu hu'
    obtain ⟨⟨hl, h1⟩, hv⟩ := ifSomeO hv
    split at hv <;> try (cases hv; done)
    rename_i h2 hst
    injection hv with hv
    injection hv with e1 e2
    subst e1 e2
    have hxv := hop x (by simp [Op.operands]) hx _ hu
    have hyv := hop y (by simp [Op.operands]) hy _ hu'
    generalize hce : a.eval x = cv at hxv
    cases hxv with
    | ptr _ c e hsp he hcc =>
      have hcl := hyv.cells
      obtain ⟨w', g1, g2, g3⟩ := stN_ok (P := P) s he hcc hcl h1 hst
      refine ⟨undef, w', E, .inr ⟨?_, rfl⟩, g2, g3, vnone⟩
      have hsz : (a.eval y).cells.size = n := by have := hcl.length; simp at this; omega
      simp [execOp, hce, Instr.storeAt, Instr.sureAddr, storeVar, run_sizeOf' hn, hsz, g1]
  case append t u e e' x y i ho hu hu' hi hz h1 h2 =>
    simp only at ho
    subst ho
    simp only [iop] at hv
    split at hv <;> try (cases hv; done)
    rename_i xv yv hxe hye
    have hxv := hop x (by simp [Op.operands, Call.operands]) h1 _ hxe
    have hyv := hop y (by simp [Op.operands, Call.operands]) h2 _ hye
    obtain ⟨c, w', E', g1, g2, g3, g4⟩ := append_ok (P := P) (ty := ty) s hB hu hu' hi hz hxv hyv hv
    obtain ⟨cs, hcs⟩ := run_builtin (P := P) (a := a) (dst := dst) (ty := ty) (pos := pos) (after := after) (guard := guard) (b := .append) (args := #[x, y]) (ts := #[t, u])
    refine ⟨c, w', E', .inl ?_, g2, g3, g4⟩
    rw [hcs]
    simp [builtin, g1]
  case copy t e ts x y n ho ht hu hn h1 h2 =>
    simp only at ho
    subst ho
    simp only [iop] at hv
    split at hv <;> try (cases hv; done)
    rename_i base dlen dcap yv hxe hye
    have hxv := hop x (by simp [Op.operands, Call.operands]) h1 _ hxe
    have hyv := hop y (by simp [Op.operands, Call.operands]) h2 _ hye
    split at hv <;> try (cases hv; done)
    rename_i slen hsl
    split at hv <;> try (cases hv; done)
    rename_i cs hcs
    obtain ⟨dn, hdn, hdr, hdl, hdo⟩ := src_ok (P := P) s.has hyv hsl (Nat.min_le_left _ _) hcs
    obtain ⟨b', c', hye'⟩ := lenV_vr hyv hsl (srcCells_slice hcs)
    rw [hye'] at hdn hyv
    obtain ⟨bs, hbs⟩ := run_builtin (P := P) (a := a) (dst := dst) (ty := ty) (pos := pos) (after := after) (guard := guard) (b := .copy) (args := #[x, y]) (ts := ts)
    have run : ∀ (bb : Option Addr) (dc : Nat), a.eval x = .slice bb dlen dc → (execOp a.eval ⟨dst, .call ⟨.builtin .copy, #[x, y], ts⟩, ty, pos, after, guard⟩).run P w =
        (match bb with | none => .ok (.value (.int .i64 (min slen dlen : Nat))) w | some ad => ((storeCells ad dn.toList).run P w).andThen fun _ w' => .ok (.value (.int .i64 (min slen dlen : Nat))) w') := by
      intro bb dc hxe'
      rw [hbs]
      have e1 : (#[x, y].map a.eval) = #[.slice bb dlen dc, .slice b' slen c'] := by simp [hxe', hye']
      have a2 : (#[.slice bb dlen dc, .slice b' slen c'] : Array Value)[0]? = some (.slice bb dlen dc) := rfl
      have a3 : (#[.slice bb dlen dc, .slice b' slen c'] : Array Value)[1]? = some (.slice b' slen c') := rfl
      have hm : Nat.min slen dlen = min slen dlen := rfl
      rw [e1]
      simp only [builtin, Builtin.copy_, ht, a2, a3, Sem.run_bind, run_underlying hu, Result.andThen_ok, Builtin.lenOf, Sem.run_pure, run_sizeOf' hn, hm, hdn w rfl]
      cases bb with
      | none => simp [goInt]
      | some ad =>
        simp only [Sem.run_bind]
        cases (storeCells ad dn.toList).run P w <;> simp [goInt]
    split at hv
    · injection hv with hv
      injection hv with e1 e2
      subst e1 e2
      generalize hce : a.eval x = cv at hxv
      cases hxv with
      | slice0 =>
        refine ⟨_, w, E, .inl ?_, s, Later.refl E w, .int _ _⟩
        rw [run none 0 hce]
    · rename_i ad
      split at hv
      · rename_i h0
        injection hv with hv
        injection hv with e1 e2
        subst e1 e2
        have hdn0 : dn = #[] := Array.eq_empty_of_size_eq_zero (by have := hdr.length; rw [hdl, h0] at this; simp at this; exact this.symm)
        generalize hce : a.eval x = cv at hxv
        have : ∃ c dc, cv = .slice (some c) dlen dc := by cases hxv <;> exact ⟨_, _, rfl⟩
        obtain ⟨c, dc, rfl⟩ := this
        refine ⟨.int .i64 (0 : Nat), w, E, .inl ?_, s, Later.refl E w, .int _ _⟩
        rw [run (some c) dc hce]
        simp [hdn0, storeCells, h0]
      · rename_i h0
        split at hv <;> try (cases hv; done)
        rename_i h2' hst
        injection hv with hv
        injection hv with e1 e2
        subst e1 e2
        have hdpos : 0 < dlen := by
          rcases Nat.eq_zero_or_pos dlen with hd | hd
          · subst hd; simp at h0
          · exact hd
        generalize hce : a.eval x = cv at hxv
        cases hxv with
        | slice _ c _ _ e0 hsp he hn' hc =>
          obtain ⟨w', g1, g2, g3⟩ := stN_ok (P := P) s (ad := tight ad) (c := c) (e := e0) he (fun x hx => hc x hx (by omega)) hdr hdo hst
          refine ⟨_, w', E, .inl ?_, g2, g3, .int _ _⟩
          rw [run (some c) _ hce]
          simp only [g1]
          rfl
        | loose _ c _ _ cap' e0 hsp he hn' hc =>
          obtain ⟨w', g1, g2, g3⟩ := stN_ok (P := P) s (ad := tight ad) (c := c) (e := e0) he (fun x hx => by
            obtain ⟨r1, r2, r3, r4⟩ := hc x hx
            have r5 := r3 hdpos
            obtain ⟨cb, co, cs⟩ := c
            simp only at r1 r2 r5
            subst r1 r2 r5
            rfl) hdr hdo hst
          refine ⟨_, w', E, .inl ?_, g2, g3, .int _ _⟩
          rw [run (some c) _ hce]
          simp only [g1]
          rfl
  case clear t e x n z ho hu hn hz hl h1 =>
    simp only at ho
    subst ho
    obtain ⟨hz1, hz2, hz3⟩ := zeroFlat_of hz
    simp only [iop] at hv
    split at hv <;> try (cases hv; done)
    rename_i base len cap hxe
    have hxv := hop x (by simp [Op.operands, Call.operands]) h1 _ hxe
    obtain ⟨bs, hbs⟩ := run_builtin (P := P) (a := a) (dst := dst) (ty := ty) (pos := pos) (after := after) (guard := guard) (b := .clear) (args := #[x]) (ts := #[t])
    have vn : VR E noneV (.tuple #[]) := vnone
    generalize hce : a.eval x = cv at hxv
    have b0 : (#[t] : Array TypeId)[0]? = some t := rfl
    have b1 : ∀ c : Value, (#[c] : Array Value)[0]? = some c := fun c => rfl
    split at hv
    · injection hv with hv
      injection hv with e1 e2
      subst e1 e2
      cases hxv with
      | slice0 =>
        refine ⟨.tuple #[], w, E, .inl ?_, s, Later.refl E w, vn⟩
        rw [hbs]
        simp [builtin, Builtin.clear_, hce, run_underlying hu]
    · rename_i ad
      split at hv
      · rename_i h0
        injection hv with hv
        injection hv with e1 e2
        subst e1 e2 h0
        have : ∃ c dc, cv = .slice (some c) 0 dc := by cases hxv <;> exact ⟨_, _, rfl⟩
        obtain ⟨c, dc, rfl⟩ := this
        refine ⟨.tuple #[], w, E, .inl ?_, s, Later.refl E w, vn⟩
        rw [hbs]
        simp [builtin, Builtin.clear_, hce, run_underlying hu]
      · rename_i h0
        split at hv <;> try (cases hv; done)
        rename_i h2' hst
        injection hv with hv
        injection hv with e1 e2
        subst e1 e2
        have hzc : (Builtin.zeroCells z.cells len).toList = repeatL (vcells z) len := by
          have hzs : z.cells.size = n := by rw [← hl, vcells_cells]; simp
          simp only [Builtin.zeroCells, Array.toList_map, Array.toList_range]
          rcases Nat.eq_zero_or_pos z.cells.size with h3 | h3
          · have : vcells z = [] := List.length_eq_zero_iff.1 (by rw [vcells_cells]; simpa using h3)
            rw [h3, repeatL_eq, this]
            simp
          · rw [repeat_range z.cells h3, repeatL_eq, vcells_cells]
        have hzr : VRs E (repeatL (vcells z) len) (Builtin.zeroCells z.cells len).toList := by rw [hzc]; exact VRs.flat (repeatL_flat hz3 _)
        have fin : ∀ (c : Addr) (dc : Nat) (e0 : Option Ent), cv = .slice (some c) len dc → E ad.block = some e0 → (∀ x, e0 = some x → c = ⟨x.b, x.base + ad.off, none⟩) →
            Effd P B0 w0 a ⟨dst, .call ⟨.builtin .clear, #[x], #[t]⟩, ty, pos, after, guard⟩ E w h2' noneV := by
          intro c dc e0 hcv he hcc
          obtain ⟨w', g1, g2, g3⟩ := stN_ok (P := P) s (ad := tight ad) (c := c) (e := e0) he hcc hzr (oneA_flatL (repeatL_flat hz3 _)) hst
          refine ⟨.tuple #[], w', E, .inl ?_, g2, g3, vn⟩
          rw [hbs]
          have e1 : (#[x].map a.eval) = #[.slice (some c) len dc] := by simp [hce, hcv]
          rw [e1]
          obtain ⟨m, rfl⟩ : ∃ m, len = m + 1 := ⟨len - 1, by omega⟩
          simp only [builtin, Builtin.clear_, b0, b1, Sem.run_bind, run_underlying hu, Result.andThen_ok, run_zeroValue' hz1, g1, Sem.run_pure]
        cases hxv with
        | slice _ c _ _ e0 hsp he hn' hc => exact fin c _ e0 rfl he (fun x hx => hc x hx (by omega))
        | loose _ c _ _ cap' e0 hsp he hn' hc =>
          exact fin c _ e0 rfl he (fun x hx => by
            obtain ⟨r1, r2, r3, r4⟩ := hc x hx
            have r5 := r3 (by omega)
            obtain ⟨cb, co, cs⟩ := c
            simp only at r1 r2 r5
            subst r1 r2 r5
            rfl)
  case mapupd t kt e j m k x ho hu hk h1 h2 h3 =>
    simp only at ho
    subst ho
    simp only [iop] at hv
    split at hv <;> try (cases hv; done)
    rename_i r kv xv hme hke hxe
    obtain ⟨⟨hki, hlo⟩, hv⟩ := ifSomeO hv
    obtain ⟨kk, kn, rfl⟩ := isInt_of hki
    split at hv <;> try (cases hv; done)
    rename_i es hes
    split at hv <;> try (cases hv; done)
    rename_i es' hes'
    injection hv with hv
    injection hv with e1 e2
    subst e1 e2
    have hmv := hop m (by simp [Op.operands]) h1 _ hme
    have hkv := (hop k (by simp [Op.operands]) h2 _ hke).eq_flat1 rfl
    have hxv := hop x (by simp [Op.operands]) h3 _ hxe
    generalize hme' : a.eval m = mv at hmv
    cases hmv with
    | map r c e0 he hcc =>
      obtain ⟨y, M, clk, rfl, hM, hmr, hBy⟩ := s.has.map he (hmap_some hes)
      have e1 := hcc y rfl
      subst e1
      have hlt : y.b < w.heap.size := (Array.getElem?_eq_some_iff.1 hM).1
      rcases mapPut_ok (d := .int j) ⟨j, rfl⟩ hxv hmr hes' 0 with ⟨q, cc, z, g1, g2, g3, g4⟩ | ⟨g1, g2⟩
      · obtain ⟨s2, l2⟩ := s.setMap (M := M.modify q fun e => { e with key := .int kk kn, val := a.eval x }) (clk' := clk) (hmap_some hes) he hBy hlt (by rw [Array.toList_modify]; exact g4 0)
        refine ⟨undef, _, E, .inr ⟨?_, rfl⟩, s2, l2, vnone⟩
        simp only [execOp, hme', hkv, Instr.mapUpdate, Sem.run_bind, run_underlying hu, Result.andThen_ok, run_getObj_map (P := P) hM]
        rw [checkKey_int hk _ _ _ 9999]
        have hz : M[q]? = some z := by simpa using g2
        have hsb : Instr.sameBits 10000 (.int kk kn) (.int kk kn) = true := by
          show (kk == kk && kn == kn) = true
          simp
        simp only [Instr.findKey, Sem.run_bind, run_underlying hk, Result.andThen_ok, g1, Sem.run_pure, Nat.zero_add, hz, Option.map_some, Option.getD_some, g3, Instr.keyThatStays, hsb, if_true]
        rw [run_setObj_map (P := P) hM]
        rfl
      · obtain ⟨s2, l2⟩ := s.setMap (M := M.push { key := .int kk kn, val := a.eval x, born := clk }) (clk' := clk + 1) (hmap_some hes) he hBy hlt (by rw [Array.toList_push]; exact g2 clk)
        refine ⟨undef, _, E, .inr ⟨?_, rfl⟩, s2, l2, vnone⟩
        simp only [execOp, hme', hkv, Instr.mapUpdate, Sem.run_bind, run_underlying hu, Result.andThen_ok, run_getObj_map (P := P) hM]
        rw [checkKey_int hk _ _ _ 9999]
        simp only [Instr.findKey, Sem.run_bind, run_underlying hk, Result.andThen_ok, g1, Sem.run_pure]
        rw [run_setObj_map (P := P) hM]
        rfl
  case mapdel t kt e ts j m k ho ht hu hk h1 h2 =>
    simp only at ho
    subst ho
    simp only [iop] at hv
    split at hv <;> try (cases hv; done)
    rename_i r kv hme hke
    obtain ⟨hki, hv⟩ := ifSomeO hv
    obtain ⟨kk, kn, rfl⟩ := isInt_of hki
    have hmv := hop m (by simp [Op.operands, Call.operands]) h1 _ hme
    have hkv := (hop k (by simp [Op.operands, Call.operands]) h2 _ hke).eq_flat1 rfl
    have vn : VR E noneV (.tuple #[]) := vnone
    obtain ⟨bs, hbs⟩ := run_builtin (P := P) (a := a) (dst := dst) (ty := ty) (pos := pos) (after := after) (guard := guard) (b := .delete) (args := #[m, k]) (ts := ts)
    generalize hme' : a.eval m = mv at hmv
    have e1 : (#[m, k].map a.eval) = #[mv, .int kk kn] := by simp [hme', hkv]
    have a2 : (#[mv, .int kk kn] : Array Value)[0]? = some mv := rfl
    have a3 : (#[mv, .int kk kn] : Array Value)[1]? = some (.int kk kn) := rfl
    rw [e1] at hbs
    cases hmv with
    | map0 =>
      simp only at hv
      injection hv with hv
      injection hv with e1 e2
      subst e1 e2
      refine ⟨.tuple #[], w, E, .inl ?_, s, Later.refl E w, vn⟩
      rw [hbs]
      simp only [builtin, Builtin.delete_, ht, a2, a3, Sem.run_bind, run_underlying hu, Result.andThen_ok]
      rw [checkKey_int hk _ _ _ 9999]
      rfl
    | map r c e0 he hcc =>
      simp only at hv
      obtain ⟨hlo, hv⟩ := ifSomeO hv
      split at hv <;> try (cases hv; done)
      rename_i es hes
      split at hv <;> try (cases hv; done)
      rename_i es' hes'
      injection hv with hv
      injection hv with e1 e2
      subst e1 e2
      obtain ⟨y, M, clk, rfl, hM, hmr, hBy⟩ := s.has.map he (hmap_some hes)
      have e1 := hcc y rfl
      subst e1
      have hlt : y.b < w.heap.size := (Array.getElem?_eq_some_iff.1 hM).1
      rcases mapDrop_ok (d := .int j) ⟨j, rfl⟩ hmr hes' 0 with ⟨q, cc, g1, g2, g3⟩ | ⟨g1, g2⟩
      · obtain ⟨s2, l2⟩ := s.setMap (M := M.eraseIdxIfInBounds q) (clk' := clk) (hmap_some hes) he hBy hlt (by
          rw [Array.toList_eraseIdxIfInBounds]; exact g3)
        refine ⟨.tuple #[], _, E, .inl ?_, s2, l2, vn⟩
        rw [hbs]
        simp only [builtin, Builtin.delete_, ht, a2, a3, Sem.run_bind, run_underlying hu, Result.andThen_ok, run_getObj_map (P := P) hM]
        rw [checkKey_int hk _ _ _ 9999]
        simp only [Instr.findKey, Sem.run_bind, run_underlying hk, Result.andThen_ok, g1, Sem.run_pure, Nat.zero_add]
        rw [run_setObj_map (P := P) hM]
        rfl
      · obtain ⟨s2, l2⟩ := s.setMap (M := M) (clk' := clk) (hmap_some hes) he hBy hlt g2
        refine ⟨.tuple #[], _, E, .inl ?_, s2, l2, vn⟩
        rw [hbs]
        simp only [builtin, Builtin.delete_, ht, a2, a3, Sem.run_bind, run_underlying hu, Result.andThen_ok, run_getObj_map (P := P) hM]
        rw [checkKey_int hk _ _ _ 9999]
        simp only [Instr.findKey, Sem.run_bind, run_underlying hk, Result.andThen_ok, g1, Sem.run_pure]
        rw [run_setObj_map (P := P) hM]
        rfl

end
end Go.Ir
