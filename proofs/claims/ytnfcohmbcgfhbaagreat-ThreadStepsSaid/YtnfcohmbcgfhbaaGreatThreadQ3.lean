/- A thread's steps keep words in their range, and rows their lengths. -/
import Derived.Test.YtnfcohmbcgfhbaaGreatThreadQ2
set_option linter.unusedVariables false
set_option linter.unusedSimpArgs false

namespace Go.Proofs.YtnfcohmbcgfhbaaGreat
open Go Go.Ir

theorem qo8 (n : Int) : inR (w64 n) := by unfold inR w64; rw [IntKind.wrap_i64]; omega
theorem qo9 {n : Nat} (h : n < 2 ^ 62) : inR (n : Int) := by unfold inR; omega
theorem qpa : inR 0 := by unfold inR; omega
theorem qpb (w : Int) (F : Ent → Int × Ent) : inR (chE w F).1 := by
 unfold chE
 split
 ·exact qpa
 ·split
  ·split
   ·split
    ·rename_i h
     exact qo9 (Nat.lt_trans (qjZ h) (by decide))
    ·exact qpa
   ·exact qpa
  ·exact qpa
theorem qpc (e : Ent) : inR (qnI e) := by
 unfold qnI
 split
 ·rename_i h
  exact qo9 (Nat.lt_trans (qjZ h) (by decide))
 ·exact qpa
theorem qpd (w l : Int) : inR (qkD w l).1 := by
 unfold qkD qkC
 split
 ·exact qpa
 ·rename_i p h
  have hh := qkH (t := p.1) (g := p.2) h
  have := qkZ hh.2.1
  split
  ·split
   ·exact qpa
   ·refine qo9 ?_
    unfold qky
    omega
  ·exact qpa
theorem qpe (w s : Int) : inR (qkF w s).1 ∧ inR (qkF w s).2.1 := by
 unfold qkF qkE
 split
 ·exact ⟨qpa, qpa⟩
 ·rename_i p h
  have hh := qkH (t := p.1) (g := p.2) h
  have := qkZ hh.2.1
  split
  ·refine ⟨qo9 ?_, qo9 ?_⟩
   ·unfold qky; omega
   ·omega
  ·exact ⟨qpa, qpa⟩

def Mx.rg : Mx → Prop
 | .al s => inR s.word ∧ inR s.p.to ∧ inR s.q.to
 | .fe s => inR s.p.to
 | .pn s => inR s.to
 | _ => True

variable {c : Cfg} {ws bs : List Int}
theorem qpf {s : Sk} (h : Rng ws) (ht : inR s.to) : Rng (qlf c s ws).2.1 ∧ inR (qlf c s ws).1.to ∧ (qlf c s ws).2.1.length = ws.length := by
 unfold qlf
 repeat' split
 all_goals first | exact ⟨h, ht, rfl⟩ | exact ⟨h, qpd _ _, rfl⟩ | exact ⟨qlM h _ ht, ht, qiT _ _ _⟩
theorem qpg {s : Sk} (h : Rng ws) (ht : inR s.to) : Rng (qlg c s ws).2.1 ∧ inR (qlg c s ws).1.to ∧ (qlg c s ws).2.1.length = ws.length := by
 unfold qlg
 repeat' split
 all_goals first | exact ⟨h, ht, rfl⟩ | exact ⟨qlM h _ (qpe _ _).2, (qpe _ _).1, qiT _ _ _⟩ | exact ⟨qlM h _ ht, ht, qiT _ _ _⟩

def qph (ws bs : List Int) (m : Mx) (ws' bs' : List Int) : Prop := Rng ws' ∧ m.rg ∧ ws'.length = ws.length ∧ bs'.length = bs.length
theorem qpi (o : Op4) : (mkM o).rg ∧ (mkM o).ok := by
 unfold mkM
 repeat' split
 all_goals first | exact ⟨trivial, o.hr⟩ | exact ⟨⟨qpa, qpa, qpa⟩, o.nr⟩ | exact ⟨qpa, o.hr⟩ | exact ⟨trivial, trivial⟩
theorem qpj {s : Wr} (h : Rng ws) : Rng (wrS c s ws bs).2.1 ∧ (wrS c s ws bs).2.1.length = ws.length ∧ (wrS c s ws bs).2.2.1.length = bs.length := by
 unfold wrS
 repeat' split
 all_goals first | exact ⟨h, rfl, rfl⟩ | exact ⟨qlM h _ (qpb _ _), qiT _ _ _, rfl⟩ | exact ⟨h, rfl, qiT _ _ _⟩
theorem qpk (s : Pn) (o : Option Ent) (ht : inR s.to) : inR (qne s o).1.to := by
 unfold qne
 repeat' split
 all_goals first | exact ht | (unfold qnd; split <;> first | exact ht | exact qpb _ _)
theorem qpl {s : Pn} (h : Rng ws) (ht : inR s.to) : Rng (pnS c s ws).2.1 ∧ inR (pnS c s ws).1.to ∧ (pnS c s ws).2.1.length = ws.length := by
 unfold pnS
 repeat' split
 all_goals first | exact ⟨h, ht, rfl⟩ | exact ⟨qlM h _ ht, ht, qiT _ _ _⟩ | exact ⟨h, qpk _ _ ht, rfl⟩
theorem qpm (s : Fe) (o : Option Ent) : (qnq s o).1.p = s.p := by
 unfold qnq
 repeat' split
 all_goals rfl
theorem qpn {s : Fe} (h : Rng ws) (ht : inR s.p.to) : Rng (qnr s (qlg c s.p ws)).2.1 ∧ inR (qnr s (qlg c s.p ws)).1.p.to ∧ (qnr s (qlg c s.p ws)).2.1.length = ws.length := by
 have := qpg (c := c) h ht
 unfold qnr
 split <;> exact this
theorem qpo {s : Fe} (h : Rng ws) (ht : inR s.p.to) : Rng (feS c s ws).2.1 ∧ inR (feS c s ws).1.p.to ∧ (feS c s ws).2.1.length = ws.length := by
 unfold feS
 repeat' split
 all_goals first | exact ⟨h, ht, rfl⟩ | exact ⟨h, by rw [qpm]; exact ht, rfl⟩ | exact ⟨qlM h _ (qpb _ _), qpa, qiT _ _ _⟩ | exact ⟨qlM h _ (qpb _ _), ht, qiT _ _ _⟩ | exact qpn h ht
theorem qpp {s : Al} (h : Rng ws) (hw : inR s.word) (hp : inR s.p.to) (hq : inR s.q.to) : Rng (qnK s (qlf c s.p ws)).2 ∧ (Mx.al (qnK s (qlf c s.p ws)).1).rg ∧ (qnK s (qlf c s.p ws)).2.length = ws.length := by
 have := qpf (c := c) h hp
 unfold qnK
 repeat' split
 all_goals exact ⟨this.1, ⟨hw, this.2.1, hq⟩, this.2.2⟩
theorem qpq {s : Al} (h : Rng ws) (hw : inR s.word) (hp : inR s.p.to) (hq : inR s.q.to) : Rng (qnL s (qlg c s.q ws)).2 ∧ (Mx.al (qnL s (qlg c s.q ws)).1).rg ∧ (qnL s (qlg c s.q ws)).2.length = ws.length := by
 have := qpg (c := c) h hq
 unfold qnL
 split
 all_goals exact ⟨this.1, ⟨hw, hp, this.2.1⟩, this.2.2⟩
theorem qpr {s : Al} {o : Option Ent} (hw : inR s.word) (hp : inR s.p.to) (hq : inR s.q.to) : (Mx.al (qnM s o)).rg := by
 unfold qnM
 repeat' split
 all_goals first | exact ⟨hw, hp, hq⟩ | exact ⟨qpc _, hp, hq⟩
theorem qps {s : Al} (h : Rng ws) (hn : inR s.n) (hw : inR s.word) (hp : inR s.p.to) (hq : inR s.q.to) : Rng (alS c s ws bs).2.1 ∧ (Mx.al (alS c s ws bs).1).rg ∧ (alS c s ws bs).2.1.length = ws.length ∧ (alS c s ws bs).2.2.1.length = bs.length := by
 unfold alS
 by_cases h0 : s.nx = 0
 ·rw [if_pos h0]; exact ⟨h, ⟨hw, hp, hq⟩, rfl, rfl⟩
 rw [if_neg h0]
 by_cases h1 : s.nx = 1
 ·rw [if_pos h1]
  by_cases g : qnH s.n = 0
  ·rw [if_pos g]; exact ⟨h, ⟨hw, hp, hq⟩, rfl, rfl⟩
  ·rw [if_neg g]; exact ⟨h, ⟨hw, hp, hq⟩, rfl, rfl⟩
 rw [if_neg h1]
 by_cases h2 : s.nx = 2
 ·rw [if_pos h2]
  by_cases g : qi3 ws 2 s.seen = true
  ·rw [if_pos g]; exact ⟨qlM h _ (qo8 _), ⟨hw, hp, hq⟩, qiT _ _ _, rfl⟩
  ·rw [if_neg g]; exact ⟨h, ⟨hw, hp, hq⟩, rfl, rfl⟩
 rw [if_neg h2]
 by_cases h3 : s.nx = 3
 ·rw [if_pos h3]
  exact ⟨(qpp h hw hp hq).1, (qpp h hw hp hq).2.1, (qpp h hw hp hq).2.2, rfl⟩
 rw [if_neg h3]
 by_cases h4 : s.nx = 4
 ·rw [if_pos h4]
  by_cases g : qiR ws 0 < 0 ∨ w64 (c.A - qnH s.n) < qiR ws 0
  ·rw [if_pos g]; exact ⟨h, ⟨hw, hp, qpa⟩, rfl, rfl⟩
  ·rw [if_neg g]; exact ⟨h, ⟨hw, hp, hq⟩, rfl, rfl⟩
 rw [if_neg h4]
 by_cases h5 : s.nx = 5
 ·rw [if_pos h5]
  by_cases g : qi3 ws 0 s.f = true
  ·rw [if_pos g]; exact ⟨qlM h _ (qo8 _), ⟨hw, hp, hq⟩, qiT _ _ _, rfl⟩
  ·rw [if_neg g]; exact ⟨h, ⟨hw, hp, hq⟩, rfl, rfl⟩
 rw [if_neg h5]
 by_cases h6 : s.nx = 6
 ·rw [if_pos h6]
  exact ⟨(qpq h hw hp hq).1, (qpq h hw hp hq).2.1, (qpq h hw hp hq).2.2, rfl⟩
 rw [if_neg h6]
 by_cases h7 : s.nx = 7
 ·rw [if_pos h7]
  by_cases g : w64 (s.at_ + 1) = qnH s.n
  ·rw [if_pos g]; exact ⟨h, ⟨hw, hp, hq⟩, rfl, qiT _ _ _⟩
  ·rw [if_neg g]; exact ⟨h, ⟨hw, hp, hq⟩, rfl, qiT _ _ _⟩
 rw [if_neg h7]
 by_cases h8 : s.nx = 8
 ·rw [if_pos h8]; exact ⟨qlM h _ hn, ⟨hw, hp, hq⟩, qiT _ _ _, rfl⟩
 rw [if_neg h8]
 by_cases h9 : s.nx = 9
 ·rw [if_pos h9]; exact ⟨h, qpr hw hp hq, rfl, rfl⟩
 rw [if_neg h9]
 by_cases h10 : s.nx = 10
 ·rw [if_pos h10]
  by_cases g : s.kept = 0
  ·rw [if_pos g]; exact ⟨qlM h _ hw, ⟨hw, hp, hq⟩, qiT _ _ _, rfl⟩
  ·rw [if_neg g]; exact ⟨h, ⟨hw, hp, hq⟩, rfl, rfl⟩
 rw [if_neg h10]
 by_cases h11 : s.nx = 11
 ·rw [if_pos h11]; exact ⟨h, ⟨hw, hp, hq⟩, rfl, rfl⟩
 rw [if_neg h11]
 by_cases g : qi3 ws 2 s.seen = true
 ·rw [if_pos g]; exact ⟨qlM h _ (qo8 _), ⟨hw, hp, hq⟩, qiT _ _ _, rfl⟩
 ·rw [if_neg g]; exact ⟨h, ⟨hw, hp, hq⟩, rfl, rfl⟩
theorem qpt {m : Mx} (h : Rng ws) (hr : m.rg) (hk : m.ok) : qph ws bs (mxS c m ws bs).1 (mxS c m ws bs).2.1 (mxS c m ws bs).2.2.1 := by
 cases m with
 | al s => exact qps h hk hr.1 hr.2.1 hr.2.2
 | fe s =>
   have := qpo (c := c) (s := s) h hr
   exact ⟨this.1, this.2.1, this.2.2, rfl⟩
 | rd s => exact ⟨h, trivial, rfl, rfl⟩
 | wr s =>
   have := qpj (c := c) (s := s) (bs := bs) h
   exact ⟨this.1, trivial, this.2.1, this.2.2⟩
 | pn s =>
   have := qpl (c := c) (s := s) h hr
   exact ⟨this.1, this.2.1, this.2.2, rfl⟩
 | no => exact ⟨h, trivial, rfl, rfl⟩
def Th.rg (t : Th) : Prop := t.m.rg ∧ t.m.ok
theorem qpu (t : Th) (r : Mx × List Int × List Int × Option (Int × Int)) : (thW t r).1.m = r.1 ∧ (thW t r).2.1 = r.2.1 ∧ (thW t r).2.2.1 = r.2.2.1 := by
 unfold thW
 split <;> exact ⟨rfl, rfl, rfl⟩
theorem qpv {t : Th} (h : Rng ws) (hr : t.rg) : Rng (thS c t ws bs).2.1 ∧ (thS c t ws bs).1.rg ∧ (thS c t ws bs).2.1.length = ws.length ∧ (thS c t ws bs).2.2.1.length = bs.length := by
 unfold thS
 split
 ·exact ⟨h, hr, rfl, rfl⟩
 ·split
  ·exact ⟨h, hr, rfl, rfl⟩
  split
  ·exact ⟨qlM h _ (qo8 _), qpi _, qiT _ _ _, rfl⟩
  split
  ·have hw := qpu t (mxS c t.m ws bs)
   have hk := qpt (c := c) (bs := bs) h hr.1 hr.2
   rw [hw.2.1, hw.2.2]
   exact ⟨hk.1, by unfold Th.rg; rw [hw.1]; exact ⟨hk.2.1, qoF hr.2⟩, hk.2.2.1, hk.2.2.2⟩
  ·exact ⟨qlM h _ qpa, hr, qiT _ _ _, rfl⟩
end Go.Proofs.YtnfcohmbcgfhbaaGreat

/- What a thread holds, and whether it is done: by both. -/
namespace Go.Proofs.YtnfcohmbcgfhbaaGreat
open Go Go.Ir

def mxH : Mx → Option (Int × Int)
 | .al s => if s.cl then some (s.f, qnH s.n) else none
 | _ => none
def thH (t : Th) : Option (Int × Int) := if t.nx = 2 then mxH t.m else none
def qpw : Option (Int × Int) → Value
 | some p => .tuple #[I p.1, I p.2, .bool true]
 | none => .tuple #[I 0, I 0, .bool false]

section
variable {H : qab} {b ob : Nat} {c : Cfg} {t : Th} {cb : CB} {ws bs : List Int} {own : List Nat}
theorem qpx (H : qab) : qfV En 0 Id.zaa [.pointer none] H = some (qpw none, H) := callR_iff.2 ⟨60, by kernel_rfl⟩
theorem qpy {s : Al} {k : Nat} (h : AlP H own c s k) : qfV En 0 Id.zaa [qkb k] H = some (qpw (mxH (.al s)), H) := by
 obtain ⟨tt, gv, hr, _⟩ := h.row
 have l15 : qav H none ⟨k, 0 + 15, none⟩ = some (.bool s.cl) := qin hr rfl
 have l11 : qav H none ⟨k, 0 + 11, none⟩ = some (I s.f) := qin hr rfl
 have l6 : qav H none ⟨k, 0 + 6, none⟩ = some (I (qnH s.n)) := qin hr rfl
 rcases Bool.eq_false_or_eq_true s.cl with h | h
 ·rw [h] at l15
  have e1 : mxH (.al s) = some (s.f, qnH s.n) := if_pos h
  rw [e1]
  refine qgx rfl Fn.zaa rfl rfl ?_
  repeat' first | refine .A ?_ | refine .B ?_ | refine .D ?_ | refine .F ?_ | refine .J ?_ | refine .L l15 ?_ | refine .L l11 ?_ | refine .L l6 ?_ | refine .Y ?_ | fail
  rfl
 ·rw [h] at l15
  have e1 : mxH (.al s) = none := if_neg (by rw [h]; decide)
  rw [e1]
  refine qgx rfl Fn.zaa rfl rfl ?_
  repeat' first | refine .A ?_ | refine .B ?_ | refine .C ?_ | refine .J ?_ | refine .L l15 ?_ | refine .F ?_ | refine .Y ?_ | fail
  rfl
theorem qpz {m : Mx} {k : Nat} (h : MxP H own c k m) : qfV En 0 Id.zaa [mxA k m] H = some (qpw (mxH m), H) := by
 cases m with
 | al s => exact qpy h
 | _ => exact qpx H
theorem qpA (hP : ThP H own ob cb c t b) : qfV En 0 Id.zdI [qkb b] H = some (qpw (thH t), H) := by
 obtain ⟨ov, ev, mv, av, hr, _, _, hwk⟩ := hP.row
 have l5 : qav H none ⟨b, 0 + 5, none⟩ = some (I t.nx) := qin hr rfl
 have l8 : qav H none ⟨b, 0 + 8, none⟩ = some av := qin hr rfl
 unfold thH
 by_cases h2 : t.nx = 2
 ·rw [if_pos h2]
  obtain ⟨k, mo, rfl, rfl, _, _, hM⟩ := hwk h2
  have hh := qpz hM
  generalize mxA k t.m = pv at l8 hh
  generalize mxH t.m = o at hh
  cases o with
  | none =>
    simp only [qpw] at hh
    refine qgx rfl Fn.zdI rfl rfl ?_
    repeat' first | refine .A ?_ | refine .B ?_ | refine .D ?_ | refine .F ?_ | refine .J ?_ | refine .f6 ?_ | refine .L l5 ?_ | refine .L l8 ?_ | refine .P hh ?_ | refine .Y ?_ | fail
    rfl
  | some p =>
    simp only [qpw] at hh
    refine qgx rfl Fn.zdI rfl rfl ?_
    repeat' first | refine .A ?_ | refine .B ?_ | refine .D ?_ | refine .F ?_ | refine .J ?_ | refine .f6 ?_ | refine .L l5 ?_ | refine .L l8 ?_ | refine .P hh ?_ | refine .Y ?_ | fail
    rfl
 ·rw [if_neg h2]
  refine qgx rfl Fn.zdI rfl rfl ?_
  repeat' first | refine .A ?_ | refine .B ?_ | refine .C ?_ | refine .J ?_ | refine .t6 ?_ | refine .L l5 ?_ | refine .F ?_ | refine .Y ?_ | fail
  rfl
theorem qpB (hP : ThP H own ob cb c t b) : qfV En 0 Id.zdH [qkb b] H = some (.bool t.ops.isEmpty, H) := by
 obtain ⟨ov, ev, mv, av, hr, hops, _, _⟩ := hP.row
 obtain ⟨a, k, hov⟩ := hops.len
 cases ho : t.ops with
 | nil => rw [ho] at hov; exact qoR hr hov
 | cons o r => rw [ho] at hov; exact qoS hr hov

theorem qpC (hP : ThR H own ob cb c t b) : qfV En 0 Id.zdu [qkb b] H = some (.bool t.ops.isEmpty, H) := by
 obtain ⟨L, at_, ov, ev, xv, hr, hops, hdr, hal, _⟩ := hP.row
 obtain ⟨a, k, hov⟩ := hops.len
 have hd := qo2 hr hov
 have e : t.ops.isEmpty = decide (at_ = L.length) := by
  rw [hdr]
  by_cases h : at_ = L.length
  ·rw [decide_eq_true h, h, List.drop_length]; rfl
  ·rw [decide_eq_false h]
   cases hl : L.drop at_ with
   | nil => have := List.drop_eq_nil_iff.1 hl; omega
   | cons _ _ => rfl
 rw [e]
 exact hd
theorem qpD {s : Al} {k : Nat} (h : AlR H own c s k) (hC : IsR H cb ws bs) : qfV En 0 Id.zcH [qkb k] H = some (qpw (mxH (.al s)), H) := by
 obtain ⟨pv, gv, hr, _⟩ := h.row
 have l14 : qav H none ⟨k, 0 + 14, none⟩ = some (.bool s.cl) := qin hr rfl
 have l10 : qav H none ⟨k, 0 + 10, none⟩ = some (I s.f) := qin hr rfl
 have l3 : qav H none ⟨k, 0 + 3, none⟩ = some (I s.n) := qin hr rfl
 have hS := qn3 (DidR.of hr hC)
 rcases Bool.eq_false_or_eq_true s.cl with h | h
 ·rw [h] at l14
  have e1 : mxH (.al s) = some (s.f, qnH s.n) := if_pos h
  rw [e1]
  refine qgx rfl Fn.zcH rfl rfl ?_
  repeat' first | refine .A ?_ | refine .B ?_ | refine .D ?_ | refine .F ?_ | refine .J ?_ | refine .L l14 ?_ | refine .P hS ?_ | refine .X l10 (qis l10) (qkd _) ?_ | refine .Y ?_ | fail
  rfl
 ·rw [h] at l14
  have e1 : mxH (.al s) = none := if_neg (by rw [h]; decide)
  rw [e1]
  refine qgx rfl Fn.zcH rfl rfl ?_
  repeat' first | refine .A ?_ | refine .B ?_ | refine .C ?_ | refine .J ?_ | refine .L l14 ?_ | refine .F ?_ | refine .Y ?_ | fail
  rfl
theorem qpE (hP : ThR H own ob cb c t b) (hC : IsR H cb ws bs) : qfV En 0 Id.zdv [qkb b] H = some (qpw (thH t), H) := by
 obtain ⟨L, at_, ov, ev, xv, hr, _, _, _, _, _, _, hwk⟩ := hP.row
 have l6 : qav H none ⟨b, 0 + 6, none⟩ = some (I (t.nx + 1)) := qin hr rfl
 have l8 : qav H none ⟨b, 0 + 8, none⟩ = some xv := qin hr rfl
 have hn := hP.nx
 unfold thH
 by_cases h2 : t.nx = 2
 ·rw [if_pos h2]
  obtain ⟨x, k, mo, d, rfl, _, _, _, _, hM⟩ := hwk h2
  have hd := hM.d
  have qac := hM.row
  have hmy := hM.my
  generalize t.m = m at hd qac hmy ⊢
  have l0 : qav H none ⟨x, 0 + 0, none⟩ = some (I d) := by
   cases m <;> exact qin qac rfl
  have no : (¬ d = 0) → mxH m = none → qfV En 0 Id.zdv [qkb b] H = some (qpw (mxH m), H) := fun hd0 hm0 => by
   rw [hm0]
   refine qgx rfl Fn.zdv rfl rfl ?_
   repeat' first | refine .A ?_ | refine .B ?_ | refine .C ?_ | refine .D ?_ | refine .F ?_ | refine .J ?_ | refine .t6 ?_ | refine .f6 ?_ | refine .L l6 ?_ | refine .L l8 ?_ | refine .L l0 ?_ | refine .Y ?_ | fail
   rfl
  cases m with
  | al s =>
    have hd : d = 0 := hd
    have l1 : qav H none ⟨x, 0 + 1, none⟩ = some (qkb k) := qin qac rfl
    have hh := qpD hmy hC
    generalize mxH (.al s) = o at hh
    cases o with
    | none =>
      simp only [qpw] at hh
      refine qgx rfl Fn.zdv rfl rfl ?_
      repeat' first | refine .A ?_ | refine .B ?_ | refine .D ?_ | refine .F ?_ | refine .J ?_ | refine .f6 ?_ | refine .L l6 ?_ | refine .L l8 ?_ | refine .L l0 ?_ | refine .L l1 ?_ | refine .P hh ?_ | refine .Y ?_ | fail
      rfl
    | some p =>
      simp only [qpw] at hh
      refine qgx rfl Fn.zdv rfl rfl ?_
      repeat' first | refine .A ?_ | refine .B ?_ | refine .D ?_ | refine .F ?_ | refine .J ?_ | refine .f6 ?_ | refine .L l6 ?_ | refine .L l8 ?_ | refine .L l0 ?_ | refine .L l1 ?_ | refine .P hh ?_ | refine .Y ?_ | fail
      rfl
  | fe s => exact no (by rw [show d = 1 from hd]; decide) rfl
  | rd s => exact no (by rw [show d = 2 from hd]; decide) rfl
  | wr s => exact no (by rw [show d = 3 from hd]; decide) rfl
  | pn s => exact no (by have hd : d = 4 ∨ d = 5 := hd; omega) rfl
  | no => exact no (by have hd : d < 0 ∨ 5 < d := hd; omega) rfl
 ·rw [if_neg h2]
  refine qgx rfl Fn.zdv rfl rfl ?_
  repeat' first | refine .A ?_ | refine .B ?_ | refine .C ?_ | refine .J ?_ | refine .t6 ?_ | refine .L l6 ?_ | refine .F ?_ | refine .Y ?_ | fail
  rfl
end
end Go.Proofs.YtnfcohmbcgfhbaaGreat

/- Events held against each other; whether a thread is busy. -/
namespace Go.Proofs.YtnfcohmbcgfhbaaGreat
open Go Go.Ir

structure Ev where
 t : Int
 b : Bool
 d : Int
 h : Int
 f : Int
 n : Int
 cd : Int
 nn : Int
def Ev.cs (e : Ev) : List Value := [I e.t, .bool e.b, I e.d, I e.h, I e.f, I e.n, I e.cd, I e.nn]
def ecs (l : List Ev) : List (List Value) := l.map Ev.cs
theorem qpF (l : List Ev) : (ecs l).length = l.length := by simp [ecs]
theorem qpG {l : List Ev} {i : Nat} {e : Ev} (h : l[i]? = some e) : (ecs l)[i]? = some e.cs := by simp [ecs, h]
theorem qpH (c : Cfg) (t : Th) (ws bs : List Int) : ∃ l : List Ev, (thS c t ws bs).2.2.2 = ecs l ∧ l.length ≤ 1 := by
 unfold thS
 split
 ·exact ⟨[], rfl, Nat.zero_le _⟩
 ·rename_i o r _
  split
  ·exact ⟨[⟨t.num, false, o.d, o.h, o.f, o.n, 0, 0⟩], rfl, Nat.le_refl _⟩
  split
  ·exact ⟨[], rfl, Nat.zero_le _⟩
  split
  ·unfold thW
   split <;> exact ⟨[], rfl, Nat.zero_le _⟩
  ·exact ⟨[⟨t.num, true, 0, 0, 0, 0, t.cd, t.nn⟩], rfl, Nat.le_refl _⟩
theorem qpI {h : qab} {v : Value} {l : List Ev} (hv : Sl h 8 v (ecs l)) (h0 : l ≠ []) :
  ∃ ad cap, v = .slice (some ad) l.length cap ∧ ∀ (i : Nat) (x : Ev), l[i]? = some x → qav h (some 8) ⟨ad.block, ad.off + i * 8, none⟩ = some (.agg x.cs.toArray) := by
 obtain ⟨ad, cap, h1, h2⟩ := hv.row (show ecs l ≠ [] from fun e => h0 (List.map_eq_nil_iff.1 e))
 rw [qpF] at h1
 exact ⟨ad, cap, h1, fun i x hi => (h2 i _ (qpG hi)).2⟩

section
variable {h H : qab} {b ob : Nat} {c : Cfg} {t : Th} {cb : CB} {ws bs : List Int} {own : List Nat}
theorem qpJ (lo : Nat) {v w : Value} {l : List Ev} (hv : Sl h 8 v (ecs l)) (hw : Sl h 8 w (ecs l)) (hl : l.length ≤ 100000) : qfV En lo Id.zdp [v, w] h = some (.bool true, h) := by
 refine Exists.elim hv.len fun base hq => Exists.elim hq fun cap hve => ?_
 refine Exists.elim hw.len fun bw hq => Exists.elim hq fun cw hwe => ?_
 rw [qpF] at hve hwe
 subst hve hwe
 refine qgy rfl Fn.zdp rfl rfl ?_
 repeat' first | refine .A ?_ | refine .B ?_ | refine .D ?_ | refine .F ?_ | refine .G ?_ | refine .f6 ?_ | refine .Y ?_ | fail
 refine .loop (fun n f H => H = h ∧ ∃ (i : Nat), n + i = l.length ∧ f = [(0, .slice base l.length cap), (1, .slice bw l.length cw), (5, N i)]) (n := l.length) ⟨rfl, 0, rfl, rfl⟩ ?_
 rintro n f H ⟨rfl, i, hn, rfl⟩ next
 by_cases hi : i < l.length
 ·have hgi : l[i]? = some l[i] := List.getElem?_eq_getElem hi
  have h0 : l ≠ [] := fun e => by rw [e] at hi; simp at hi
  generalize l[i] = c at hgi
  refine Exists.elim (qpI hv h0) fun a hq => Exists.elim hq fun cap' hq => ?_
  have hva := hq.1
  injection hva with e1 e2 e3
  subst e1
  have IA := hq.2 i c hgi
  refine Exists.elim (qpI hw h0) fun b hq => Exists.elim hq fun cap2 hq => ?_
  have hvb := hq.1
  injection hvb with e4 e5 e6
  subst e4
  have IB := hq.2 i c hgi
  repeat' first | refine .A ?_ | refine .B ?_ | refine .C ?_ | refine .D ?_ | refine .F ?_ | refine .G ?_ | refine .H ?_ | refine .J ?_ | refine .t1 ?_ | refine .n2 ?_ | refine .L IA ?_ | refine .L IB ?_ | refine .R hi ?_ | refine .eqc rfl rfl rfl rfl (fun hc => ?_) (fun hc => ?_) | refine .Y ?_ | fail
  ·simp at hc
  ·exact next (n - 1) _ _ (by omega) ⟨rfl, i + 1, by omega, rfl⟩
 ·repeat' first | refine .A ?_ | refine .B ?_ | refine .D ?_ | refine .I ?_ | refine .J ?_ | refine .f1 ?_ | refine .F ?_ | refine .Y ?_ | fail
  rfl
theorem qpK (hP : ThP H own ob cb c t b) : qfV En 0 Id.zdG [qkb b] H = some (.bool (decide (t.nx ≠ 0)), H) := by
 obtain ⟨ov, ev, mv, av, hr, _⟩ := hP.row
 have l5 : qav H none ⟨b, 0 + 5, none⟩ = some (I t.nx) := qin hr rfl
 refine qgx rfl Fn.zdG rfl rfl ?_
 by_cases h : t.nx = 0
 ·rw [decide_eq_false (by omega)]
  repeat' first | refine .A ?_ | refine .B ?_ | refine .J ?_ | refine .f6 ?_ | refine .L l5 ?_ | refine .F ?_ | refine .Y ?_ | fail
  rfl
 ·rw [decide_eq_true h]
  repeat' first | refine .A ?_ | refine .B ?_ | refine .J ?_ | refine .t6 ?_ | refine .L l5 ?_ | refine .F ?_ | refine .Y ?_ | fail
  rfl
theorem qpL (hP : ThR H own ob cb c t b) : qfV En 0 Id.zdt [qkb b] H = some (.bool (decide (t.nx ≠ 0)), H) := by
 obtain ⟨L, at_, ov, ev, xv, hr, _⟩ := hP.row
 have l6 : qav H none ⟨b, 0 + 6, none⟩ = some (I (t.nx + 1)) := qin hr rfl
 have hn := hP.nx
 refine qgx rfl Fn.zdt rfl rfl ?_
 by_cases h : t.nx = 0
 ·rw [decide_eq_false (by omega)]
  repeat' first | refine .A ?_ | refine .B ?_ | refine .J ?_ | refine .f3 ?_ | refine .L l6 ?_ | refine .F ?_ | refine .Y ?_ | fail
  rfl
 ·rw [decide_eq_true h]
  repeat' first | refine .A ?_ | refine .B ?_ | refine .J ?_ | refine .t3 ?_ | refine .L l6 ?_ | refine .F ?_ | refine .Y ?_ | fail
  rfl
end
end Go.Proofs.YtnfcohmbcgfhbaaGreat

/- Threads made: by both. -/
namespace Go.Proofs.YtnfcohmbcgfhbaaGreat
open Go Go.Ir

theorem qpM (lo : Nat) {h : qab} {v : Value} {l : List Op4} (hlo : lo ≤ h.length) (hv : Sl h 4 v (ocs l)) (ht : qiq v l.length) (hb : l.length * 32 ≤ 2 ^ 47) :
  ∃ v' H', qfV En lo Id.zdx [v] h = some (v', H') ∧ Ext h H' ∧ (∀ ob, (l ≠ [] → ob = h.length + 1) → OpsV H' v' l ob) ∧ (l ≠ [] → h.length + 1 < H'.length) := by
 rcases ht with ⟨rfl, h0⟩ | ⟨a, cap, rfl, hs, hc⟩
 ·have he : l = [] := List.length_eq_zero_iff.1 h0
  subst he
  refine ⟨.slice none 0 0, h, ?_, .refl _, fun _ _ => .inl ⟨rfl, none, 0, rfl, fun _ => rfl, (fun x hx => nomatch hx)⟩, fun h => absurd rfl h⟩
  refine qgx rfl Fn.zdx rfl rfl ?_
  repeat' first | refine .A ?_ | refine .B ?_ | refine .C ?_ | refine .J ?_ | refine .F ?_ | refine .Y ?_ | fail
  rfl
 ·have hx : Ext h (h ++ [Blk.row [] false]) := (Ext.refl h).app _
  by_cases h0 : l.length = 0
  ·have he : l = [] := List.length_eq_zero_iff.1 h0
   subst he
   have ha : qaF lo 4 32 (h ++ [Blk.row [] false]) (.slice (some ⟨h.length, 0, none⟩) 0 0) (.slice (some a) 0 cap) = some (.slice (some ⟨h.length, 0, none⟩) 0 0, h ++ [Blk.row [] false]) := by
    simp [qaF, qaC, qaD]
   refine ⟨.slice (some ⟨h.length, 0, none⟩) 0 0, h ++ [Blk.row [] false], ?_, hx, fun _ _ => .inl ⟨rfl, _, _, rfl, (fun h => nomatch h), (fun x hx => by injection hx with e; subst e; exact ⟨rfl, Nat.le_refl _⟩)⟩, fun h => absurd rfl h⟩
   refine qgx rfl Fn.zdx rfl rfl ?_
   repeat' first | refine .A ?_ | refine .B ?_ | refine .D ?_ | refine .F ?_ | refine .J ?_ | refine .U ha ?_ | refine .Y ?_ | fail
   rfl
  ·have hl0 : l ≠ [] := fun e => h0 (by rw [e]; rfl)
   have hel : (ocs l).length = l.length := qlN l
   rcases hv.2 with ⟨h1, _⟩ | ⟨a', cap', h1, h2⟩
   ·rw [h1] at hel; exact absurd hel.symm h0
   ·rw [hel] at h1 h2
    injection h1 with e1 _ e3
    injection e1 with e1
    subst e1 e3
    have hsr : qaD (h ++ [Blk.row [] false]) 4 l.length (.slice (some a) l.length cap) = some (ocs l).flatten := by
     unfold qaD
     simp only
     rw [if_neg h0]
     exact qgF hx h2
    have ha : qaF lo 4 32 (h ++ [Blk.row [] false]) (.slice (some ⟨h.length, 0, none⟩) 0 0) (.slice (some a) l.length cap) = some (.slice (some (loose (h.length + 1) 0)) l.length 4, h ++ [Blk.row [] false] ++ [Blk.row (ocs l).flatten false]) := by
     simp only [qaF, qaC, hsr]
     rw [if_pos (.inr ⟨trivial, rfl, by omega, by omega⟩), if_neg (by omega)]
     simp [qaD]
    have hfl : ((ocs l).flatten).length = l.length * 4 := by rw [qgA (qlO l), hel]
    refine ⟨.slice (some (loose (h.length + 1) 0)) l.length 4, h ++ [Blk.row [] false] ++ [Blk.row (ocs l).flatten false], ?_, hx.app _, fun ob hob => .inr ⟨0, (ocs l).flatten, by rw [hob hl0], by
     rw [hob hl0]; rw [List.getElem?_append_right (by simp)]; simp, by omega, by rw [List.drop_zero, ← hfl, List.take_length]⟩, fun _ => by simp⟩
    refine qgx rfl Fn.zdx rfl rfl ?_
    repeat' first | refine .A ?_ | refine .B ?_ | refine .D ?_ | refine .F ?_ | refine .J ?_ | refine .U ha ?_ | refine .Y ?_ | fail
    rfl

theorem qpN {c : Cfg} (hm : c.may) {num : Int} (h : ¬ 0 ≤ qjr c num) : qjr c num = -1 := by
 unfold qjr at h ⊢
 split at h
 ·unfold Cfg.may at hm; omega
 ·rename_i g; rw [if_neg g]
def th0 (num : Int) (l : List Op4) : Th := ⟨num, l, 0, 0, .no, 0, 0⟩
theorem qpO (num : Int) (l : List Op4) : (th0 num l).rg := ⟨trivial, trivial⟩
def qpP (c : Cfg) (num : Int) (l : List Op4) : List Op4 := if 0 ≤ qjr c num then l else []
def tr0 (c : Cfg) (num : Int) (ov : Value) : List Value := [I c.A, I c.S, I c.T, I num, ov, I 0, .pointer none, .nilIface, .pointer none, I 0, I 0]
def qpQ (c : Cfg) (num : Int) (ov : Value) : List Value := [I c.A, I c.S, I c.T, I num, ov, I 0, I 1, .pointer none, .pointer none, I 0, I 0]

theorem qpR {h : qab} {v : Value} {l : List Op4} {c : Cfg} {s0 : Nat} (h0 : s0 < h.length) (cb : CB) (num : Int) (hm : c.may) (hcb : cb.P < h.length ∧ cb.W < h.length ∧ cb.Y < h.length) (hv : Sl h 4 v (ocs l)) (ht : qiq v l.length) (hb : l.length * 32 ≤ 2 ^ 47) :
  ∃ H' ob, qfV En 0 Id.zdF [.agg c.cs.toArray, I num, v] h = some (qkb h.length, H') ∧ Ext h H' ∧ ThP H' [h.length] ob cb c (th0 num (qpP c num l)) h.length ∧ (ob = s0 ∨ h.length < ob) ∧ ob < H'.length := by
 have hx : Ext h (h ++ [.row (tr0 c num (.slice none 0 0)) false]) := (Ext.refl h).app _
 have hfar : ∀ ob, h.length < ob → ob ∉ qno [h.length] cb := fun ob hob hh => by
  simp only [qno, List.cons_append, List.nil_append, List.mem_cons, List.mem_nil_iff, or_false] at hh
  omega
 have hO := fun lo => qjf lo (h ++ [.row (tr0 c num (.slice none 0 0)) false]) hm
 have hN := fun lo => qjs lo (h ++ [.row (tr0 c num (.slice none 0 0)) false]) hm num
 by_cases hge : 0 ≤ qjr c num
 ·rw [show qpP c num l = l from if_pos hge]
  have hge' := hge
  generalize qjr c num = nn at hN hge'
  obtain ⟨v', H1, hC, hx1, hs1, hl1⟩ := qpM 0 (h := h ++ [.row (tr0 c num (.slice none 0 0)) false]) (Nat.zero_le _) (hv.ext hx) ht hb
  have hr : H1[h.length]? = some (.row (tr0 c num (.slice none 0 0)) false) := by
   rw [hx1.2 h.length (by rw [List.length_append, List.length_singleton]; omega)]
   exact List.getElem?_concat_length
  rw [List.length_append, List.length_singleton] at hs1 hl1
  obtain ⟨ob, q1, q2, q3⟩ : ∃ ob, (l ≠ [] → ob = h.length + 1 + 1) ∧ (ob = s0 ∨ h.length < ob) ∧ ob < H1.length := by
   by_cases hl : l = []
   ·exact ⟨s0, fun h => absurd hl h, .inl rfl, by have := hx1.1; rw [List.length_append] at this; omega⟩
   ·exact ⟨_, fun _ => rfl, .inr (by omega), hl1 hl⟩
  have hs1 := hs1 ob q1
  have hob : ob ≠ h.length := by omega
  obtain ⟨a, k, hve⟩ := hs1.len
  have hst : stN 0 H1 ⟨h.length, 0 + 4, none⟩ (qaf v') = some (H1.set h.length (.row (tr0 c num v') false)) := by subst hve; exact qip hr (Nat.zero_le _) (Nat.le_of_ble_eq_true rfl) rfl
  refine ⟨H1.set h.length (.row (tr0 c num v') false), ob, ?_, ⟨by rw [List.length_set]; exact Nat.le_trans hx.1 hx1.1, fun i hi => ?_⟩, ⟨by simp, fun _ => hge, by simp [th0], fun hl => hfar _ (by rw [q1 hl]; omega), v', .pointer none, .nilIface, .pointer none, qij (qim hr), hs1.keep (by rw [List.getElem?_set_ne (Ne.symm hob)]), fun h => by simp [th0] at h, fun h => by simp [th0] at h⟩, q2, by rw [List.length_set]; exact q3⟩
  ·subst hve
   refine qgx rfl Fn.zdF rfl rfl ?_
   repeat' first | refine .A ?_ | refine .B ?_ | refine .C ?_ | refine .J ?_ | refine .t4 ?_ | refine .t5 ?_ | refine .P (hO _) ?_ | refine .P (hN _) ?_ | refine .P hC ?_ | refine .S hst ?_ | refine .F ?_ | refine .Y ?_ | fail
   rfl
  ·rw [List.getElem?_set_ne (by omega), hx1.2 i (by rw [List.length_append]; omega), hx.2 i hi]
 ·rw [show qpP c num l = [] from if_neg hge]
  have hlt := qpN hm hge
  rw [hlt] at hN
  refine ⟨_, s0, ?_, hx, ⟨by simp, fun h => absurd rfl h, by simp [th0], fun h => absurd rfl h, .slice none 0 0, .pointer none, .nilIface, .pointer none, List.getElem?_concat_length, .inl ⟨rfl, none, 0, rfl, fun _ => rfl, (fun x hx => nomatch hx)⟩, fun h => by simp [th0] at h, fun h => by simp [th0] at h⟩, .inl rfl, by rw [List.length_append]; omega⟩
  refine qgx rfl Fn.zdF rfl rfl ?_
  repeat' first | refine .A ?_ | refine .B ?_ | refine .D ?_ | refine .F ?_ | refine .J ?_ | refine .f4 ?_ | refine .t5 ?_ | refine .P (hO _) ?_ | refine .P (hN _) ?_ | refine .Y ?_ | fail
  rfl

theorem qpS {h : qab} {v : Value} {l : List Op4} {c : Cfg} {s0 : Nat} (h0s : s0 < h.length) (cb : CB) (num : Int) (hm : c.may) (hcb : cb.P < h.length ∧ cb.W < h.length ∧ cb.Y < h.length) (hv : Sl h 4 v (ocs l)) (ht : qiq v l.length) (hb : l.length ≤ 1000) :
  ∃ H' ob, qfV En 0 Id.zdr [.agg c.cs.toArray, I num, v] h = some (qkb h.length, H') ∧ Ext h H' ∧ ThR H' [h.length] ob cb c (th0 num (qpP c num l)) h.length ∧ (ob = s0 ∨ h.length < ob) ∧ ob < H'.length := by
 have hx : Ext h (h ++ [.row (qpQ c num (.slice none 0 0)) false]) := (Ext.refl h).app _
 have hfar : ∀ ob, h.length < ob → ob ∉ qno [h.length] cb := fun ob hob hh => by
  simp only [qno, List.cons_append, List.nil_append, List.mem_cons, List.mem_nil_iff, or_false] at hh
  omega
 have hcs : Value.agg c.cs.toArray = .agg #[I c.A, I c.S, I c.T] := rfl
 have hN := fun lo => qlv lo (h ++ [.row (qpQ c num (.slice none 0 0)) false]) hm num
 rw [hcs] at hN ⊢
 have hr : (h ++ [Blk.row (qpQ c num (.slice none 0 0)) false])[h.length]? = some (.row (qpQ c num (.slice none 0 0)) false) := List.getElem?_concat_length
 have l4 : qav (h ++ [.row (qpQ c num (.slice none 0 0)) false]) none ⟨h.length, 0 + 4, none⟩ = some (.slice none 0 0) := qin hr rfl
 by_cases hge : 0 ≤ qjr c num
 ·rw [show qpP c num l = l from if_pos hge]
  have hge' := hge
  generalize qjr c num = nn at hN hge'
  have hH : ∃ v' H1 ob, qaF 0 4 32 (h ++ [.row (qpQ c num (.slice none 0 0)) false]) (.slice none 0 0) v = some (v', H1) ∧ Ext (h ++ [.row (qpQ c num (.slice none 0 0)) false]) H1 ∧ OpsV H1 v' l ob ∧ (ob = s0 ∨ h.length < ob) ∧ (l ≠ [] → h.length < ob) ∧ ob < H1.length := by
   have hel : (ocs l).length = l.length := qlN l
   by_cases h0 : l.length = 0
   ·have he : l = [] := List.length_eq_zero_iff.1 h0
    subst he
    have hx0 : ∃ a k, v = .slice a 0 k := (hv.len).imp fun a h => h.imp fun k h => h
    obtain ⟨a, k, rfl⟩ := hx0
    exact ⟨.slice none 0 0, _, s0, by cases a <;> simp [qaF, qaC, qaD], .refl _, .inl ⟨rfl, none, 0, rfl, fun _ => rfl, (fun x hx => nomatch hx)⟩, .inl rfl, fun h => absurd rfl h, by rw [List.length_append]; omega⟩
   ·rcases hv.2 with ⟨h1, _⟩ | ⟨a', cap', h1, h2⟩
    ·rw [h1] at hel; exact absurd hel.symm h0
    ·rw [hel] at h1 h2
     subst h1
     have hsr : qaD (h ++ [Blk.row (qpQ c num (.slice none 0 0)) false]) 4 l.length (.slice (some a') l.length cap') = some (ocs l).flatten := by
      unfold qaD
      simp only
      rw [if_neg h0]
      exact qgF hx h2
     have hfl : ((ocs l).flatten).length = l.length * 4 := by rw [qgA (qlO l), hel]
     refine ⟨.slice (some (loose (h.length + 1) 0)) l.length 4, h ++ [Blk.row (qpQ c num (.slice none 0 0)) false] ++ [Blk.row (ocs l).flatten false], h.length + 1, ?_, (Ext.refl _).app _, .inr ⟨0, (ocs l).flatten, rfl, by
      rw [List.getElem?_append_right (by simp)]; simp, by omega, by rw [List.drop_zero, ← hfl, List.take_length]⟩, .inr (by omega), fun _ => by omega, by simp⟩
     simp only [qaF, qaC, hsr]
     rw [if_pos (.inl ⟨by omega, by omega⟩), if_neg h0]
     simp
  obtain ⟨v', H1, ob, hA, hx1, hs1, ho1, ho2, hl1⟩ := hH
  have hob : ob ≠ h.length := by omega
  have hr1 := (hx1.2 h.length (by rw [List.length_append, List.length_singleton]; omega)).trans hr
  obtain ⟨a, k, hve⟩ := hs1.len
  have hst : stN 0 H1 ⟨h.length, 0 + 4, none⟩ (qaf v') = some (H1.set h.length (.row (qpQ c num v') false)) := by subst hve; exact qip hr1 (Nat.zero_le _) (Nat.le_of_ble_eq_true rfl) rfl
  refine ⟨H1.set h.length (.row (qpQ c num v') false), ob, ?_, ⟨by rw [List.length_set]; exact Nat.le_trans hx.1 hx1.1, fun i hi => ?_⟩, ⟨by simp, fun _ => hge, by simp [th0], l, 0, v', .pointer none, .pointer none, qij (qim hr1), hs1.keep (by rw [List.getElem?_set_ne (Ne.symm hob)]), rfl, Nat.zero_le _, hb, fun hl => hfar _ (ho2 hl), fun h => by simp [th0] at h, fun h => by simp [th0] at h⟩, ho1, by rw [List.length_set]; exact hl1⟩
  ·subst hve
   refine qgx rfl Fn.zdr rfl rfl ?_
   repeat' first | refine .A ?_ | refine .B ?_ | refine .C ?_ | refine .J ?_ | refine .t4 ?_ | refine .L l4 ?_ | refine .P (hN _) ?_ | refine .U hA ?_ | refine .S hst ?_ | refine .F ?_ | refine .Y ?_ | fail
   rfl
  ·rw [List.getElem?_set_ne (by omega), hx1.2 i (by rw [List.length_append]; omega), hx.2 i hi]
 ·rw [show qpP c num l = [] from if_neg hge]
  have hlt := qpN hm hge
  rw [hlt] at hN
  refine ⟨_, s0, ?_, hx, ⟨by simp, fun h => absurd rfl h, by simp [th0], [], 0, .slice none 0 0, .pointer none, .pointer none, List.getElem?_concat_length, .inl ⟨rfl, none, 0, rfl, fun _ => rfl, (fun x hx => nomatch hx)⟩, rfl, Nat.le_refl _, by simp, fun h => absurd rfl h, fun h => by simp [th0] at h, fun h => by simp [th0] at h⟩, .inl rfl, by rw [List.length_append]; omega⟩
  refine qgx rfl Fn.zdr rfl rfl ?_
  repeat' first | refine .A ?_ | refine .B ?_ | refine .D ?_ | refine .F ?_ | refine .J ?_ | refine .f4 ?_ | refine .P (hN _) ?_ | refine .Y ?_ | fail
  rfl
end Go.Proofs.YtnfcohmbcgfhbaaGreat

/- The document's cells as they are at first. -/
namespace Go.Proofs.YtnfcohmbcgfhbaaGreat
open Go Go.Ir

theorem qpT {c : Cfg} (hm : c.may) {s : Int} (h0 : 0 ≤ s) (hs : s < c.S) {j : Int} (hj : 0 ≤ j ∧ j ≤ 2) {n : Nat} (hn : qiN c ≤ n) : ∃ k : Nat, qjj c s j = (k : Nat) ∧ k < n := by
 unfold Cfg.may at hm
 unfold qiN at hn
 unfold qjj
 rw [if_pos ⟨h0, hs⟩]
 exact ⟨(4 + c.T + 3 * s + j).toNat, by omega, by omega⟩

def qpU (h : qab) (nw nb : Nat) : qab := h ++ [.row (qiB (List.replicate nw 0)) false] ++ [.row (qiB (List.replicate nb 0)) false] ++ [.row (qiQ ⟨h.length + 2, h.length, h.length + 1⟩ nw nb 0) false]
theorem qpV (h : qab) (nw nb : Nat) : IsR (qpU h nw nb) (qja h) (List.replicate nw 0) (List.replicate nb 0) ∧ Ext h (qpU h nw nb) := by
 refine ⟨⟨⟨0, ?_⟩, ?_, ?_, ?_, ?_, ?_, ?_⟩, ?_⟩
 ·unfold qpU qja
  simp only [List.length_replicate]
  rw [List.getElem?_append_right (by simp)]
  simp
 ·unfold qpU qja
  rw [List.getElem?_append_left (by simp), List.getElem?_append_left (by simp), List.getElem?_append_right (by simp)]
  simp
 ·unfold qpU qja
  rw [List.getElem?_append_left (by simp), List.getElem?_append_right (by simp)]
  simp
 ·simp [qja]
 ·simp [qja]
 ·simp [qja]
 ·intro b hb
  rw [List.eq_of_mem_replicate hb]; omega
 ·exact (((Ext.refl h).app _).app _).app _
theorem qpW (lo : Nat) (h : qab) {nw nb : Nat} (h1 : 1 ≤ nw) (h2 : nw ≤ 4096) (h3 : nb ≤ 4096) : qfV En lo Id.zcp [N nw, N nb] h = some (qiX (qja h), qpU h nw nb) := by
 refine qgx rfl Fn.zcp rfl rfl ?_
 repeat' first | refine .A ?_ | refine .B ?_ | refine .D ?_ | refine .F ?_ | refine .J ?_ | refine .f1 ?_ | refine .f3 ?_ | refine .mks rfl rfl rfl ⟨Nat.le_refl _, by omega, by decide⟩ ?_ | refine .Y ?_ | fail
 unfold qpU qja
 rw [qjb, qjb]
 simp only [List.length_append, List.length_singleton]
 rfl

def upW (c : Cfg) (m : Int) (k : Nat) : Int := if 4 + c.T ≤ k ∧ ((k : Int) - 4 - c.T) % 3 = 2 ∧ ((k : Int) - 4 - c.T) / 3 < m ∧ ((k : Int) - 4 - c.T) / 3 + 1 < c.S then ((k : Int) - 4 - c.T) / 3 + 2 else 0
def upL (c : Cfg) (m : Int) : List Int := (List.range (qiN c).toNat).map (upW c m)
theorem qpX (c : Cfg) (m : Int) : (upL c m).length = (qiN c).toNat := by simp [upL]
theorem qpY (c : Cfg) (m : Int) {k : Nat} (h : k < (qiN c).toNat) : (upL c m)[k]? = some (upW c m k) := by simp [upL, h]
theorem qpZ (c : Cfg) : upL c 0 = List.replicate (qiN c).toNat 0 := by
 refine List.ext_getElem? fun k => ?_
 by_cases hk : k < (qiN c).toNat
 ·rw [qpY c _ hk, List.getElem?_replicate, if_pos hk]
  unfold upW
  rw [if_neg (by omega)]
 ·rw [List.getElem?_eq_none (by rw [qpX]; omega), List.getElem?_eq_none (by simp; omega)]
theorem qp0 {c : Cfg} (hm : c.may) {m : Int} (h0 : 0 ≤ m) (h1 : m + 1 < c.S) {k : Nat} (hk : qjj c m 2 = k) : (upL c m).set k (m + 2) = upL c (m + 1) := by
 unfold Cfg.may at hm
 unfold qjj at hk
 rw [if_pos ⟨h0, by omega⟩] at hk
 refine List.ext_getElem? fun j => ?_
 rw [List.getElem?_set]
 by_cases hj : j < (qiN c).toNat
 ·rw [qpY c _ hj, qpY c _ hj]
  by_cases he : k = j
  ·rw [if_pos he, if_pos (by rw [qpX]; omega)]
   congr 1
   unfold upW
   have e1 : ((j : Int) - 4 - c.T) = 3 * m + 2 := by omega
   rw [e1, if_pos (by omega)]
   omega
  ·rw [if_neg he]
   congr 1
   unfold upW
   split <;> split <;> omega
 ·rw [List.getElem?_eq_none (by rw [qpX]; omega), List.getElem?_eq_none (by rw [qpX]; omega)]
  split
  ·rw [if_neg (by rw [qpX]; omega)]
  ·rfl
theorem qp1 {c : Cfg} {m : Int} (h1 : ¬ m + 1 < c.S) : upL c (m + 1) = upL c m := by
 refine List.ext_getElem? fun j => ?_
 by_cases hj : j < (qiN c).toNat
 ·rw [qpY c _ hj, qpY c _ hj]
  congr 1
  unfold upW
  split <;> split <;> omega
 ·rw [List.getElem?_eq_none (by rw [qpX]; omega), List.getElem?_eq_none (by rw [qpX]; omega)]
theorem qp2 {c : Cfg} (hm : c.may) : upL c c.S = qbd c 0 := by
 refine List.ext_getElem? fun j => ?_
 by_cases hj : j < (qiN c).toNat
 ·rw [qpY c _ hj, qjy c _ hj]
  congr 1
  unfold upW qju
  split <;> split <;> omega
 ·rw [List.getElem?_eq_none (by rw [qpX]; omega), List.getElem?_eq_none (by rw [qjw]; omega)]

theorem qp3 {lo : Nat} {h : qab} {l : List Int} {k : Nat} (hlo : lo ≤ h.length) (hk : k < l.length) (n : Int) :
  stN lo (h ++ [.row (qiB l) false]) ⟨h.length, 0 + k * 1, none⟩ (qaf (I n)) = some (h ++ [.row (qiB (l.set k n)) false]) := by
 rw [Nat.zero_add, Nat.mul_one]
 exact (qip (w := qiB (l.set k n)) List.getElem?_concat_length hlo (by show k + 1 ≤ _; simp [qiB]; omega) (qi0 hk)).trans (by rw [qk6])

set_option maxHeartbeats 1600000 in
theorem qp4 (lo : Nat) (h : qab) {c : Cfg} (hm : c.may) (hlo : lo ≤ h.length) {nw : Nat} (hnw : qiN c = nw) :
  qfV En lo Id.zcx [.agg c.cs.toArray] h = some (.slice (some ⟨h.length, 0, none⟩) nw nw, h ++ [.row (qiB (qjv c)) false]) := by
 refine qgx rfl Fn.zcx rfl rfl ?_
 have hW := fun lo h => qiO lo h c
 rw [if_pos hm, hnw] at hW
 have hm' := hm
 unfold Cfg.may at hm'
 have hw' : (nw : Int) = 4 + c.T + 3 * c.S := hnw.symm.trans rfl
 have hul : ∀ m, (upL c m).length = nw := fun m => by rw [qpX, hnw]; rfl
 have hcs : Value.agg c.cs.toArray = .agg #[I c.A, I c.S, I c.T] := rfl
 have hA := fun lo H (i : Nat) => qlw lo H hm (i : Nat) (j := 2) (by omega)
 rw [hcs] at hW hA ⊢
 repeat' first | refine .A ?_ | refine .B ?_ | refine .G ?_ | refine .P (hW _ _) ?_ | refine .mks rfl rfl rfl ⟨Nat.le_refl _, by omega, by decide⟩ ?_ | refine .F ?_ | refine .Y ?_ | fail
 rw [qjb, show (List.replicate nw (0 : Int)) = upL c 0 by rw [qpZ, hnw]; rfl]
 refine .loop (fun n f H => ∃ i : Nat, (n : Int) + i = c.S ∧ f = [(1, .agg #[I c.A, I c.S, I c.T]), (3, .slice (some ⟨h.length, 0, none⟩) nw nw), (4, N i)] ∧ H = h ++ [.row (qiB (upL c i)) false]) (n := c.S.toNat)
  ⟨0, by omega, rfl, rfl⟩ ?_
 rintro n f H ⟨i, hn, rfl, rfl⟩ next
 by_cases hi : (i : Int) < c.S
 ·by_cases hi2 : (i : Int) + 1 < c.S
  ·refine Exists.elim (qpT hm (s := (i : Nat)) (by omega) hi (j := 2) (by omega) (n := nw) (by omega)) fun k hq => ?_
   have hk := hq.1
   have hb := hq.2
   clear hq
   have hA1 : ∀ lo, qfV En lo Id.zcv [.agg #[I c.A, I c.S, I c.T], I 7, N i] (h ++ [.row (qiB (upL c i)) false]) = some (N k, h ++ [.row (qiB (upL c i)) false]) := fun lo => (hA lo _ i).trans (by rw [hk])
   have hst : stN lo (h ++ [.row (qiB (upL c i)) false]) ⟨h.length, 0 + k * 1, none⟩ (qaf (N (i + 2))) = _ := qp3 (lo := lo) hlo (by rw [hul]; exact hb) ((i + 2 : Nat) : Int)
   have hstep := qp0 hm (m := (i : Nat)) (by omega) hi2 hk
   rw [show ((i + 2 : Nat) : Int) = (i : Int) + 2 from rfl, hstep] at hst
   repeat' first | refine .A ?_ | refine .B ?_ | refine .C ?_ | refine .F ?_ | refine .G ?_ | refine .H ?_ | refine .t1 ?_ | refine .n2 ?_ | refine .P (hA1 _) ?_ | refine .R hb ?_ | refine .S hst ?_ | refine .addN (b := 2) rfl rfl rfl (by omega) ?_ | fail
   exact next (n - 1) _ _ (by omega) ⟨i + 1, by omega, rfl, rfl⟩
  ·have hl := qp1 (c := c) hi2
   repeat' first | refine .A ?_ | refine .B ?_ | refine .C ?_ | refine .D ?_ | refine .F ?_ | refine .G ?_ | refine .H ?_ | refine .t1 ?_ | refine .f1 ?_ | refine .n2 ?_ | fail
   exact next (n - 1) _ _ (by omega) ⟨i + 1, by omega, rfl, by rw [← hl]; rfl⟩
 ·have hiS : (i : Int) = c.S := by omega
  rw [hiS, qp2 hm]
  have hb1 : 1 < nw := by omega
  have hst : stN lo (h ++ [.row (qiB (qbd c 0)) false]) ⟨h.length, 0 + 1 * 1, none⟩ (qaf (I 1)) = _ := qp3 (lo := lo) hlo (by rw [qjw, hnw]; exact hb1) 1
  repeat' first | refine .A ?_ | refine .B ?_ | refine .D ?_ | refine .I ?_ | refine .J ?_ | refine .C ?_ | refine .f1 ?_ | refine .R hb1 ?_ | refine .S hst ?_ | refine .F ?_ | fail
  rfl

def qp5 (h : qab) : CB := ⟨h.length + 2, h.length + 3, h.length + 1⟩
theorem qp6 (lo : Nat) (h : qab) {c : Cfg} (hm : c.may) (hlo : lo ≤ h.length) :
  ∃ H', qfV En lo Id.zcG [.agg c.cs.toArray] h = some (qiX (qp5 h), H') ∧ IsR H' (qp5 h) (qjv c) (List.replicate c.A.toNat 0) ∧ Ext h H' ∧ H'.length = h.length + 4 := by
 have hm' := hm
 unfold Cfg.may at hm'
 have hW := fun lo => qiO lo h c
 rw [if_pos hm] at hW
 refine Exists.elim (show ∃ nw : Nat, qiN c = nw ∧ 1 ≤ nw ∧ nw ≤ 4096 from ⟨(qiN c).toNat, by unfold qiN; omega, by unfold qiN; omega, by unfold qiN; omega⟩) fun nw hnw => ?_
 refine Exists.elim (show ∃ nb : Nat, c.A = nb ∧ nb ≤ 4096 from ⟨c.A.toNat, by omega, by omega⟩) fun nb hnb => ?_
 have hN : ∀ lo, qfV En lo Id.zcp [I (qiN c), I c.A] h = some (qiX (qja h), qpU h nw nb) := fun lo => by
  rw [hnw.1, hnb.1]; exact qpW lo h hnw.2.1 hnw.2.2 hnb.2
 have hnh := qpV h nw nb
 have hl : (qpU h nw nb).length = h.length + 3 := by simp [qpU]
 have hS := qp4 lo (qpU h nw nb) hm (by omega) hnw.1
 rw [hl] at hS
 have hsl : (qjv c).length = nw := by rw [qjx, hnw.1]; rfl
 refine Exists.elim hnh.1.p fun st hp => ?_
 rw [List.length_replicate, List.length_replicate] at hp
 have hp2 : (qpU h nw nb ++ [Blk.row (qiB (qjv c)) false])[h.length + 2]? = some (.row (qiQ (qja h) nw nb st) false) := by
  rw [List.getElem?_append_left (by omega)]; exact hp
 have hst : stN lo (qpU h nw nb ++ [Blk.row (qiB (qjv c)) false]) ⟨h.length + 2, 0 + 0, none⟩ (qaf (.slice (some ⟨h.length + 3, 0, none⟩) nw nw)) = some ((qpU h nw nb ++ [Blk.row (qiB (qjv c)) false]).set (h.length + 2) (.row (qiQ (qp5 h) nw nb st) false)) :=
  qip hp2 (by omega) (Nat.le_of_ble_eq_true rfl) rfl
 have hC : IsR ((qpU h nw nb ++ [Blk.row (qiB (qjv c)) false]).set (h.length + 2) (.row (qiQ (qp5 h) nw nb st) false)) (qp5 h) (qjv c) (List.replicate c.A.toNat 0) := by
  refine ⟨⟨st, ?_⟩, ?_, ?_, ?_, ?_, ?_, ?_⟩
  ·rw [hsl, List.length_replicate, hnb.1]
   exact qij (by rw [List.length_append, hl]; omega)
  ·refine qik (by simp [qp5]) ?_
   show (qpU h nw nb ++ [Blk.row (qiB (qjv c)) false])[h.length + 3]? = _
   rw [← hl]
   exact List.getElem?_concat_length
  ·refine qik (by simp [qp5]) ?_
   show (qpU h nw nb ++ [Blk.row (qiB (qjv c)) false])[h.length + 1]? = _
   rw [List.getElem?_append_left (by omega), hnb.1]
   exact hnh.1.y
  ·simp [qp5]
  ·simp [qp5]
  ·simp [qp5]
  ·intro b hb
   rw [List.eq_of_mem_replicate hb]; omega
 refine ⟨_, ?_, hC, ⟨by rw [List.length_set, List.length_append, hl]; omega, fun i hi => ?_⟩, by rw [List.length_set, List.length_append, hl]; rfl⟩
 ·refine qgx rfl Fn.zcG rfl rfl ?_
  have hcs : Value.agg c.cs.toArray = .agg #[I c.A, I c.S, I c.T] := rfl
  rw [hcs] at hW hS ⊢
  repeat' first | refine .A ?_ | refine .B ?_ | refine .C ?_ | refine .J ?_ | refine .P (hW _) ?_ | refine .P (hN _) ?_ | refine .P hS ?_ | refine .S hst ?_ | refine .F ?_ | refine .Y ?_ | fail
  rfl
 ·rw [List.getElem?_set_ne (by omega), List.getElem?_append_left (by omega)]
  exact hnh.2.2 i hi
end Go.Proofs.YtnfcohmbcgfhbaaGreat

