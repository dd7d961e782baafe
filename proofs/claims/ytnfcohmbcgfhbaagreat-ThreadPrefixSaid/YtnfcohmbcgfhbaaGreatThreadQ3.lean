/- A thread's steps keep words in their range, and rows their lengths. -/
import Derived.Test.YtnfcohmbcgfhbaaGreatThreadQ2
set_option linter.unusedVariables false
set_option linter.unusedSimpArgs false

namespace Go.Proofs.YtnfcohmbcgfhbaaGreat
open Go Go.Ir

theorem inR_w64 (n : Int) : inR (w64 n) := by unfold inR w64; rw [IntKind.wrap_i64]; omega
theorem inR_nat {n : Nat} (h : n < 2 ^ 62) : inR (n : Int) := by unfold inR; omega
theorem inR_0 : inR 0 := by unfold inR; omega
theorem inR_ch (w : Int) (F : Ent → Int × Ent) : inR (chE w F).1 := by
 unfold chE
 split
 ·exact inR_0
 ·split
  ·split
   ·split
    ·rename_i h
     exact inR_nat (Nat.lt_trans (packN_lt h) (by decide))
    ·exact inR_0
   ·exact inR_0
  ·exact inR_0
theorem inR_pack (e : Ent) : inR (packI e) := by
 unfold packI
 split
 ·rename_i h
  exact inR_nat (Nat.lt_trans (packN_lt h) (by decide))
 ·exact inR_0
theorem inR_pop (w l : Int) : inR (popR w l).1 := by
 unfold popR popO
 split
 ·exact inR_0
 ·rename_i p h
  have hh := headU_some (t := p.1) (g := p.2) h
  have := nextG_lt hh.2.1
  split
  ·split
   ·exact inR_0
   ·refine inR_nat ?_
    unfold headW
    omega
  ·exact inR_0
theorem inR_push (w s : Int) : inR (pushR w s).1 ∧ inR (pushR w s).2.1 := by
 unfold pushR pushO
 split
 ·exact ⟨inR_0, inR_0⟩
 ·rename_i p h
  have hh := headU_some (t := p.1) (g := p.2) h
  have := nextG_lt hh.2.1
  split
  ·refine ⟨inR_nat ?_, inR_nat ?_⟩
   ·unfold headW; omega
   ·omega
  ·exact ⟨inR_0, inR_0⟩

def Mx.rg : Mx → Prop
 | .al s => inR s.word ∧ inR s.p.to ∧ inR s.q.to
 | .fe s => inR s.p.to
 | .pn s => inR s.to
 | _ => True

variable {c : Cfg} {ws bs : List Int}
theorem popS_rng {s : Sk} (h : Rng ws) (ht : inR s.to) : Rng (popS c s ws).2.1 ∧ inR (popS c s ws).1.to ∧ (popS c s ws).2.1.length = ws.length := by
 unfold popS
 repeat' split
 all_goals first | exact ⟨h, ht, rfl⟩ | exact ⟨h, inR_pop _ _, rfl⟩ | exact ⟨setI_rng h _ ht, ht, setI_len _ _ _⟩
theorem pushS_rng {s : Sk} (h : Rng ws) (ht : inR s.to) : Rng (pushS c s ws).2.1 ∧ inR (pushS c s ws).1.to ∧ (pushS c s ws).2.1.length = ws.length := by
 unfold pushS
 repeat' split
 all_goals first | exact ⟨h, ht, rfl⟩ | exact ⟨setI_rng h _ (inR_push _ _).2, (inR_push _ _).1, setI_len _ _ _⟩ | exact ⟨setI_rng h _ ht, ht, setI_len _ _ _⟩

def Kept (ws bs : List Int) (m : Mx) (ws' bs' : List Int) : Prop := Rng ws' ∧ m.rg ∧ ws'.length = ws.length ∧ bs'.length = bs.length
theorem mkM_rg (o : Op4) : (mkM o).rg ∧ (mkM o).ok := by
 unfold mkM
 repeat' split
 all_goals first | exact ⟨trivial, o.hr⟩ | exact ⟨⟨inR_0, inR_0, inR_0⟩, o.nr⟩ | exact ⟨inR_0, o.hr⟩ | exact ⟨trivial, trivial⟩
theorem wrS_rng {s : Wr} (h : Rng ws) : Rng (wrS c s ws bs).2.1 ∧ (wrS c s ws bs).2.1.length = ws.length ∧ (wrS c s ws bs).2.2.1.length = bs.length := by
 unfold wrS
 repeat' split
 all_goals first | exact ⟨h, rfl, rfl⟩ | exact ⟨setI_rng h _ (inR_ch _ _), setI_len _ _ _, rfl⟩ | exact ⟨h, rfl, setI_len _ _ _⟩
theorem pnLook_to (s : Pn) (o : Option Ent) (ht : inR s.to) : inR (pnLook s o).1.to := by
 unfold pnLook
 repeat' split
 all_goals first | exact ht | (unfold pnTurn; split <;> first | exact ht | exact inR_ch _ _)
theorem pnS_rng {s : Pn} (h : Rng ws) (ht : inR s.to) : Rng (pnS c s ws).2.1 ∧ inR (pnS c s ws).1.to ∧ (pnS c s ws).2.1.length = ws.length := by
 unfold pnS
 repeat' split
 all_goals first | exact ⟨h, ht, rfl⟩ | exact ⟨setI_rng h _ ht, ht, setI_len _ _ _⟩ | exact ⟨h, pnLook_to _ _ ht, rfl⟩
theorem feLook_p (s : Fe) (o : Option Ent) : (feLook s o).1.p = s.p := by
 unfold feLook
 repeat' split
 all_goals rfl
theorem feGive_rng {s : Fe} (h : Rng ws) (ht : inR s.p.to) : Rng (feGive s (pushS c s.p ws)).2.1 ∧ inR (feGive s (pushS c s.p ws)).1.p.to ∧ (feGive s (pushS c s.p ws)).2.1.length = ws.length := by
 have := pushS_rng (c := c) h ht
 unfold feGive
 split <;> exact this
theorem feS_rng {s : Fe} (h : Rng ws) (ht : inR s.p.to) : Rng (feS c s ws).2.1 ∧ inR (feS c s ws).1.p.to ∧ (feS c s ws).2.1.length = ws.length := by
 unfold feS
 repeat' split
 all_goals first | exact ⟨h, ht, rfl⟩ | exact ⟨h, by rw [feLook_p]; exact ht, rfl⟩ | exact ⟨setI_rng h _ (inR_ch _ _), inR_0, setI_len _ _ _⟩ | exact ⟨setI_rng h _ (inR_ch _ _), ht, setI_len _ _ _⟩ | exact feGive_rng h ht
theorem alTake_rng {s : Al} (h : Rng ws) (hw : inR s.word) (hp : inR s.p.to) (hq : inR s.q.to) : Rng (alTake s (popS c s.p ws)).2 ∧ (Mx.al (alTake s (popS c s.p ws)).1).rg ∧ (alTake s (popS c s.p ws)).2.length = ws.length := by
 have := popS_rng (c := c) h hp
 unfold alTake
 repeat' split
 all_goals exact ⟨this.1, ⟨hw, this.2.1, hq⟩, this.2.2⟩
theorem alGive_rng {s : Al} (h : Rng ws) (hw : inR s.word) (hp : inR s.p.to) (hq : inR s.q.to) : Rng (alGive s (pushS c s.q ws)).2 ∧ (Mx.al (alGive s (pushS c s.q ws)).1).rg ∧ (alGive s (pushS c s.q ws)).2.length = ws.length := by
 have := pushS_rng (c := c) h hq
 unfold alGive
 split
 all_goals exact ⟨this.1, ⟨hw, hp, this.2.1⟩, this.2.2⟩
theorem alLook_rg {s : Al} {o : Option Ent} (hw : inR s.word) (hp : inR s.p.to) (hq : inR s.q.to) : (Mx.al (alLook s o)).rg := by
 unfold alLook
 repeat' split
 all_goals first | exact ⟨hw, hp, hq⟩ | exact ⟨inR_pack _, hp, hq⟩
theorem alS_rng {s : Al} (h : Rng ws) (hn : inR s.n) (hw : inR s.word) (hp : inR s.p.to) (hq : inR s.q.to) : Rng (alS c s ws bs).2.1 ∧ (Mx.al (alS c s ws bs).1).rg ∧ (alS c s ws bs).2.1.length = ws.length ∧ (alS c s ws bs).2.2.1.length = bs.length := by
 unfold alS
 by_cases h0 : s.nx = 0
 ·rw [if_pos h0]; exact ⟨h, ⟨hw, hp, hq⟩, rfl, rfl⟩
 rw [if_neg h0]
 by_cases h1 : s.nx = 1
 ·rw [if_pos h1]
  by_cases g : bytesI s.n = 0
  ·rw [if_pos g]; exact ⟨h, ⟨hw, hp, hq⟩, rfl, rfl⟩
  ·rw [if_neg g]; exact ⟨h, ⟨hw, hp, hq⟩, rfl, rfl⟩
 rw [if_neg h1]
 by_cases h2 : s.nx = 2
 ·rw [if_pos h2]
  by_cases g : casB ws 2 s.seen = true
  ·rw [if_pos g]; exact ⟨setI_rng h _ (inR_w64 _), ⟨hw, hp, hq⟩, setI_len _ _ _, rfl⟩
  ·rw [if_neg g]; exact ⟨h, ⟨hw, hp, hq⟩, rfl, rfl⟩
 rw [if_neg h2]
 by_cases h3 : s.nx = 3
 ·rw [if_pos h3]
  exact ⟨(alTake_rng h hw hp hq).1, (alTake_rng h hw hp hq).2.1, (alTake_rng h hw hp hq).2.2, rfl⟩
 rw [if_neg h3]
 by_cases h4 : s.nx = 4
 ·rw [if_pos h4]
  by_cases g : getI ws 0 < 0 ∨ w64 (c.A - bytesI s.n) < getI ws 0
  ·rw [if_pos g]; exact ⟨h, ⟨hw, hp, inR_0⟩, rfl, rfl⟩
  ·rw [if_neg g]; exact ⟨h, ⟨hw, hp, hq⟩, rfl, rfl⟩
 rw [if_neg h4]
 by_cases h5 : s.nx = 5
 ·rw [if_pos h5]
  by_cases g : casB ws 0 s.f = true
  ·rw [if_pos g]; exact ⟨setI_rng h _ (inR_w64 _), ⟨hw, hp, hq⟩, setI_len _ _ _, rfl⟩
  ·rw [if_neg g]; exact ⟨h, ⟨hw, hp, hq⟩, rfl, rfl⟩
 rw [if_neg h5]
 by_cases h6 : s.nx = 6
 ·rw [if_pos h6]
  exact ⟨(alGive_rng h hw hp hq).1, (alGive_rng h hw hp hq).2.1, (alGive_rng h hw hp hq).2.2, rfl⟩
 rw [if_neg h6]
 by_cases h7 : s.nx = 7
 ·rw [if_pos h7]
  by_cases g : w64 (s.at_ + 1) = bytesI s.n
  ·rw [if_pos g]; exact ⟨h, ⟨hw, hp, hq⟩, rfl, setI_len _ _ _⟩
  ·rw [if_neg g]; exact ⟨h, ⟨hw, hp, hq⟩, rfl, setI_len _ _ _⟩
 rw [if_neg h7]
 by_cases h8 : s.nx = 8
 ·rw [if_pos h8]; exact ⟨setI_rng h _ hn, ⟨hw, hp, hq⟩, setI_len _ _ _, rfl⟩
 rw [if_neg h8]
 by_cases h9 : s.nx = 9
 ·rw [if_pos h9]; exact ⟨h, alLook_rg hw hp hq, rfl, rfl⟩
 rw [if_neg h9]
 by_cases h10 : s.nx = 10
 ·rw [if_pos h10]
  by_cases g : s.kept = 0
  ·rw [if_pos g]; exact ⟨setI_rng h _ hw, ⟨hw, hp, hq⟩, setI_len _ _ _, rfl⟩
  ·rw [if_neg g]; exact ⟨h, ⟨hw, hp, hq⟩, rfl, rfl⟩
 rw [if_neg h10]
 by_cases h11 : s.nx = 11
 ·rw [if_pos h11]; exact ⟨h, ⟨hw, hp, hq⟩, rfl, rfl⟩
 rw [if_neg h11]
 by_cases g : casB ws 2 s.seen = true
 ·rw [if_pos g]; exact ⟨setI_rng h _ (inR_w64 _), ⟨hw, hp, hq⟩, setI_len _ _ _, rfl⟩
 ·rw [if_neg g]; exact ⟨h, ⟨hw, hp, hq⟩, rfl, rfl⟩
theorem mxS_rng {m : Mx} (h : Rng ws) (hr : m.rg) (hk : m.ok) : Kept ws bs (mxS c m ws bs).1 (mxS c m ws bs).2.1 (mxS c m ws bs).2.2.1 := by
 cases m with
 | al s => exact alS_rng h hk hr.1 hr.2.1 hr.2.2
 | fe s =>
   have := feS_rng (c := c) (s := s) h hr
   exact ⟨this.1, this.2.1, this.2.2, rfl⟩
 | rd s => exact ⟨h, trivial, rfl, rfl⟩
 | wr s =>
   have := wrS_rng (c := c) (s := s) (bs := bs) h
   exact ⟨this.1, trivial, this.2.1, this.2.2⟩
 | pn s =>
   have := pnS_rng (c := c) (s := s) h hr
   exact ⟨this.1, this.2.1, this.2.2, rfl⟩
 | no => exact ⟨h, trivial, rfl, rfl⟩
def Th.rg (t : Th) : Prop := t.m.rg ∧ t.m.ok
theorem thW_kept (t : Th) (r : Mx × List Int × List Int × Option (Int × Int)) : (thW t r).1.m = r.1 ∧ (thW t r).2.1 = r.2.1 ∧ (thW t r).2.2.1 = r.2.2.1 := by
 unfold thW
 split <;> exact ⟨rfl, rfl, rfl⟩
theorem thS_rng {t : Th} (h : Rng ws) (hr : t.rg) : Rng (thS c t ws bs).2.1 ∧ (thS c t ws bs).1.rg ∧ (thS c t ws bs).2.1.length = ws.length ∧ (thS c t ws bs).2.2.1.length = bs.length := by
 unfold thS
 split
 ·exact ⟨h, hr, rfl, rfl⟩
 ·split
  ·exact ⟨h, hr, rfl, rfl⟩
  split
  ·exact ⟨setI_rng h _ (inR_w64 _), mkM_rg _, setI_len _ _ _, rfl⟩
  split
  ·have hw := thW_kept t (mxS c t.m ws bs)
   have hk := mxS_rng (c := c) (bs := bs) h hr.1 hr.2
   rw [hw.2.1, hw.2.2]
   exact ⟨hk.1, by unfold Th.rg; rw [hw.1]; exact ⟨hk.2.1, mxok_S hr.2⟩, hk.2.2.1, hk.2.2.2⟩
  ·exact ⟨setI_rng h _ inR_0, hr, setI_len _ _ _, rfl⟩
end Go.Proofs.YtnfcohmbcgfhbaaGreat

/- What a thread holds, and whether it is done: by both. -/
namespace Go.Proofs.YtnfcohmbcgfhbaaGreat
open Go Go.Ir

section
variable {H : Heap} {b ob : Nat} {c : Cfg} {t : Th} {cb : CB} {ws bs : List Int} {own : List Nat}
theorem done_spec (hP : ThP H own ob cb c t b) : callR En 0 Id.zcw [ptrB b] H = some (.bool t.ops.isEmpty, H) := by
 obtain ⟨ov, ev, mv, av, hr, hops, _, _⟩ := hP.row
 obtain ⟨a, k, hov⟩ := hops.len
 cases ho : t.ops with
 | nil => rw [ho] at hov; exact thdone_nil hr hov
 | cons o r => rw [ho] at hov; exact thdone_cons hr hov

end
end Go.Proofs.YtnfcohmbcgfhbaaGreat

/- Events held against each other; whether a thread is busy. -/
namespace Go.Proofs.YtnfcohmbcgfhbaaGreat
open Go Go.Ir

structure Ev where
 t : Int
 b : Bool
 d : Int
 h : Int
 f : Int
 n : Int
 cd : Int
 nn : Int
def Ev.cs (e : Ev) : List Value := [I e.t, .bool e.b, I e.d, I e.h, I e.f, I e.n, I e.cd, I e.nn]
def ecs (l : List Ev) : List (List Value) := l.map Ev.cs
theorem ecs_length (l : List Ev) : (ecs l).length = l.length := by simp [ecs]
theorem ecs_get {l : List Ev} {i : Nat} {e : Ev} (h : l[i]? = some e) : (ecs l)[i]? = some e.cs := by simp [ecs, h]
theorem thEv (c : Cfg) (t : Th) (ws bs : List Int) : ∃ l : List Ev, (thS c t ws bs).2.2.2 = ecs l ∧ l.length ≤ 1 := by
 unfold thS
 split
 ·exact ⟨[], rfl, Nat.zero_le _⟩
 ·rename_i o r _
  split
  ·exact ⟨[⟨t.num, false, o.d, o.h, o.f, o.n, 0, 0⟩], rfl, Nat.le_refl _⟩
  split
  ·exact ⟨[], rfl, Nat.zero_le _⟩
  split
  ·unfold thW
   split <;> exact ⟨[], rfl, Nat.zero_le _⟩
  ·exact ⟨[⟨t.num, true, 0, 0, 0, 0, t.cd, t.nn⟩], rfl, Nat.le_refl _⟩
theorem ecs_rows {h : Heap} {v : Value} {l : List Ev} (hv : Sl h 8 v (ecs l)) (h0 : l ≠ []) :
  ∃ ad cap, v = .slice (some ad) l.length cap ∧ ∀ (i : Nat) (x : Ev), l[i]? = some x → loadV h (some 8) ⟨ad.block, ad.off + i * 8, none⟩ = some (.agg x.cs.toArray) := by
 obtain ⟨ad, cap, h1, h2⟩ := hv.row (show ecs l ≠ [] from fun e => h0 (List.map_eq_nil_iff.1 e))
 rw [ecs_length] at h1
 exact ⟨ad, cap, h1, fun i x hi => (h2 i _ (ecs_get hi)).2⟩

section
variable {h H : Heap} {b ob : Nat} {c : Cfg} {t : Th} {cb : CB} {ws bs : List Int} {own : List Nat}
theorem events_spec (lo : Nat) {v w : Value} {l : List Ev} (hv : Sl h 8 v (ecs l)) (hw : Sl h 8 w (ecs l)) (hl : l.length ≤ 100000) : callR En lo Id.zcj [v, w] h = some (.bool true, h) := by
 refine Exists.elim hv.len fun base hq => Exists.elim hq fun cap hve => ?_
 refine Exists.elim hw.len fun bw hq => Exists.elim hq fun cw hwe => ?_
 rw [ecs_length] at hve hwe
 subst hve hwe
 refine call_scr rfl Fn.zcj rfl rfl ?_
 repeat' first | refine .A ?_ | refine .B ?_ | refine .D ?_ | refine .F ?_ | refine .G ?_ | refine .f6 ?_ | refine .Y ?_ | fail
 refine .loop (fun n f H => H = h ∧ ∃ (i : Nat), n + i = l.length ∧ f = [(0, .slice base l.length cap), (1, .slice bw l.length cw), (5, N i)]) (n := l.length) ⟨rfl, 0, rfl, rfl⟩ ?_
 rintro n f H ⟨rfl, i, hn, rfl⟩ next
 by_cases hi : i < l.length
 ·have hgi : l[i]? = some l[i] := List.getElem?_eq_getElem hi
  have h0 : l ≠ [] := fun e => by rw [e] at hi; simp at hi
  generalize l[i] = c at hgi
  refine Exists.elim (ecs_rows hv h0) fun a hq => Exists.elim hq fun cap' hq => ?_
  have hva := hq.1
  injection hva with e1 e2 e3
  subst e1
  have IA := hq.2 i c hgi
  refine Exists.elim (ecs_rows hw h0) fun b hq => Exists.elim hq fun cap2 hq => ?_
  have hvb := hq.1
  injection hvb with e4 e5 e6
  subst e4
  have IB := hq.2 i c hgi
  repeat' first | refine .A ?_ | refine .B ?_ | refine .C ?_ | refine .D ?_ | refine .F ?_ | refine .G ?_ | refine .H ?_ | refine .J ?_ | refine .t1 ?_ | refine .n2 ?_ | refine .L IA ?_ | refine .L IB ?_ | refine .R hi ?_ | refine .eqc rfl rfl rfl rfl (fun hc => ?_) (fun hc => ?_) | refine .Y ?_ | fail
  ·simp at hc
  ·exact next (n - 1) _ _ (by omega) ⟨rfl, i + 1, by omega, rfl⟩
 ·repeat' first | refine .A ?_ | refine .B ?_ | refine .D ?_ | refine .I ?_ | refine .J ?_ | refine .f1 ?_ | refine .F ?_ | refine .Y ?_ | fail
  rfl
end
end Go.Proofs.YtnfcohmbcgfhbaaGreat

/- Threads made: by both. -/
namespace Go.Proofs.YtnfcohmbcgfhbaaGreat
open Go Go.Ir

theorem ocs_clone (lo : Nat) {h : Heap} {v : Value} {l : List Op4} (hlo : lo ≤ h.length) (hv : Sl h 4 v (ocs l)) (ht : TightV v l.length) (hb : l.length * 32 ≤ 2 ^ 47) :
  ∃ v' H', callR En lo Id.zcm [v] h = some (v', H') ∧ Ext h H' ∧ (∀ ob, (l ≠ [] → ob = h.length + 1) → OpsV H' v' l ob) ∧ (l ≠ [] → h.length + 1 < H'.length) := by
 rcases ht with ⟨rfl, h0⟩ | ⟨a, cap, rfl, hs, hc⟩
 ·have he : l = [] := List.length_eq_zero_iff.1 h0
  subst he
  refine ⟨.slice none 0 0, h, ?_, .refl _, fun _ _ => .inl ⟨rfl, none, 0, rfl, fun _ => rfl, (fun x hx => nomatch hx)⟩, fun h => absurd rfl h⟩
  refine call_of rfl Fn.zcm rfl rfl ?_
  repeat' first | refine .A ?_ | refine .B ?_ | refine .C ?_ | refine .J ?_ | refine .F ?_ | refine .Y ?_ | fail
  rfl
 ·have hx : Ext h (h ++ [Blk.row [] false]) := (Ext.refl h).app _
  by_cases h0 : l.length = 0
  ·have he : l = [] := List.length_eq_zero_iff.1 h0
   subst he
   have ha : iappend lo 4 32 (h ++ [Blk.row [] false]) (.slice (some ⟨h.length, 0, none⟩) 0 0) (.slice (some a) 0 cap) = some (.slice (some ⟨h.length, 0, none⟩) 0 0, h ++ [Blk.row [] false]) := by
    simp [iappend, lenV, srcCells]
   refine ⟨.slice (some ⟨h.length, 0, none⟩) 0 0, h ++ [Blk.row [] false], ?_, hx, fun _ _ => .inl ⟨rfl, _, _, rfl, (fun h => nomatch h), (fun x hx => by injection hx with e; subst e; exact ⟨rfl, Nat.le_refl _⟩)⟩, fun h => absurd rfl h⟩
   refine call_of rfl Fn.zcm rfl rfl ?_
   repeat' first | refine .A ?_ | refine .B ?_ | refine .D ?_ | refine .F ?_ | refine .J ?_ | refine .U ha ?_ | refine .Y ?_ | fail
   rfl
  ·have hl0 : l ≠ [] := fun e => h0 (by rw [e]; rfl)
   have hel : (ocs l).length = l.length := ocs_length l
   rcases hv.2 with ⟨h1, _⟩ | ⟨a', cap', h1, h2⟩
   ·rw [h1] at hel; exact absurd hel.symm h0
   ·rw [hel] at h1 h2
    injection h1 with e1 _ e3
    injection e1 with e1
    subst e1 e3
    have hsr : srcCells (h ++ [Blk.row [] false]) 4 l.length (.slice (some a) l.length cap) = some (ocs l).flatten := by
     unfold srcCells
     simp only
     rw [if_neg h0]
     exact ldN_ext hx h2
    have ha : iappend lo 4 32 (h ++ [Blk.row [] false]) (.slice (some ⟨h.length, 0, none⟩) 0 0) (.slice (some a) l.length cap) = some (.slice (some (loose (h.length + 1) 0)) l.length 4, h ++ [Blk.row [] false] ++ [Blk.row (ocs l).flatten false]) := by
     simp only [iappend, lenV, hsr]
     rw [if_pos (.inr ⟨trivial, rfl, by omega, by omega⟩), if_neg (by omega)]
     simp [srcCells]
    have hfl : ((ocs l).flatten).length = l.length * 4 := by rw [flat_len (ocs_len l), hel]
    refine ⟨.slice (some (loose (h.length + 1) 0)) l.length 4, h ++ [Blk.row [] false] ++ [Blk.row (ocs l).flatten false], ?_, hx.app _, fun ob hob => .inr ⟨0, (ocs l).flatten, by rw [hob hl0], by
     rw [hob hl0]; rw [List.getElem?_append_right (by simp)]; simp, by omega, by rw [List.drop_zero, ← hfl, List.take_length]⟩, fun _ => by simp⟩
    refine call_of rfl Fn.zcm rfl rfl ?_
    repeat' first | refine .A ?_ | refine .B ?_ | refine .D ?_ | refine .F ?_ | refine .J ?_ | refine .U ha ?_ | refine .Y ?_ | fail
    rfl

theorem noteI_neg {c : Cfg} (hm : c.may) {num : Int} (h : ¬ 0 ≤ noteI c num) : noteI c num = -1 := by
 unfold noteI at h ⊢
 split at h
 ·unfold Cfg.may at hm; omega
 ·rename_i g; rw [if_neg g]
def th0 (num : Int) (l : List Op4) : Th := ⟨num, l, 0, 0, .no, 0, 0⟩
theorem th0_rg (num : Int) (l : List Op4) : (th0 num l).rg := ⟨trivial, trivial⟩
def opsOf (c : Cfg) (num : Int) (l : List Op4) : List Op4 := if 0 ≤ noteI c num then l else []
def tr0 (c : Cfg) (num : Int) (ov : Value) : List Value := [I c.A, I c.S, I c.T, I num, ov, I 0, .pointer none, .nilIface, .pointer none, I 0, I 0]
theorem thnew_spec {h : Heap} {v : Value} {l : List Op4} {c : Cfg} {s0 : Nat} (h0 : s0 < h.length) (cb : CB) (num : Int) (hm : c.may) (hcb : cb.P < h.length ∧ cb.W < h.length ∧ cb.Y < h.length) (hv : Sl h 4 v (ocs l)) (ht : TightV v l.length) (hb : l.length * 32 ≤ 2 ^ 47) :
  ∃ H' ob, callR En 0 Id.zcu [.agg c.cs.toArray, I num, v] h = some (ptrB h.length, H') ∧ Ext h H' ∧ ThP H' [h.length] ob cb c (th0 num (opsOf c num l)) h.length ∧ (ob = s0 ∨ h.length < ob) ∧ ob < H'.length := by
 have hx : Ext h (h ++ [.row (tr0 c num (.slice none 0 0)) false]) := (Ext.refl h).app _
 have hfar : ∀ ob, h.length < ob → ob ∉ ownS [h.length] cb := fun ob hob hh => by
  simp only [ownS, List.cons_append, List.nil_append, List.mem_cons, List.mem_nil_iff, or_false] at hh
  omega
 have hO := fun lo => of_spec' lo (h ++ [.row (tr0 c num (.slice none 0 0)) false]) hm
 have hN := fun lo => note_spec lo (h ++ [.row (tr0 c num (.slice none 0 0)) false]) hm num
 by_cases hge : 0 ≤ noteI c num
 ·rw [show opsOf c num l = l from if_pos hge]
  have hge' := hge
  generalize noteI c num = nn at hN hge'
  obtain ⟨v', H1, hC, hx1, hs1, hl1⟩ := ocs_clone 0 (h := h ++ [.row (tr0 c num (.slice none 0 0)) false]) (Nat.zero_le _) (hv.ext hx) ht hb
  have hr : H1[h.length]? = some (.row (tr0 c num (.slice none 0 0)) false) := by
   rw [hx1.2 h.length (by rw [List.length_append, List.length_singleton]; omega)]
   exact List.getElem?_concat_length
  rw [List.length_append, List.length_singleton] at hs1 hl1
  obtain ⟨ob, q1, q2, q3⟩ : ∃ ob, (l ≠ [] → ob = h.length + 1 + 1) ∧ (ob = s0 ∨ h.length < ob) ∧ ob < H1.length := by
   by_cases hl : l = []
   ·exact ⟨s0, fun h => absurd hl h, .inl rfl, by have := hx1.1; rw [List.length_append] at this; omega⟩
   ·exact ⟨_, fun _ => rfl, .inr (by omega), hl1 hl⟩
  have hs1 := hs1 ob q1
  have hob : ob ≠ h.length := by omega
  obtain ⟨a, k, hve⟩ := hs1.len
  have hst : stN 0 H1 ⟨h.length, 0 + 4, none⟩ (vcells v') = some (H1.set h.length (.row (tr0 c num v') false)) := by subst hve; exact st_row hr (Nat.zero_le _) (Nat.le_of_ble_eq_true rfl) rfl
  refine ⟨H1.set h.length (.row (tr0 c num v') false), ob, ?_, ⟨by rw [List.length_set]; exact Nat.le_trans hx.1 hx1.1, fun i hi => ?_⟩, ⟨by simp, fun _ => hge, by simp [th0], fun hl => hfar _ (by rw [q1 hl]; omega), v', .pointer none, .nilIface, .pointer none, hs_same (hlt_of hr), hs1.keep (by rw [List.getElem?_set_ne (Ne.symm hob)]), fun h => by simp [th0] at h, fun h => by simp [th0] at h⟩, q2, by rw [List.length_set]; exact q3⟩
  ·subst hve
   refine call_of rfl Fn.zcu rfl rfl ?_
   repeat' first | refine .A ?_ | refine .B ?_ | refine .C ?_ | refine .J ?_ | refine .t4 ?_ | refine .t5 ?_ | refine .P (hO _) ?_ | refine .P (hN _) ?_ | refine .P hC ?_ | refine .S hst ?_ | refine .F ?_ | refine .Y ?_ | fail
   rfl
  ·rw [List.getElem?_set_ne (by omega), hx1.2 i (by rw [List.length_append]; omega), hx.2 i hi]
 ·rw [show opsOf c num l = [] from if_neg hge]
  have hlt := noteI_neg hm hge
  rw [hlt] at hN
  refine ⟨_, s0, ?_, hx, ⟨by simp, fun h => absurd rfl h, by simp [th0], fun h => absurd rfl h, .slice none 0 0, .pointer none, .nilIface, .pointer none, List.getElem?_concat_length, .inl ⟨rfl, none, 0, rfl, fun _ => rfl, (fun x hx => nomatch hx)⟩, fun h => by simp [th0] at h, fun h => by simp [th0] at h⟩, .inl rfl, by rw [List.length_append]; omega⟩
  refine call_of rfl Fn.zcu rfl rfl ?_
  repeat' first | refine .A ?_ | refine .B ?_ | refine .D ?_ | refine .F ?_ | refine .J ?_ | refine .f4 ?_ | refine .t5 ?_ | refine .P (hO _) ?_ | refine .P (hN _) ?_ | refine .Y ?_ | fail
  rfl

end Go.Proofs.YtnfcohmbcgfhbaaGreat

/- A thread alone: each step comes nearer to the end. The plain law. -/
namespace Go.Proofs.YtnfcohmbcgfhbaaGreat
open Go Go.Ir

def En0 (w : Int) : Prop := ∀ e, unpackE w = some e → e.lk = false ∧ e.u = 0
def Still (c : Cfg) (ws : List Int) : Prop := ∀ s, 0 ≤ s → s < c.S → En0 (getI ws (slotI c s 0))
def StillX (c : Cfg) (ws : List Int) (k : Int) : Prop := ∀ s, 0 ≤ s → s < c.S → s ≠ k → En0 (getI ws (slotI c s 0))

theorem getI_sameY {ws : List Int} {i n : Int} (h0 : 0 ≤ i) (h1 : i < ws.length) : getI (setI ws i n) i = n := by
 unfold getI setI
 rw [if_pos (show 0 ≤ i ∧ i < (ws.length : Int) from ⟨h0, h1⟩), List.length_set, if_pos (show 0 ≤ i ∧ i < (ws.length : Int) from ⟨h0, h1⟩), List.getD_eq_getElem?_getD, List.getElem?_set_self (by omega)]
 rfl
theorem getI_neY {ws : List Int} {i j n : Int} (h : i ≠ j) : getI (setI ws i n) j = getI ws j := by
 unfold getI setI
 by_cases hi : 0 ≤ i ∧ i < ws.length
 ·rw [if_pos hi, List.length_set]
  by_cases hj : 0 ≤ j ∧ j < ws.length
  ·rw [if_pos hj, if_pos hj, List.getD_eq_getElem?_getD, List.getD_eq_getElem?_getD, List.getElem?_set_ne (by omega)]
  ·rw [if_neg hj, if_neg hj]
 ·rw [if_neg hi]
theorem cas_sameY {ws : List Int} {i w : Int} (h0 : 0 ≤ i) (h1 : i < ws.length) (hg : getI ws i = w) : casB ws i w = true := by
 unfold getI at hg
 rw [if_pos ⟨h0, h1⟩] at hg
 unfold casB
 rw [decide_eq_true (show 0 ≤ i ∧ i < ws.length from ⟨h0, h1⟩), decide_eq_true hg]; rfl
theorem cas_get {ws : List Int} {i w : Int} (h : casB ws i w = true) : 0 ≤ i ∧ i < ws.length ∧ getI ws i = w := by
 unfold casB at h
 simp only [Bool.and_eq_true, decide_eq_true_eq] at h
 refine ⟨h.1.1, h.1.2, ?_⟩
 unfold getI
 rw [if_pos h.1]
 exact h.2
theorem cas_neY {ws : List Int} {i j n w : Int} (h : i ≠ j) (hc : casB ws j w = true) : casB (setI ws i n) j w = true := by
 have := cas_get hc
 exact cas_sameY this.1 (by rw [setI_len]; exact this.2.1) (by rw [getI_neY h]; exact this.2.2)

theorem fresh_get {ws : List Int} {c : Cfg} {s g : Int} {e : Ent} (h : freshE ws c s g = some e) : unpackE (getI ws (slotI c s 0)) = some e ∧ e.lv = true := by
 unfold freshE at h
 generalize unpackE (getI ws (slotI c s 0)) = o at h
 cases o with
 | none => simp [freshO] at h
 | some e' =>
   by_cases hh : e'.lv = true ∧ e'.g = g
   ·have h2 : freshO g (some e') = some e' := if_pos hh
    rw [h2] at h
    injection h with h
    subst h
    exact ⟨rfl, hh.1⟩
   ·have h2 : freshO g (some e') = none := if_neg hh
    rw [h2] at h
    cases h

section
variable {c : Cfg} {ws bs : List Int}
theorem slotN (s j : Int) : slotI c s j = -1 ∨ (0 ≤ s ∧ s < c.S ∧ slotI c s j = 4 + c.T + 3 * s + j) := by
 unfold slotI
 split
 ·rename_i h; exact .inr ⟨h.1, h.2, rfl⟩
 ·exact .inl rfl
theorem slot_at {s : Int} (j : Int) (h0 : 0 ≤ s) (h1 : s < c.S) : slotI c s j = 4 + c.T + 3 * s + j := if_pos ⟨h0, h1⟩
theorem Still.other (hm : c.may) (h : Still c ws) {i n : Int} (hi : i < 4 + c.T ∨ ∃ s j, i = slotI c s j ∧ (j = 1 ∨ j = 2)) : Still c (setI ws i n) := by
 intro s h0 h1
 rw [getI_neY]
 ·exact h s h0 h1
 ·rw [slot_at 0 h0 h1]
  unfold Cfg.may at hm
  rcases hi with hi | ⟨s', j, rfl, hj⟩
  ·omega
  ·rcases hj with rfl | rfl
   ·rcases slotN (c := c) s' 1 with e | ⟨_, _, e⟩ <;> omega
   ·rcases slotN (c := c) s' 2 with e | ⟨_, _, e⟩ <;> omega
theorem Still.entry (hm : c.may) (h : Still c ws) {s n : Int} (hn : En0 n) : Still c (setI ws (slotI c s 0) n) := by
 unfold Cfg.may at hm
 intro s' h0 h1
 by_cases he : s' = s
 ·subst he
  have e := slot_at (c := c) 0 h0 h1
  by_cases hl : slotI c s' 0 < ws.length
  ·rw [getI_sameY (by omega) hl]
   exact hn
  ·have : setI ws (slotI c s' 0) n = ws := if_neg (by omega)
   rw [this]
   exact h s' h0 h1
 ·rw [getI_neY]
  ·exact h s' h0 h1
  ·have e := slot_at (c := c) 0 h0 h1
   rcases slotN (c := c) s 0 with e2 | ⟨_, _, e2⟩ <;> omega
end
end Go.Proofs.YtnfcohmbcgfhbaaGreat

/- Machines alone come to an end. The plain law. -/
namespace Go.Proofs.YtnfcohmbcgfhbaaGreat
open Go Go.Ir

def JP (ws : List Int) (p : Sk) : Prop := p.nx = 2 ∨ p.nx = 3 → casB ws 1 p.word = true
def muP (p : Sk) : Nat := if p.nx = 1 then 3 else if p.nx = 2 then 2 else 1
def up1 (e : Ent) : Ent := { e with u := 1 }
def W1 (c : Cfg) (ws : List Int) (s : Wr) : Prop := (ofR s.h c.S).2.2 = 0 ∧ StillX c ws (ofR s.h c.S).1 ∧ ∃ e : Ent, e.may ∧ e.lv = true ∧ e.lk = false ∧ e.u = 0 ∧ getI ws (wrG c s) = (packN (up1 e) : Nat) ∧ (up1 e).may
structure JA (c : Cfg) (ws : List Int) (s : Al) : Prop where
 still : Still c ws
 nx : 1 ≤ s.nx ∧ s.nx ≤ 12
 a0 : s.nx < 7 → s.at_ = 0
 p0 : s.nx < 3 → s.p.nx = 1
 j2 : s.nx = 2 → casB ws 2 s.seen = true
 j3 : s.nx = 3 → JP ws s.p
 j5 : s.nx = 5 → casB ws 0 s.f = true
 j6 : s.nx = 6 → JP ws s.q
 j7 : s.nx = 7 → 0 ≤ s.at_ ∧ s.at_ < bytesI s.n
 by_ : 2 ≤ s.nx → 0 < bytesI s.n
 j10 : s.nx = 10 → s.kept = 0 → En0 s.word
 j12 : s.nx = 12 → casB ws 2 s.seen = true
def muA (s : Al) : Nat :=
 if s.nx = 1 then 600 else if s.nx = 2 then 599 else if s.nx = 3 then 590 + muP s.p else if s.nx = 4 then 580 else if s.nx = 5 then 579 else if s.nx = 6 then 400 + muP s.q
 else if s.nx = 7 then 10 + (bytesI s.n - s.at_).toNat else if s.nx = 8 then 9 else if s.nx = 9 then 8 else if s.nx = 10 then 7 else if s.nx = 11 then 2 else 1
def JM (c : Cfg) (ws : List Int) : Mx → Prop
 | .rd s => Still c ws ∧ (s.nx = 1 ∨ ((s.nx = 2 ∨ s.nx = 3 ∨ s.nx = 4) ∧ freshE ws c (ofR s.h c.S).1 (ofR s.h c.S).2.1 = some s.e ∧ s.e.lk = false))
 | .pn s => Still c ws ∧ (s.nx = 1 ∨ (s.nx = 2 ∧ casB ws (pnG c s) s.word = true ∧ En0 s.to))
 | .wr s => (s.nx = 1 ∧ Still c ws) ∨ (s.nx = 2 ∧ Still c ws ∧ (ofR s.h c.S).2.2 = 0 ∧ casB ws (wrG c s) s.word = true ∧ ∃ e, unpackE s.word = some e ∧ e.lv = true) ∨ ((s.nx = 3 ∨ s.nx = 4 ∨ s.nx = 5) ∧ W1 c ws s) ∨ (s.nx = 6 ∧ W1 c ws s ∧ casB ws (wrG c s) s.word = true)
 | .fe s => Still c ws ∧ (s.nx = 1 ∨ (s.nx = 2 ∧ casB ws (feG c s) s.word = true) ∨ (s.nx = 3 ∧ JP ws s.p))
 | .al s => JA c ws s
 | .no => Still c ws
def muM : Mx → Nat
 | .rd s => if s.nx = 1 then 4 else if s.nx = 2 then 3 else if s.nx = 3 then 2 else 1
 | .pn s => if s.nx = 1 then 2 else 1
 | .wr s => if s.nx = 1 then 6 else if s.nx = 2 then 5 else if s.nx = 3 then 4 else if s.nx = 4 then 3 else if s.nx = 5 then 2 else 1
 | .fe s => if s.nx = 1 then 5 else if s.nx = 2 then 4 else muP s.p
 | .al s => muA s
 | .no => 1
def Near (c : Cfg) (m : Mx) (r : Mx × List Int × List Int × Option (Int × Int)) : Prop :=
 match r.2.2.2 with
 | none => JM c r.2.1 r.1 ∧ muM r.1 < muM m
 | some _ => Still c r.2.1

section
variable {c : Cfg} {ws bs : List Int}
theorem still_at (h : Still c ws) {hh : Int} (he : (ofR hh c.S).2.2 = 0) {e : Ent} (hu : unpackE (getI ws (slotI c (ofR hh c.S).1 0)) = some e) : e.lk = false ∧ e.u = 0 :=
 h _ (ofR_ok he).1 (ofR_ok he).2.1 e hu
theorem cas_slot (hm : c.may) (hl : (ws.length : Int) = wordsI c) {s : Int} (h0 : 0 ≤ s) (h1 : s < c.S) : casB ws (slotI c s 0) (getI ws (slotI c s 0)) = true := by
 unfold Cfg.may at hm
 unfold wordsI at hl
 have e := slot_at (c := c) 0 h0 h1
 exact cas_sameY (by omega) (by omega) rfl
theorem cas_low (hm : c.may) (hl : (ws.length : Int) = wordsI c) {i : Int} (h0 : 0 ≤ i) (h1 : i < 4) : casB ws i (getI ws i) = true := by
 unfold Cfg.may at hm
 unfold wordsI at hl
 exact cas_sameY h0 (by omega) rfl

theorem rd_near {s : Rd} (h : JM c ws (.rd s)) : Near c (.rd s) (mxS c (.rd s) ws bs) := by
 obtain ⟨hs, h⟩ := h
 unfold Near mxS
 simp only
 rcases h with h1 | ⟨h2, hf, hk⟩
 ·unfold rdS
  rw [if_pos h1]
  by_cases he : (ofR s.h c.S).2.2 ≠ 0
  ·rw [if_pos he]; exact hs
  ·rw [if_neg he]
   have he : (ofR s.h c.S).2.2 = 0 := by omega
   cases hf : freshE ws c (ofR s.h c.S).1 (ofR s.h c.S).2.1 with
   | none => exact hs
   | some e =>
     have hk := still_at hs he (fresh_get hf).1
     have e1 : rdLook s (some e) = ({ s with e := e, nx := 2 }, none) := if_neg (by rw [hk.1]; decide)
     rw [e1]
     exact ⟨⟨hs, .inr ⟨.inl rfl, hf, hk.1⟩⟩, by simp [muM, h1]⟩
 ·rcases h2 with h2 | h2 | h2
  ·unfold rdS
   rw [if_neg (show ¬ s.nx = 1 by omega), if_pos h2]
   by_cases hg : s.off < 0 ∨ getI ws (slotI c (ofR s.h c.S).1 1) ≤ s.off
   ·rw [if_pos hg]; exact ⟨⟨hs, .inr ⟨.inr (.inr rfl), hf, hk⟩⟩, by simp [muM, h2]⟩
   ·rw [if_neg hg]; exact ⟨⟨hs, .inr ⟨.inr (.inl rfl), hf, hk⟩⟩, by simp [muM, h2]⟩
  ·unfold rdS
   rw [if_neg (show ¬ s.nx = 1 by omega), if_neg (show ¬ s.nx = 2 by omega), if_pos h2]
   exact ⟨⟨hs, .inr ⟨.inr (.inr rfl), hf, hk⟩⟩, by simp [muM, h2]⟩
  ·unfold rdS
   rw [if_neg (show ¬ s.nx = 1 by omega), if_neg (show ¬ s.nx = 2 by omega), if_neg (show ¬ s.nx = 3 by omega), if_pos h2, hf]
   have e1 : rdAgain s (some s.e) = ({ s with nx := 0 }, some (s.cd, s.nn)) := if_pos ⟨rfl, hk⟩
   rw [e1]
   exact hs

theorem ch_users {w : Int} {F : Ent → Int × Ent} (hF : ∀ e, unpackE w = some e → (F e).1 = 0 → (F e).2.lk = false ∧ (F e).2.u = 0) : En0 (chE w F).1 := by
 unfold chE
 have z : En0 0 := fun e he => by
  have : unpackE 0 = some Ent.zero := by decide
  rw [this] at he
  injection he with he
  subst he
  exact ⟨rfl, rfl⟩
 cases hu : unpackE w with
 | none => exact z
 | some e =>
   simp only
   split
   ·split
    ·rename_i h0
     split
     ·rename_i hm
      intro e' he'
      simp only at he'
      rw [unpack_pack hm] at he'
      injection he' with he'
      subst he'
      exact hF e hu h0
     ·exact z
    ·exact z
   ·exact z
theorem turn_users {w : Int} {un : Bool} (h : En0 w) : En0 (chE w (turnF un)).1 := by
 refine ch_users fun e hu h0 => ?_
 have hh := h e hu
 unfold turnF at *
 cases un with
 | false =>
   simp only [Bool.false_eq_true, if_false] at h0 ⊢
   unfold pinF at *
   split
   ·exact hh
   ·split
    ·exact hh
    ·exact hh
 | true =>
   simp only [if_true] at h0 ⊢
   unfold unpinF at *
   split
   ·exact hh
   ·exact hh
theorem next_users {w : Int} : En0 (chE w nextF).1 := by
 refine ch_users fun e hu h0 => ?_
 unfold nextF at *
 split at h0
 ·simp at h0
 ·rename_i hn
  rw [if_neg hn]
  exact ⟨rfl, rfl⟩

theorem pn_near (hm : c.may) (hl : (ws.length : Int) = wordsI c) {s : Pn} (h : JM c ws (.pn s)) : Near c (.pn s) (mxS c (.pn s) ws bs) := by
 obtain ⟨hs, h⟩ := h
 unfold Near mxS
 simp only
 rcases h with h1 | ⟨h2, hc, ht⟩
 ·unfold pnS
  rw [if_neg (show ¬ s.nx = 0 by omega), if_pos h1]
  by_cases he : (ofR s.h c.S).2.2 ≠ 0
  ·rw [if_pos he]; exact hs
  ·rw [if_neg he]
   have he : (ofR s.h c.S).2.2 = 0 := by omega
   have ho := ofR_ok he
   cases hf : freshE ws c (ofR s.h c.S).1 (ofR s.h c.S).2.1 with
   | none => exact hs
   | some e =>
     have hk := still_at hs he (fresh_get hf).1
     have e1 : ∀ q : Pn, pnLook q (some e) = pnTurn q (chE q.word (turnF q.un)) := fun q => if_neg (by rw [hk.1]; simp)
     rw [e1]
     simp only
     unfold pnTurn
     by_cases hg : (chE (getI ws (pnG c s)) (turnF s.un)).2 ≠ 0
     ·rw [if_pos hg]; exact hs
     ·rw [if_neg hg]; refine ⟨⟨hs, .inr ⟨rfl, cas_slot hm hl ho.1 ho.2.1, turn_users (hs _ ho.1 ho.2.1)⟩⟩, by simp [muM, h1]⟩
 ·unfold pnS
  rw [if_neg (show ¬ s.nx = 0 by omega), if_neg (show ¬ s.nx = 1 by omega), if_pos hc]
  exact hs.entry hm ht

theorem push_near (hm : c.may) (hl : (ws.length : Int) = wordsI c) {p : Sk} (hs : Still c ws) (h : JP ws p) :
  Still c (pushS c p ws).2.1 ∧ ((pushS c p ws).2.2.2 = false → JP (pushS c p ws).2.1 (pushS c p ws).1 ∧ muP (pushS c p ws).1 < muP p) := by
 unfold pushS
 by_cases h1 : p.nx = 1
 ·rw [if_pos h1]
  by_cases h2 : slotI c p.slot 2 < 0
  ·rw [if_pos h2]; exact ⟨hs, fun h => by cases h⟩
  ·rw [if_neg h2]
   cases hu : headU (getI ws 1) with
   | none => exact ⟨hs, fun h => by cases h⟩
   | some q => exact ⟨hs, fun _ => ⟨fun _ => cas_low hm hl (by decide) (by decide), by simp [muP, h1]⟩⟩
 rw [if_neg h1]
 by_cases h2 : p.nx = 2
 ·rw [if_pos h2]
  refine ⟨hs.other hm (.inr ⟨p.slot, 2, rfl, .inr rfl⟩), fun _ => ⟨fun _ => cas_neY ?_ (h (.inl h2)), by simp [muP, h2]⟩⟩
  unfold Cfg.may at hm
  rcases slotN (c := c) p.slot 2 with e | ⟨_, _, e⟩ <;> omega
 rw [if_neg h2]
 by_cases h3 : p.nx = 3
 ·rw [if_pos h3, if_pos (h (.inr h3))]
  unfold Cfg.may at hm
  exact ⟨hs.other (by unfold Cfg.may; exact hm) (.inl (by omega)), fun h => by cases h⟩
 rw [if_neg h3]
 exact ⟨hs, fun h => by cases h⟩
theorem pop_near (hm : c.may) (hl : (ws.length : Int) = wordsI c) {p : Sk} (hs : Still c ws) (h : JP ws p) :
  Still c (popS c p ws).2.1 ∧ ((popS c p ws).2.2.2.2 = false → JP (popS c p ws).2.1 (popS c p ws).1 ∧ muP (popS c p ws).1 < muP p) := by
 unfold popS
 by_cases h1 : p.nx = 1
 ·rw [if_pos h1]
  cases hu : headU (getI ws 1) with
  | none => exact ⟨hs, fun h => by cases h⟩
  | some q =>
    simp only
    split
    ·exact ⟨hs, fun h => by cases h⟩
    ·exact ⟨hs, fun _ => ⟨fun _ => cas_low hm hl (by decide) (by decide), by simp [muP, h1]⟩⟩
 rw [if_neg h1]
 by_cases h2 : p.nx = 2
 ·rw [if_pos h2]
  split
  ·exact ⟨hs, fun _ => ⟨fun _ => h (.inl h2), by simp [muP, h2]⟩⟩
  ·exact ⟨hs, fun h => by cases h⟩
 rw [if_neg h2]
 by_cases h3 : p.nx = 3
 ·rw [if_pos h3, if_pos (h (.inr h3))]
  unfold Cfg.may at hm
  exact ⟨hs.other (by unfold Cfg.may; exact hm) (.inl (by omega)), fun h => by cases h⟩
 rw [if_neg h3]
 exact ⟨hs, fun h => by cases h⟩

theorem fe_near (hm : c.may) (hl : (ws.length : Int) = wordsI c) {s : Fe} (h : JM c ws (.fe s)) : Near c (.fe s) (mxS c (.fe s) ws bs) := by
 obtain ⟨hs, h⟩ := h
 unfold Near mxS
 simp only
 rcases h with h1 | ⟨h2, hc⟩ | ⟨h3, hp⟩
 ·unfold feS
  rw [if_neg (show ¬ s.nx = 0 by omega), if_pos h1]
  by_cases he : (ofR s.h c.S).2.2 ≠ 0
  ·rw [if_pos he]; exact hs
  ·rw [if_neg he]
   have he : (ofR s.h c.S).2.2 = 0 := by omega
   have ho := ofR_ok he
   cases hf : freshE ws c (ofR s.h c.S).1 (ofR s.h c.S).2.1 with
   | none => exact hs
   | some e =>
     have hk := still_at hs he (fresh_get hf).1
     unfold feLook
     simp only
     by_cases hg : 0 < e.p
     ·rw [if_pos hg]; exact hs
     ·rw [if_neg hg, if_pos (show e.u = 0 ∧ e.lk = false from ⟨hk.2, hk.1⟩)]
      exact ⟨⟨hs, .inr (.inl ⟨rfl, cas_slot hm hl ho.1 ho.2.1⟩)⟩, by simp [muM, h1]⟩
 ·unfold feS
  rw [if_neg (show ¬ s.nx = 0 by omega), if_neg (show ¬ s.nx = 1 by omega), if_pos h2, if_pos hc]
  have hs' : Still c (setI ws (feG c s) (chE s.word nextF).1) := hs.entry hm next_users
  by_cases hg : moreB s.word = true
  ·rw [if_pos hg]; exact ⟨⟨hs', .inr (.inr ⟨rfl, fun h => by simp at h⟩)⟩, by simp [muM, muP, h2]⟩
  ·rw [if_neg hg]; exact hs'
 ·unfold feS
  rw [if_neg (show ¬ s.nx = 0 by omega), if_neg (show ¬ s.nx = 1 by omega), if_neg (show ¬ s.nx = 2 by omega)]
  have hh := push_near hm hl hs hp
  unfold feGive
  cases hd : (pushS c s.p ws).2.2.2 with
  | true => exact hh.1
  | false =>
    have h2 := hh.2 hd
    refine ⟨⟨hh.1, .inr (.inr ⟨h3, h2.1⟩)⟩, ?_⟩
    show (if s.nx = 1 then 5 else if s.nx = 2 then 4 else muP (pushS c s.p ws).1) < (if s.nx = 1 then 5 else if s.nx = 2 then 4 else muP s.p)
    rw [if_neg (show ¬ s.nx = 1 by omega), if_neg (show ¬ s.nx = 2 by omega), if_neg (show ¬ s.nx = 1 by omega), if_neg (show ¬ s.nx = 2 by omega)]
    exact h2.2
theorem chE_okY {w : Int} {F : Ent → Int × Ent} {e e2 : Ent} (hu : unpackE w = some e) (hv : e.lv = true) (hF : F e = (0, e2)) (hm : e2.may) : chE w F = (((packN e2 : Nat) : Int), 0) := by
 unfold chE
 rw [hu]
 simp only
 rw [if_pos hv, hF]
 simp only
 rw [if_pos trivial, if_pos hm]
theorem up1_may {e : Ent} (hm : e.may) (hv : e.lv = true) (hk : e.lk = false) : (up1 e).may := by
 unfold up1
 unfold Ent.may at hm ⊢
 simp only
 refine ⟨hm.1, hm.2.1, hm.2.2.1, hm.2.2.2.1, hm.2.2.2.2.1, hm.2.2.2.2.2.1, by decide, by decide, fun h => ?_, fun h => ?_⟩
 ·rw [hk] at h; cases h
 ·rw [hv] at h; cases h
theorem guard_up {w : Int} {e : Ent} (hu : unpackE w = some e) (hv : e.lv = true) (hk : e.lk = false) (h0 : e.u = 0) :
  ∃ e' : Ent, e'.may ∧ e'.lv = true ∧ e'.lk = false ∧ e'.u = 0 ∧ (chE w (guardF 1)).1 = (packN (up1 e') : Nat) ∧ (up1 e').may := by
 have hm := (pack_unpack hu).2
 refine ⟨e, hm, hv, hk, h0, ?_, up1_may hm hv hk⟩
 have hg : guardF 1 e = (0, up1 e) := by
  unfold guardF up1
  rw [if_neg (by decide), h0]
  rfl
 rw [chE_okY hu hv hg (up1_may hm hv hk)]
theorem guard_down {e : Ent} (hm : e.may) (hv : e.lv = true) (hk : e.lk = false) (h0 : e.u = 0) (hm1 : (up1 e).may) :
  chE (packN (up1 e) : Nat) (guardF (-1)) = (((packN e : Nat) : Int), 0) := by
 refine chE_okY (unpack_pack hm1) hv ?_ hm
 unfold guardF up1
 rw [if_neg (by decide)]
 obtain ⟨a, b, p, u, k, v⟩ := e
 simp only at h0
 subst h0
 rfl
theorem wr_near (hm : c.may) (hl : (ws.length : Int) = wordsI c) {s : Wr} (h : JM c ws (.wr s)) : Near c (.wr s) (mxS c (.wr s) ws bs) := by
 unfold Near mxS
 simp only
 rcases h with ⟨h1, hs⟩ | ⟨h2, hs, he, hc, e, hu, hv⟩ | ⟨h3, hw⟩ | ⟨h6, hw, hc⟩
 ·unfold wrS
  rw [if_pos h1]
  by_cases he : (ofR s.h c.S).2.2 ≠ 0
  ·rw [if_pos he]; exact hs
  ·rw [if_neg he]
   have he : (ofR s.h c.S).2.2 = 0 := by omega
   have ho := ofR_ok he
   cases hf : freshE ws c (ofR s.h c.S).1 (ofR s.h c.S).2.1 with
   | none => exact hs
   | some e =>
     have hg := fresh_get hf
     have hk := still_at hs he hg.1
     unfold wrLook
     simp only
     rw [if_pos (show e.lk = false ∧ e.u < 15 from ⟨hk.1, by omega⟩)]
     exact ⟨.inr (.inl ⟨rfl, hs, he, cas_slot hm hl ho.1 ho.2.1, e, hg.1, hg.2⟩), by simp [muM, h1]⟩
 ·unfold wrS
  rw [if_neg (show ¬ s.nx = 1 by omega), if_pos h2, if_pos hc]
  have ho := ofR_ok he
  have hcg := cas_get hc
  have hk := still_at hs he (e := e) (by
   have : getI ws (slotI c (ofR s.h c.S).1 0) = s.word := hcg.2.2
   rw [this]; exact hu)
  obtain ⟨e', q1, q2, q3, q4, q5, q6⟩ := guard_up hu hv hk.1 hk.2
  refine ⟨.inr (.inr (.inl ⟨.inl rfl, he, fun s' h0 h1 hne => ?_, e', q1, q2, q3, q4, ?_, q6⟩)), by simp [muM, h2]⟩
  ·have hne : s' ≠ (ofR s.h c.S).1 := hne
   rw [getI_neY]
   ·exact hs s' h0 h1
   ·have e1 := slot_at (c := c) 0 h0 h1
    have e2 := slot_at (c := c) 0 ho.1 ho.2.1
    unfold wrG
    omega
  ·show getI (setI ws (wrG c s) (chE s.word (guardF 1)).1) (wrG c s) = _
   rw [getI_sameY hcg.1 hcg.2.1, q5]
 ·rcases h3 with h3 | h3 | h3
  ·unfold wrS
   rw [if_neg (show ¬ s.nx = 1 by omega), if_neg (show ¬ s.nx = 2 by omega), if_pos h3]
   by_cases hg : s.off < 0 ∨ getI ws (slotI c (ofR s.h c.S).1 1) ≤ s.off
   ·rw [if_pos hg]; exact ⟨.inr (.inr (.inl ⟨.inr (.inr rfl), hw⟩)), by simp [muM, h3]⟩
   ·rw [if_neg hg]; exact ⟨.inr (.inr (.inl ⟨.inr (.inl rfl), hw⟩)), by simp [muM, h3]⟩
  ·unfold wrS
   rw [if_neg (show ¬ s.nx = 1 by omega), if_neg (show ¬ s.nx = 2 by omega), if_neg (show ¬ s.nx = 3 by omega), if_pos h3]
   exact ⟨.inr (.inr (.inl ⟨.inr (.inr rfl), hw⟩)), by simp [muM, h3]⟩
  ·unfold wrS
   rw [if_neg (show ¬ s.nx = 1 by omega), if_neg (show ¬ s.nx = 2 by omega), if_neg (show ¬ s.nx = 3 by omega), if_neg (show ¬ s.nx = 4 by omega), if_pos h3]
   have ho := ofR_ok hw.1
   exact ⟨.inr (.inr (.inr ⟨rfl, hw, cas_slot hm hl ho.1 ho.2.1⟩)), by simp [muM, h3]⟩
 ·unfold wrS
  rw [if_neg (show ¬ s.nx = 1 by omega), if_neg (show ¬ s.nx = 2 by omega), if_neg (show ¬ s.nx = 3 by omega), if_neg (show ¬ s.nx = 4 by omega), if_neg (show ¬ s.nx = 5 by omega), if_pos h6]
  obtain ⟨he, hx, e, q1, q2, q3, q4, q5, q6⟩ := hw
  have ho := ofR_ok he
  have hcg := cas_get hc
  have hw : s.word = (packN (up1 e) : Nat) := by rw [← hcg.2.2]; exact q5
  have hd := guard_down q1 q2 q3 q4 q6
  rw [hw] at hc ⊢
  rw [hd]
  rw [if_neg (by simp), if_pos hc]
  show Still c (setI ws (wrG c s) (packN e : Nat))
  intro s' h0 h1
  by_cases hne : s' = (ofR s.h c.S).1
  ·subst hne
   have : getI (setI ws (wrG c s) (packN e : Nat)) (slotI c (ofR s.h c.S).1 0) = (packN e : Nat) := getI_sameY hcg.1 hcg.2.1
   rw [this]
   intro e' he'
   rw [unpack_pack q1] at he'
   injection he' with he'
   subst he'
   exact ⟨q3, q4⟩
  ·rw [getI_neY]
   ·exact hx s' h0 h1 hne
   ·have e1 := slot_at (c := c) 0 h0 h1
    have e2 := slot_at (c := c) 0 ho.1 ho.2.1
    unfold wrG
    omega

theorem low_other (hm : c.may) (hs : Still c ws) {i n : Int} (h1 : i < 4) : Still c (setI ws i n) := by
 refine hs.other hm (.inl ?_)
 unfold Cfg.may at hm
 omega
theorem al_word {w : Int} {e : Ent} (he : e.lk = false ∧ e.u = 0) (hw : w = packI e) : En0 w := by
 intro e' hu
 subst hw
 unfold packI at hu
 split at hu
 ·rename_i hm
  rw [unpack_pack hm] at hu
  injection hu with hu
  subst hu
  exact he
 ·have : unpackE 0 = some Ent.zero := by decide
  rw [this] at hu
  injection hu with hu
  subst hu
  exact ⟨rfl, rfl⟩
set_option maxHeartbeats 1600000 in
theorem al_near (hm : c.may) (hl : (ws.length : Int) = wordsI c) {s : Al} (h : JM c ws (.al s)) : Near c (.al s) (mxS c (.al s) ws bs) := by
 obtain ⟨hs, hn, a0, p0, j2, j3, j5, j6, j7, by_, j10, j12⟩ := h
 unfold Near mxS
 simp only
 unfold alS
 rw [if_neg (show ¬ s.nx = 0 by omega)]
 by_cases h1 : s.nx = 1
 ·rw [if_pos h1]
  by_cases g : bytesI s.n = 0
  ·rw [if_pos g]; exact hs
  ·rw [if_neg g]
   have hb := (bytesI_le s.n).1
   exact ⟨⟨hs, by simp, fun _ => a0 (by omega), fun _ => p0 (by omega), fun _ => cas_low hm hl (by decide) (by decide), by simp, by simp, by simp, by simp, fun _ => by show 0 < bytesI s.n; omega, by simp, by simp⟩, by simp [muM, muA, h1]⟩
 rw [if_neg h1]
 by_cases h2 : s.nx = 2
 ·rw [if_pos h2, if_pos (j2 h2)]
  have hp := p0 (by omega)
  exact ⟨⟨low_other hm hs (by decide), by simp, fun _ => a0 (by omega), by simp, by simp, fun _ h => by simp only at h; omega, by simp, by simp, by simp, fun _ => by_ (by omega), by simp, by simp⟩, by simp [muM, muA, muP, h2, hp]⟩
 rw [if_neg h2]
 by_cases h3 : s.nx = 3
 ·rw [if_pos h3]
  have hh := pop_near hm hl hs (j3 h3)
  unfold alTake
  cases hd : (popS c s.p ws).2.2.2.2 with
  | true =>
    simp only [if_true]
    by_cases hk : (popS c s.p ws).2.2.2.1 ≠ 0
    ·rw [if_pos hk]
     exact ⟨⟨hh.1, by simp, by simp, by simp, by simp, by simp, by simp, by simp, by simp, fun _ => by_ (by omega), by simp, by simp⟩, by simp [muM, muA, h3]; omega⟩
    ·rw [if_neg hk]
     exact ⟨⟨hh.1, by simp, fun _ => a0 (by omega), by simp, by simp, by simp, by simp, by simp, by simp, fun _ => by_ (by omega), by simp, by simp⟩, by simp [muM, muA, h3]; omega⟩
  | false =>
    have h4 := hh.2 hd
    simp only [Bool.false_eq_true, if_false]
    refine ⟨⟨hh.1, hn, fun _ => a0 (by omega), fun h => ?_, fun h => ?_, fun _ => h4.1, fun h => ?_, fun h => ?_, fun h => ?_, fun _ => by_ (by omega), fun h => ?_, fun h => ?_⟩, ?_⟩
    ·simp only at h; omega
    ·simp only at h; omega
    ·simp only at h; omega
    ·simp only at h; omega
    ·simp only at h; omega
    ·simp only at h; omega
    ·simp only at h; omega
    ·simp [muM, muA, h3]; exact h4.2
 rw [if_neg h3]
 by_cases h4 : s.nx = 4
 ·rw [if_pos h4]
  by_cases g : getI ws 0 < 0 ∨ w64 (c.A - bytesI s.n) < getI ws 0
  ·rw [if_pos g]
   exact ⟨⟨hs, by simp, fun _ => a0 (by omega), by simp, by simp, by simp, by simp, fun _ h => by simp at h, by simp, fun _ => by_ (by omega), by simp, by simp⟩, by simp [muM, muA, muP, h4]⟩
  ·rw [if_neg g]
   exact ⟨⟨hs, by simp, fun _ => a0 (by omega), by simp, by simp, by simp, fun _ => cas_low hm hl (by decide) (by decide), by simp, by simp, fun _ => by_ (by omega), by simp, by simp⟩, by simp [muM, muA, h4]⟩
 rw [if_neg h4]
 by_cases h5 : s.nx = 5
 ·rw [if_pos h5, if_pos (j5 h5)]
  have hb := bytesI_le s.n
  have h0 := a0 (by omega)
  have hp := by_ (by omega)
  exact ⟨⟨low_other hm hs (by decide), by simp, by simp, by simp, by simp, by simp, by simp, by simp, fun _ => by simp only; omega, fun _ => hp, by simp, by simp⟩, by simp [muM, muA, h5]; omega⟩
 rw [if_neg h5]
 by_cases h6 : s.nx = 6
 ·rw [if_pos h6]
  have hh := push_near hm hl hs (j6 h6)
  unfold alGive
  cases hd : (pushS c s.q ws).2.2.2 with
  | true =>
    simp only [if_true]
    exact ⟨⟨hh.1, by simp, by simp, by simp, by simp, by simp, by simp, by simp, by simp, fun _ => by_ (by omega), by simp, by simp⟩, by simp [muM, muA, h6]; omega⟩
  | false =>
    have h4 := hh.2 hd
    simp only [Bool.false_eq_true, if_false]
    refine ⟨⟨hh.1, hn, fun _ => a0 (by omega), fun h => ?_, fun h => ?_, fun h => ?_, fun h => ?_, fun _ => h4.1, fun h => ?_, fun _ => by_ (by omega), fun h => ?_, fun h => ?_⟩, ?_⟩
    ·simp only at h; omega
    ·simp only at h; omega
    ·simp only at h; omega
    ·simp only at h; omega
    ·simp only at h; omega
    ·simp only at h; omega
    ·simp only at h; omega
    ·simp [muM, muA, h6]; exact h4.2
 rw [if_neg h6]
 by_cases h7 : s.nx = 7
 ·rw [if_pos h7]
  have hb := bytesI_le s.n
  have ha := j7 h7
  have hw : w64 (s.at_ + 1) = s.at_ + 1 := wrap_id (by omega) (by omega)
  rw [hw]
  by_cases g : s.at_ + 1 = bytesI s.n
  ·rw [if_pos g]
   exact ⟨⟨hs, by simp, by simp, by simp, by simp, by simp, by simp, by simp, by simp, fun _ => by_ (by omega), by simp, by simp⟩, by simp [muM, muA, h7]; omega⟩
  ·rw [if_neg g]
   refine ⟨⟨hs, hn, fun h => ?_, fun h => ?_, fun h => ?_, fun h => ?_, fun h => ?_, fun h => ?_, fun _ => by simp only; omega, fun _ => by_ (by omega), fun h => ?_, fun h => ?_⟩, ?_⟩
   ·simp only at h; omega
   ·simp only at h; omega
   ·simp only at h; omega
   ·simp only at h; omega
   ·simp only at h; omega
   ·simp only at h; omega
   ·simp only at h; omega
   ·simp only at h; omega
   ·simp [muM, muA, h7]; omega
 rw [if_neg h7]
 by_cases h8 : s.nx = 8
 ·rw [if_pos h8]
  exact ⟨⟨hs.other hm (.inr ⟨s.slot, 1, rfl, .inl rfl⟩), by simp, by simp, by simp, by simp, by simp, by simp, by simp, by simp, fun _ => by_ (by omega), by simp, by simp⟩, by simp [muM, muA, h8]⟩
 rw [if_neg h8]
 by_cases h9 : s.nx = 9
 ·rw [if_pos h9]
  unfold alLook
  cases unpackE (getI ws (slotI c s.slot 0)) with
  | none => exact ⟨⟨hs, by simp, by simp, by simp, by simp, by simp, by simp, by simp, by simp, fun _ => by_ (by omega), by simp, by simp⟩, by simp [muM, muA, h9]⟩
  | some e =>
    simp only
    by_cases hv : e.lv = true
    ·rw [if_pos hv]
     exact ⟨⟨hs, by simp, by simp, by simp, by simp, by simp, by simp, by simp, by simp, fun _ => by_ (by omega), by simp, by simp⟩, by simp [muM, muA, h9]⟩
    ·rw [if_neg hv]
     exact ⟨⟨hs, by simp, by simp, by simp, by simp, by simp, by simp, by simp, by simp, fun _ => by_ (by omega), fun _ _ => al_word ⟨rfl, rfl⟩ rfl, by simp⟩, by simp [muM, muA, h9]⟩
 rw [if_neg h9]
 by_cases h10 : s.nx = 10
 ·rw [if_pos h10]
  have hs' : Still c (if s.kept = 0 then setI ws (slotI c s.slot 0) s.word else ws) := by
   by_cases g : s.kept = 0
   ·rw [if_pos g]; exact hs.entry hm (j10 h10 g)
   ·rw [if_neg g]; exact hs
  exact ⟨⟨hs', by simp, by simp, by simp, by simp, by simp, by simp, by simp, by simp, fun _ => by_ (by omega), by simp, by simp⟩, by simp [muM, muA, h10]⟩
 rw [if_neg h10]
 by_cases h11 : s.nx = 11
 ·rw [if_pos h11]
  exact ⟨⟨hs, by simp, by simp, by simp, by simp, by simp, by simp, by simp, by simp, fun _ => by_ (by omega), by simp, fun _ => cas_low hm hl (by decide) (by decide)⟩, by simp [muM, muA, h11]⟩
 rw [if_neg h11]
 have h12 : s.nx = 12 := by omega
 rw [if_pos (j12 h12)]
 exact low_other hm hs (by decide)

theorem mx_near (hm : c.may) (hl : (ws.length : Int) = wordsI c) {m : Mx} (h : JM c ws m) : Near c m (mxS c m ws bs) := by
 cases m with
 | al s => exact al_near hm hl h
 | fe s => exact fe_near hm hl h
 | rd s => exact rd_near h
 | wr s => exact wr_near hm hl h
 | pn s => exact pn_near hm hl h
 | no => exact h
theorem mkM_near (o : Op4) (h : Still c ws) : JM c ws (mkM o) ∧ muM (mkM o) ≤ 600 := by
 unfold mkM
 repeat' split
 all_goals first
  | exact ⟨⟨h, .inl rfl⟩, by simp [muM, rd0, pn0, fe0]⟩
  | exact ⟨.inl ⟨rfl, h⟩, by simp [muM, wr0]⟩
  | exact ⟨⟨h, by simp [al0], fun _ => rfl, fun _ => rfl, by simp [al0], by simp [al0], by simp [al0], by simp [al0], by simp [al0], by simp [al0], by simp [al0], by simp [al0]⟩, by simp [muM, muA, al0]⟩
  | exact ⟨h, by simp [muM]⟩
end
end Go.Proofs.YtnfcohmbcgfhbaaGreat

/- A thread alone comes to an end; a program that goes on. The plain law. -/
namespace Go.Proofs.YtnfcohmbcgfhbaaGreat
open Go Go.Ir

def TJ (c : Cfg) (ws : List Int) (t : Th) : Prop := 0 ≤ t.nx ∧ t.nx ≤ 3 ∧ (t.nx = 2 → JM c ws t.m ∧ muM t.m ≤ 600) ∧ (t.nx ≠ 2 → Still c ws)
def muT (t : Th) : Nat := 700 * t.ops.length + (if t.nx = 0 then 604 else if t.nx = 1 then 603 else if t.nx = 2 then 1 + muM t.m else 1)
def cnt (t : Th) : Nat := 2 * t.ops.length - (if t.nx = 0 then 0 else 1)

section
variable {c : Cfg} {ws bs : List Int}
theorem note_other (hm : c.may) (h : Still c ws) {k n : Int} : Still c (setI ws (noteI c k) n) := by
 refine h.other hm (.inl ?_)
 unfold Cfg.may at hm
 unfold noteI
 split <;> omega
theorem muP_pos (p : Sk) : 0 < muP p := by unfold muP; split <;> (try split) <;> decide
theorem muM_pos (m : Mx) : 0 < muM m := by
 cases m with
 | al s =>
   have h1 := muP_pos s.p
   have h2 := muP_pos s.q
   simp only [muM, muA]
   repeat' split
   all_goals omega
 | fe s =>
   have h1 := muP_pos s.p
   simp only [muM]
   repeat' split
   all_goals omega
 | rd s => simp only [muM]; repeat' split
           all_goals omega
 | wr s => simp only [muM]; repeat' split
           all_goals omega
 | pn s => simp only [muM]; repeat' split
           all_goals omega
 | no => exact Nat.one_pos
theorem th_near (hm : c.may) (hl : (ws.length : Int) = wordsI c) (hr : Rng ws) {t : Th} (hg : t.rg) (h : TJ c ws t) {o : Op4} {r : List Op4} (ho : t.ops = o :: r) :
  TJ c (thS c t ws bs).2.1 (thS c t ws bs).1 ∧ muT (thS c t ws bs).1 < muT t ∧ cnt (thS c t ws bs).1 + (thS c t ws bs).2.2.2.length = cnt t := by
 obtain ⟨n0, n3, hj, hs⟩ := h
 unfold thS
 rw [ho]
 simp only
 by_cases h0 : t.nx = 0
 ·rw [if_pos h0]
  exact ⟨⟨by simp, by simp, by simp, fun _ => hs (by omega)⟩, by simp [muT, h0, ho], by simp [cnt, h0, ho]; omega⟩
 rw [if_neg h0]
 by_cases h1 : t.nx = 1
 ·rw [if_pos h1]
  have hs' := note_other hm (hs (by omega)) (k := t.num) (n := w64 (t.ep + 1))
  have hk := mkM_near o hs'
  exact ⟨⟨by simp, by simp, fun _ => hk, fun h => absurd rfl h⟩, by simp [muT, h1, ho]; omega, by simp [cnt, h1, ho]⟩
 rw [if_neg h1]
 by_cases h2 : t.nx = 2
 ·rw [if_pos h2]
  have hj2 := hj h2
  have hn := mx_near (bs := bs) hm hl hj2.1
  have hp := muM_pos t.m
  unfold Near at hn
  unfold thW
  generalize mxS c t.m ws bs = R at hn
  obtain ⟨m', w', b', oc⟩ := R
  simp only at hn ⊢
  cases oc with
  | none =>
    simp only at hn ⊢
    exact ⟨⟨n0, n3, fun _ => ⟨hn.1, by simp only; omega⟩, fun h => absurd h2 h⟩, by simp [muT, h2, ho]; exact hn.2, by simp [cnt, h2, ho]⟩
  | some q =>
    simp only at hn ⊢
    exact ⟨⟨by simp, by simp, by simp, fun _ => hn⟩, by simp [muT, h2, ho]; omega, by simp [cnt, h2, ho]⟩
 rw [if_neg h2]
 have h3 : t.nx = 3 := by omega
 exact ⟨⟨by simp, by simp, by simp, fun _ => note_other hm (hs (by omega))⟩, by simp [muT, h3, ho]; omega, by simp [cnt, h3, ho]; omega⟩

def more (t : Th) (q : List Op4) : Th := { t with ops := t.ops ++ q }
theorem th_more {t : Th} {q : List Op4} (h : t.ops ≠ []) : thS c (more t q) ws bs = (more (thS c t ws bs).1 q, (thS c t ws bs).2.1, (thS c t ws bs).2.2.1, (thS c t ws bs).2.2.2) := by
 cases ho : t.ops with
 | nil => exact absurd ho h
 | cons o r =>
   obtain ⟨num, ops, nx, ep, m, cd, nn⟩ := t
   simp only at ho
   subst ho
   unfold thS more
   simp only [List.cons_append]
   by_cases h0 : nx = 0
   ·rw [if_pos h0, if_pos h0]; rfl
   rw [if_neg h0, if_neg h0]
   by_cases h1 : nx = 1
   ·rw [if_pos h1, if_pos h1]; rfl
   rw [if_neg h1, if_neg h1]
   by_cases h2 : nx = 2
   ·rw [if_pos h2, if_pos h2]
    unfold thW
    split <;> rfl
   ·rw [if_neg h2, if_neg h2]

def runT (c : Cfg) : Nat → Th → List Int → List Int → List (List Value) × Th × List Int × List Int
 | 0, t, ws, bs => ([], t, ws, bs)
 | n + 1, t, ws, bs => if t.ops = [] then ([], t, ws, bs) else ((thS c t ws bs).2.2.2 ++ (runT c n (thS c t ws bs).1 (thS c t ws bs).2.1 (thS c t ws bs).2.2.1).1, (runT c n (thS c t ws bs).1 (thS c t ws bs).2.1 (thS c t ws bs).2.2.1).2)
theorem run_done (hm : c.may) : ∀ (n : Nat) {ws bs : List Int} {t : Th}, (ws.length : Int) = wordsI c → Rng ws → t.rg → TJ c ws t → (t.ops ≠ [] → muT t ≤ n) → (runT c n t ws bs).2.1.ops = [] ∧ (runT c n t ws bs).1.length = (if t.ops = [] then 0 else cnt t)
 | 0, ws, bs, t, hl, hr, hg, hj, hn => by
   by_cases h : t.ops = []
   ·exact ⟨h, by rw [if_pos h]; rfl⟩
   ·have := hn h
    have hp : 0 < muT t := by
     unfold muT
     have : 0 < t.ops.length := List.length_pos_iff.2 h
     omega
    omega
 | n + 1, ws, bs, t, hl, hr, hg, hj, hn => by
   unfold runT
   by_cases h : t.ops = []
   ·rw [if_pos h, if_pos h]; exact ⟨h, rfl⟩
   ·rw [if_neg h, if_neg h]
    have hn := hn h
    cases ho : t.ops with
    | nil => exact absurd ho h
    | cons o r =>
      obtain ⟨a1, a2, a3⟩ := th_near (bs := bs) hm hl hr hg hj ho
      have hk := thS_rng (c := c) (bs := bs) hr hg
      have ih := run_done hm n (bs := (thS c t ws bs).2.2.1) (by rw [hk.2.2.1]; exact hl) hk.1 hk.2.1 a1 (fun _ => by omega)
      refine ⟨ih.1, ?_⟩
      simp only [List.length_append]
      rw [ih.2]
      split
      ·rename_i he
       have : cnt (thS c t ws bs).1 = 0 := by unfold cnt; rw [he]; simp
       omega
      ·omega
theorem run_more (hm : c.may) : ∀ (n : Nat) {k : Nat} {ws bs : List Int} {t : Th} {q : List Op4}, (ws.length : Int) = wordsI c → Rng ws → t.rg → TJ c ws t → n ≤ k → (t.ops ≠ [] → muT t ≤ n) → ∃ l, (runT c k (more t q) ws bs).1 = (runT c n t ws bs).1 ++ l
 | 0, k, ws, bs, t, q, hl, hr, hg, hj, hk, hn => ⟨(runT c k (more t q) ws bs).1, rfl⟩
 | n + 1, k, ws, bs, t, q, hl, hr, hg, hj, hk, hn => by
   by_cases h : t.ops = []
   ·refine ⟨(runT c k (more t q) ws bs).1, ?_⟩
    have : (runT c (n + 1) t ws bs).1 = [] := by unfold runT; rw [if_pos h]
    rw [this]; rfl
   ·have hn := hn h
    obtain ⟨k, rfl⟩ : ∃ k', k = k' + 1 := ⟨k - 1, by omega⟩
    cases ho : t.ops with
    | nil => exact absurd ho h
    | cons o r =>
      obtain ⟨a1, a2, a3⟩ := th_near (bs := bs) hm hl hr hg hj ho
      have hkk := thS_rng (c := c) (bs := bs) hr hg
      obtain ⟨l, ih⟩ := run_more hm n (k := k) (q := q) (bs := (thS c t ws bs).2.2.1) (by rw [hkk.2.2.1]; exact hl) hkk.1 hkk.2.1 a1 (by omega) (fun _ => by omega)
      refine ⟨l, ?_⟩
      have hne : (more t q).ops ≠ [] := by unfold more; rw [ho]; simp
      have e1 : (runT c (k + 1) (more t q) ws bs).1 = (thS c (more t q) ws bs).2.2.2 ++ (runT c k (thS c (more t q) ws bs).1 (thS c (more t q) ws bs).2.1 (thS c (more t q) ws bs).2.2.1).1 := by
       show (if (more t q).ops = [] then _ else _ : List (List Value) × Th × List Int × List Int).1 = _
       rw [if_neg hne]
      have e2 : (runT c (n + 1) t ws bs).1 = (thS c t ws bs).2.2.2 ++ (runT c n (thS c t ws bs).1 (thS c t ws bs).2.1 (thS c t ws bs).2.2.1).1 := by
       show (if t.ops = [] then _ else _ : List (List Value) × Th × List Int × List Int).1 = _
       rw [if_neg h]
      rw [e1, e2, th_more h]
      simp only
      rw [ih, List.append_assoc]
end
end Go.Proofs.YtnfcohmbcgfhbaaGreat

