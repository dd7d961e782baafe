/- Machines that have not qqR; a thread's coming in: by the program, and by the document. -/
import Derived.Test.YtnfcohmbcgfhbaaGreatThreadP9
import Derived.Test.YtnfcohmbcgfhbaaGreatThreadP7
import Derived.Test.YtnfcohmbcgfhbaaGreatThreadP5
import Derived.Test.YtnfcohmbcgfhbaaGreatThreadP1
set_option linter.unusedVariables false
set_option linter.unusedSimpArgs false

namespace Go.Proofs.YtnfcohmbcgfhbaaGreat
open Go Go.Ir

theorem qn9 {H : qab} {o : Nat} {s : Option Nat} {cs : List Value} {ro : Bool} {v : Value} (hv : cs[o]? = some v) : qav (H ++ [.row cs ro]) none ⟨H.length, o, s⟩ = some v := qin List.getElem?_concat_length hv
theorem qoa {lo : Nat} {H : qab} {o : Nat} {s : Option Nat} {cs vs w : List Value} (hlo : lo ≤ H.length) (ho : o + vs.length ≤ cs.length) (hw : splice cs o vs = w) : stN lo (H ++ [.row cs false]) ⟨H.length, o, s⟩ vs = some (H ++ [.row w false]) :=
 (qip List.getElem?_concat_length hlo ho hw).trans (by rw [List.set_append_right _ _ (Nat.le_refl _), Nat.sub_self]; rfl)

def rd0 (h off : Int) : Rd := ⟨h, off, 1, Ent.zero, 0, 0⟩
def wr0 (h off v : Int) : Wr := ⟨h, off, v, 1, 0, 0, 0, false⟩
def pn0 (h : Int) (un : Bool) : Pn := ⟨h, un, 1, 0, 0⟩
def fe0 (h : Int) : Fe := ⟨h, 1, 0, ⟨0, 0, 0, 0⟩⟩
def al0 (n : Int) : Al := ⟨n, 1, 0, 0, 0, 0, 0, 0, 0, false, ⟨1, 0, 0, 0⟩, ⟨0, 0, 0, 0⟩⟩

section
variable {c : Cfg}
theorem qob (H : qab) (hm : c.may) : ∀ lo, qfV En lo Id.zbE [.agg #[I c.A, I c.S, I c.T]] H = some (.tuple #[lay c.T c.S, I 0], H) := fun lo => qjf lo H hm

set_option maxHeartbeats 3200000 in
theorem qoc (H : qab) (hm : c.may) {h : Int} (hh : -9223372036854775808 ≤ h ∧ h < 9223372036854775808) (off : Int) :
  qfV En 0 Id.zbQ [.agg #[I c.A, I c.S, I c.T], I h, I off] H = some (qkb H.length, H ++ [.row (qmv c (rd0 h off)) false]) := by
 have hO := qob H hm
 have hf := fun lo (row : List Value) => ql2 lo (H ++ [.row row false]) hh c.S
 unfold ofV at hf
 have hlo : 0 ≤ H.length := Nat.zero_le _
 refine qgx rfl Fn.zbQ rfl rfl ?_
 by_cases hst : (ofR h c.S).2.2 ≠ 0
 ·have qac : qmv c (rd0 h off) = [I c.T, I c.S, I (ofR h c.S).1, I (ofR h c.S).2.1, .bool true, I off, I 1, I 0, I 0, I 0, I 0, .bool false, .bool false, I 0, I 0] := by unfold qmv rd0; simp only [decide_eq_true hst]; rfl
  rw [qac]
  repeat' first | refine .A ?_ | refine .B ?_ | refine .C ?_ | refine .D ?_ | refine .F ?_ | refine .J ?_ | refine .t6 ?_ | refine .f6 ?_ | refine .P (hO _) ?_ | refine .P (hf _ _) ?_ | refine .S (qoa hlo (Nat.le_of_ble_eq_true rfl) rfl) ?_ | refine .Y ?_ | fail
  rfl
 ·have qac : qmv c (rd0 h off) = [I c.T, I c.S, I (ofR h c.S).1, I (ofR h c.S).2.1, .bool false, I off, I 1, I 0, I 0, I 0, I 0, .bool false, .bool false, I 0, I 0] := by unfold qmv rd0; simp only [decide_eq_false hst]; rfl
  rw [qac]
  repeat' first | refine .A ?_ | refine .B ?_ | refine .D ?_ | refine .F ?_ | refine .J ?_ | refine .C ?_ | refine .f6 ?_ | refine .P (hO _) ?_ | refine .P (hf _ _) ?_ | refine .S (qoa hlo (Nat.le_of_ble_eq_true rfl) rfl) ?_ | refine .Y ?_ | fail
  rfl
set_option maxHeartbeats 3200000 in
theorem qod (H : qab) (hm : c.may) {h : Int} (hh : -9223372036854775808 ≤ h ∧ h < 9223372036854775808) (off v : Int) :
  qfV En 0 Id.zdT [.agg #[I c.A, I c.S, I c.T], I h, I off, I v] H = some (qkb H.length, H ++ [.row (qmN c (wr0 h off v)) false]) := by
 have hO := qob H hm
 have hf := fun lo (row : List Value) => ql2 lo (H ++ [.row row false]) hh c.S
 unfold ofV at hf
 have hlo : 0 ≤ H.length := Nat.zero_le _
 by_cases hst : (ofR h c.S).2.2 ≠ 0
 ·have qac : qmN c (wr0 h off v) = [I c.T, I c.S, I (ofR h c.S).1, I (ofR h c.S).2.1, .bool true, I off, I v, I 1, I 0, I 0, I 0, .bool false] := by unfold qmN wr0; simp only [decide_eq_true hst]
  rw [qac]
  clear qac
  generalize ofR h c.S = r at hf hst ⊢
  obtain ⟨sl, g, fc⟩ := r
  simp only at hf hst ⊢
  refine qgx rfl Fn.zdT rfl rfl ?_
  repeat' first | refine .A ?_ | refine .B ?_ | refine .C ?_ | refine .D ?_ | refine .F ?_ | refine .J ?_ | refine .t6 ?_ | refine .f6 ?_ | refine .P (hO _) ?_ | refine .P (hf _ _) ?_ | refine .S (qoa hlo (Nat.le_of_ble_eq_true rfl) rfl) ?_ | refine .Y ?_ | fail
  rfl
 ·have qac : qmN c (wr0 h off v) = [I c.T, I c.S, I (ofR h c.S).1, I (ofR h c.S).2.1, .bool false, I off, I v, I 1, I 0, I 0, I 0, .bool false] := by unfold qmN wr0; simp only [decide_eq_false hst]
  rw [qac]
  clear qac
  generalize ofR h c.S = r at hf hst ⊢
  obtain ⟨sl, g, fc⟩ := r
  simp only at hf hst ⊢
  refine qgx rfl Fn.zdT rfl rfl ?_
  repeat' first | refine .A ?_ | refine .B ?_ | refine .D ?_ | refine .F ?_ | refine .J ?_ | refine .C ?_ | refine .f6 ?_ | refine .P (hO _) ?_ | refine .P (hf _ _) ?_ | refine .S (qoa hlo (Nat.le_of_ble_eq_true rfl) rfl) ?_ | refine .Y ?_ | fail
  rfl
set_option maxHeartbeats 3200000 in
theorem qoe (H : qab) (hm : c.may) {h : Int} (hh : -9223372036854775808 ≤ h ∧ h < 9223372036854775808) (un : Bool) :
  qfV En 0 Id.zbM [.agg #[I c.A, I c.S, I c.T], I h, .bool (!un), qna un] H = some (qkb H.length, H ++ [.row (qnc c (pn0 h un)) false]) := by
 have hO := qob H hm
 have hf := fun lo => ql2 lo H hh c.S
 unfold ofV at hf
 by_cases hst : (ofR h c.S).2.2 ≠ 0
 ·have qac : qnc c (pn0 h un) = [I c.T, I c.S, I (ofR h c.S).1, I (ofR h c.S).2.1, .bool true, qna un, .bool (!un), I 1, I 0, I 0] := by unfold qnc pn0; simp only [decide_eq_true hst]
  rw [qac]
  clear qac
  generalize ofR h c.S = r at hf hst ⊢
  obtain ⟨sl, g, fc⟩ := r
  simp only at hf hst ⊢
  generalize hun : (!un) = nu
  generalize htv : qna un = tv
  have hflat : ∃ f0 : Go.Fn, tv = .func f0 #[] #[] := ⟨_, htv.symm.trans rfl⟩
  obtain ⟨f0, rfl⟩ := hflat
  clear htv hun
  refine qgx rfl Fn.zbM rfl rfl ?_
  repeat' first | refine .A ?_ | refine .B ?_ | refine .D ?_ | refine .F ?_ | refine .J ?_ | refine .C ?_ | refine .t6 ?_ | refine .f6 ?_ | refine .P (hO _) ?_ | refine .P (hf _) ?_ | refine .Y ?_ | fail
  rfl
 ·have qac : qnc c (pn0 h un) = [I c.T, I c.S, I (ofR h c.S).1, I (ofR h c.S).2.1, .bool false, qna un, .bool (!un), I 1, I 0, I 0] := by unfold qnc pn0; simp only [decide_eq_false hst]
  rw [qac]
  clear qac
  generalize ofR h c.S = r at hf hst ⊢
  obtain ⟨sl, g, fc⟩ := r
  simp only at hf hst ⊢
  generalize hun : (!un) = nu
  generalize htv : qna un = tv
  have hflat : ∃ f0 : Go.Fn, tv = .func f0 #[] #[] := ⟨_, htv.symm.trans rfl⟩
  obtain ⟨f0, rfl⟩ := hflat
  clear htv hun
  refine qgx rfl Fn.zbM rfl rfl ?_
  repeat' first | refine .A ?_ | refine .B ?_ | refine .D ?_ | refine .F ?_ | refine .J ?_ | refine .C ?_ | refine .f6 ?_ | refine .P (hO _) ?_ | refine .P (hf _) ?_ | refine .Y ?_ | fail
  rfl
theorem qof (H : qab) (hm : c.may) {h : Int} (hh : -9223372036854775808 ≤ h ∧ h < 9223372036854775808) :
  qfV En 0 Id.zbK [.agg #[I c.A, I c.S, I c.T], I h] H = some (qkb H.length, H ++ [.row (qnc c (pn0 h false)) false]) := by
 have hP := qoe H hm hh false
 refine qgx rfl Fn.zbK rfl rfl ?_
 repeat' first | refine .A ?_ | refine .B ?_ | refine .J ?_ | refine .P hP ?_ | refine .F ?_ | refine .Y ?_ | fail
 rfl
theorem qog (H : qab) (hm : c.may) {h : Int} (hh : -9223372036854775808 ≤ h ∧ h < 9223372036854775808) :
  qfV En 0 Id.zbL [.agg #[I c.A, I c.S, I c.T], I h] H = some (qkb H.length, H ++ [.row (qnc c (pn0 h true)) false]) := by
 have hP := qoe H hm hh true
 refine qgx rfl Fn.zbL rfl rfl ?_
 repeat' first | refine .A ?_ | refine .B ?_ | refine .J ?_ | refine .P hP ?_ | refine .F ?_ | refine .Y ?_ | fail
 rfl
set_option maxHeartbeats 3200000 in
theorem qoh (H : qab) (hm : c.may) {h : Int} (hh : -9223372036854775808 ≤ h ∧ h < 9223372036854775808) :
  qfV En 0 Id.zba [.agg #[I c.A, I c.S, I c.T], I h] H = some (qkb H.length, H ++ [.row (qns c (fe0 h) 0 false (.pointer none)) false]) := by
 have hO := qob H hm
 have hf := fun lo => ql2 lo H hh c.S
 unfold ofV at hf
 refine qgx rfl Fn.zba rfl rfl ?_
 by_cases hst : (ofR h c.S).2.2 ≠ 0
 ·have qac : qns c (fe0 h) 0 false (.pointer none) = [I c.T, I c.S, I (ofR h c.S).1, I (ofR h c.S).2.1, .bool true, I 1, I 0, I 0, .bool false, .pointer none] := by unfold qns fe0; simp only [decide_eq_true hst]
  rw [qac]
  repeat' first | refine .A ?_ | refine .B ?_ | refine .D ?_ | refine .F ?_ | refine .J ?_ | refine .C ?_ | refine .t6 ?_ | refine .f6 ?_ | refine .P (hO _) ?_ | refine .P (hf _) ?_ | refine .Y ?_ | fail
  rfl
 ·have qac : qns c (fe0 h) 0 false (.pointer none) = [I c.T, I c.S, I (ofR h c.S).1, I (ofR h c.S).2.1, .bool false, I 1, I 0, I 0, .bool false, .pointer none] := by unfold qns fe0; simp only [decide_eq_false hst]
  rw [qac]
  repeat' first | refine .A ?_ | refine .B ?_ | refine .D ?_ | refine .F ?_ | refine .J ?_ | refine .C ?_ | refine .f6 ?_ | refine .P (hO _) ?_ | refine .P (hf _) ?_ | refine .Y ?_ | fail
  rfl
set_option maxHeartbeats 3200000 in
theorem qoi (H : qab) (hm : c.may) (n : Int) :
  qfV En 0 Id.zak [.agg #[I c.A, I c.S, I c.T], I n] H = some (qkb (H.length + 1), H ++ [.row (qle c ⟨1, 0, 0, 0⟩) false] ++ [.row (qnO c (al0 n) H.length (.pointer none)) false]) := by
 have hO := qob H hm
 have hP := fun lo => qnw lo H c
 have hl : (H ++ [Blk.row (qle c ⟨1, 0, 0, 0⟩) false]).length = H.length + 1 := by simp
 rw [← hl]
 have hR := fun lo (row : List Value) => qka lo (H ++ [.row (qle c ⟨1, 0, 0, 0⟩) false] ++ [.row row false]) n
 have hq : ∃ q : Int, qj9 n = .tuple #[I (qnH n), I q] := by
  unfold qj9 qnH
  split
  ·exact ⟨0, rfl⟩
  ·exact ⟨9, rfl⟩
 obtain ⟨q, hq⟩ := hq
 rw [hq] at hR
 generalize hg : H ++ [Blk.row (qle c ⟨1, 0, 0, 0⟩) false] = H1 at hP hR ⊢
 have hlo : 0 ≤ H1.length := Nat.zero_le _
 refine qgx rfl Fn.zak rfl rfl ?_
 repeat' first | refine .A ?_ | refine .B ?_ | refine .D ?_ | refine .F ?_ | refine .J ?_ | refine .C ?_ | refine .f6 ?_ | refine .P (hO _) ?_ | refine .P (hP _) ?_ | refine .P (hR _ _) ?_ | refine .S (qoa hlo (Nat.le_of_ble_eq_true rfl) rfl) ?_ | refine .Y ?_ | fail
 rfl

theorem qoj (H : qab) (hm : c.may) : ∀ lo, qfV En lo Id.zcw [.agg #[I c.A, I c.S, I c.T]] H = some (.bool true, H) := fun lo => by
 have := qiM lo H c
 rw [decide_eq_true hm] at this
 exact this
theorem qok (H : qab) (hm : c.may) (h off : Int) : qfV En 0 Id.zcW [.agg #[I c.A, I c.S, I c.T], I h, I off] H = some (qkb H.length, H ++ [.row (qmD c (rd0 h off) 0 0) false]) := by
 have hM := fun lo row => qoj (H ++ [Blk.row row false]) hm lo
 refine qgx rfl Fn.zcW rfl rfl ?_
 repeat' first | refine .A ?_ | refine .B ?_ | refine .D ?_ | refine .F ?_ | refine .J ?_ | refine .P (hM _ _) ?_ | refine .Y ?_ | fail
 rfl
theorem qol (H : qab) (hm : c.may) (h off v : Int) : qfV En 0 Id.zdc [.agg #[I c.A, I c.S, I c.T], I h, I off, I v] H = some (qkb H.length, H ++ [.row (qm2 c (wr0 h off v) Ent.zero) false]) := by
 have hM := fun lo row => qoj (H ++ [Blk.row row false]) hm lo
 refine qgx rfl Fn.zdc rfl rfl ?_
 repeat' first | refine .A ?_ | refine .B ?_ | refine .D ?_ | refine .F ?_ | refine .J ?_ | refine .P (hM _ _) ?_ | refine .Y ?_ | fail
 rfl
theorem qom (H : qab) (hm : c.may) (h : Int) (un : Bool) : qfV En 0 Id.zdg [.agg #[I c.A, I c.S, I c.T], I h, .bool un] H = some (qkb H.length, H ++ [.row (qnj c (pn0 h un)) false]) := by
 have hM := fun lo row => qoj (H ++ [Blk.row row false]) hm lo
 refine qgx rfl Fn.zdg rfl rfl ?_
 repeat' first | refine .A ?_ | refine .B ?_ | refine .D ?_ | refine .F ?_ | refine .J ?_ | refine .P (hM _ _) ?_ | refine .Y ?_ | fail
 rfl
theorem qon (H : qab) (hm : c.may) (h : Int) : qfV En 0 Id.zdl [.agg #[I c.A, I c.S, I c.T], I h] H = some (qkb H.length, H ++ [.row (qnz c (fe0 h) (.pointer none)) false]) := by
 have hM := fun lo row => qoj (H ++ [Blk.row row false]) hm lo
 refine qgx rfl Fn.zdl rfl rfl ?_
 repeat' first | refine .A ?_ | refine .B ?_ | refine .D ?_ | refine .F ?_ | refine .J ?_ | refine .P (hM _ _) ?_ | refine .Y ?_ | fail
 rfl
theorem qoo (H : qab) (hm : c.may) (n : Int) : qfV En 0 Id.zcP [.agg #[I c.A, I c.S, I c.T], I n] H = some (qkb H.length, H ++ [.row (qnZ c (al0 n) 1 (.pointer none) (.pointer none)) false]) := by
 have hM := fun lo row => qoj (H ++ [Blk.row row false]) hm lo
 refine qgx rfl Fn.zcP rfl rfl ?_
 repeat' first | refine .A ?_ | refine .B ?_ | refine .D ?_ | refine .F ?_ | refine .J ?_ | refine .P (hM _ _) ?_ | refine .Y ?_ | fail
 rfl

def qop (c : Cfg) (note nx ep : Int) : List Value := [I c.T, I c.S, I note, I nx, I ep]
def qoq (c : Cfg) (num nx ep : Int) : List Value := [I c.A, I c.S, I c.T, I num, I nx, I ep]
theorem qor (H : qab) (hm : c.may) {num : Int} (hn : 0 ≤ qjr c num) : qfV En 0 Id.zaO [.agg #[I c.A, I c.S, I c.T], I num] H = some (qkb H.length, H ++ [.row (qop c (qjr c num) 1 0) false]) := by
 have hO := qob H hm
 have hN := fun lo => qjs lo H hm num
 generalize qjr c num = nt at hn hN ⊢
 refine qgx rfl Fn.zaO rfl rfl ?_
 repeat' first | refine .A ?_ | refine .B ?_ | refine .D ?_ | refine .F ?_ | refine .J ?_ | refine .f1 ?_ | refine .L (qn9 rfl) ?_ | refine .P (hO _) ?_ | refine .P (hN _) ?_ | refine .Y ?_ | fail
 rfl
theorem qos (H : qab) (hm : c.may) {num : Int} (hn : 0 ≤ qjr c num) : qfV En 0 Id.zdo [.agg #[I c.A, I c.S, I c.T], I num] H = some (qkb H.length, H ++ [.row (qoq c num 1 0) false]) := by
 have hN := fun lo (row : List Value) => qlv lo (H ++ [Blk.row row false]) hm num
 have hcs : Value.agg c.cs.toArray = .agg #[I c.A, I c.S, I c.T] := rfl
 rw [hcs] at hN
 generalize qjr c num = nt at hn hN
 refine qgx rfl Fn.zdo rfl rfl ?_
 repeat' first | refine .A ?_ | refine .B ?_ | refine .D ?_ | refine .F ?_ | refine .J ?_ | refine .f1 ?_ | refine .P (hN _ _) ?_ | refine .Y ?_ | fail
 rfl
section
variable {H : qab} {b : Nat} {cb : CB} {ws bs : List Int} {num ep : Int}
theorem qot (d : Did H H b (qop c (qjr c num) 1 ep) cb ws bs) (hm : c.may) (hb : b ≠ cb.P ∧ b ≠ cb.W ∧ b ≠ cb.Y) :
  ∃ H', qfV En 0 Id.zaL [qkb b, ifC cb] H = some (.bool false, H') ∧ Did H H' b (qop c (qjr c num) 2 (qiR ws 3)) cb ws bs := by
 have hlo : 0 ≤ b := Nat.zero_le _
 have hE := fun lo => qjq lo H hm
 obtain ⟨H1, hL, hC1, ho1⟩ := qi1 (lo := 0) d.cells (Nat.zero_le _) 3
 have d1 := d.on hC1 ho1 (by simp) hb
 refine ⟨_, ?_, d1.set hb⟩
 refine qgx rfl Fn.zaL rfl rfl ?_
 repeat' first | refine .A ?_ | refine .B ?_ | refine .C ?_ | refine .D ?_ | refine .F ?_ | refine .J ?_ | refine .t5 ?_ | refine .f5 ?_ | refine .L (qin d.row rfl) ?_ | refine .L (qio d.row (Nat.le_of_ble_eq_true rfl) rfl) ?_ | refine .P (hE _) ?_ | refine .W hL ?_ | refine .S (qip d1.row hlo (Nat.le_of_ble_eq_true rfl) rfl) ?_ | refine .S (qmM (qim d1.row) hlo (Nat.le_of_ble_eq_true rfl) rfl) ?_ | refine .Y ?_ | fail
 rfl
theorem qou (d : Did H H b (qop c (qjr c num) 2 ep) cb ws bs) (hb : b ≠ cb.P ∧ b ≠ cb.W ∧ b ≠ cb.Y) :
  ∃ H', qfV En 0 Id.zaL [qkb b, ifC cb] H = some (.bool true, H') ∧ Did H H' b (qop c (qjr c num) 0 ep) cb (qiS ws (qjr c num) (w64 (ep + 1))) bs := by
 have hlo : 0 ≤ b := Nat.zero_le _
 obtain ⟨H1, hL, hC1, ho1⟩ := qi2 (lo := 0) d.cells (Nat.zero_le _) (Nat.zero_le _) (qjr c num) (w64 (ep + 1))
 have d1 := d.on hC1 ho1 (by simp) hb
 refine ⟨_, ?_, d1.set hb⟩
 refine qgx rfl Fn.zaL rfl rfl ?_
 repeat' first | refine .A ?_ | refine .B ?_ | refine .D ?_ | refine .F ?_ | refine .J ?_ | refine .f5 ?_ | refine .L (qin d.row rfl) ?_ | refine .W hL ?_ | refine .S (qip d1.row hlo (Nat.le_of_ble_eq_true rfl) rfl) ?_ | refine .Y ?_ | fail
 rfl
theorem qov (d : DidR H H b (qoq c num 1 ep) cb ws bs) (hm : c.may) (hb : b ≠ cb.P ∧ b ≠ cb.W ∧ b ≠ cb.Y) :
  ∃ H', qfV En 0 Id.zdm [qkb b, qiX cb] H = some (.bool false, H') ∧ DidR H H' b (qoq c num 2 (qiR ws 3)) cb ws bs := by
 have hlo : 0 ≤ b := Nat.zero_le _
 have hA : ∀ lo, qfV En lo Id.zcv [.agg #[I c.A, I c.S, I c.T], I 3, I 0] H = some (I 3, H) := fun lo => qlu lo H hm (k := 3) (by omega) 0
 obtain ⟨H1, hL, hC1, ho1⟩ := qlq (lo := 0) d.cells (Nat.zero_le _) 3
 have d1 := d.on hC1 ho1 (by simp) hb
 refine ⟨_, ?_, d1.put hb⟩
 refine qgx rfl Fn.zdm rfl rfl ?_
 repeat' first | refine .A ?_ | refine .B ?_ | refine .C ?_ | refine .J ?_ | refine .t5 ?_ | refine .L (qin d.row rfl) ?_ | refine .L (qio d.row (Nat.le_of_ble_eq_true rfl) rfl) ?_ | refine .P (hA _) ?_ | refine .P hL ?_ | refine .S (qip d1.row hlo (Nat.le_of_ble_eq_true rfl) rfl) ?_ | refine .S (qmM (qim d1.row) hlo (Nat.le_of_ble_eq_true rfl) rfl) ?_ | refine .F ?_ | refine .Y ?_ | fail
 rfl
theorem qow (d : DidR H H b (qoq c num 2 ep) cb ws bs) (hm : c.may) (hb : b ≠ cb.P ∧ b ≠ cb.W ∧ b ≠ cb.Y) :
  ∃ H', qfV En 0 Id.zdm [qkb b, qiX cb] H = some (.bool true, H') ∧ DidR H H' b (qoq c num 0 ep) cb (qiS ws (qjr c num) (w64 (ep + 1))) bs := by
 have hlo : 0 ≤ b := Nat.zero_le _
 have hA : ∀ lo, qfV En lo Id.zcv [.agg #[I c.A, I c.S, I c.T], I 4, I num] H = some (I (qjr c num), H) := fun lo => qlv lo H hm num
 obtain ⟨H1, hL, hC1, ho1⟩ := qls (lo := 0) d.cells (Nat.zero_le _) (Nat.zero_le _) (qjr c num) (w64 (ep + 1))
 have d1 := d.on hC1 ho1 (by simp) hb
 refine ⟨_, ?_, d1.put hb⟩
 refine qgx rfl Fn.zdm rfl rfl ?_
 repeat' first | refine .A ?_ | refine .B ?_ | refine .C ?_ | refine .D ?_ | refine .F ?_ | refine .J ?_ | refine .t5 ?_ | refine .f5 ?_ | refine .L (qin d.row rfl) ?_ | refine .L (qio d.row (Nat.le_of_ble_eq_true rfl) rfl) ?_ | refine .X (qin d.row rfl) (qis (qin d.row rfl)) (qkd _) ?_ | refine .P (hA _) ?_ | refine .P hL ?_ | refine .S (qip d1.row hlo (Nat.le_of_ble_eq_true rfl) rfl) ?_ | refine .Y ?_ | fail
 rfl
theorem qox (hC : IsC H cb ws bs) (hm : c.may) (hn : 0 ≤ qjr c num) :
  ∃ H', qfV En 0 Id.zaM [ifC cb, .agg #[I c.A, I c.S, I c.T], I num] H = some (qag, H') ∧ IsC H' cb (qiS ws (qjr c num) 0) bs ∧ Only [cb.P, cb.W] H H' := by
 have hO := qob H hm
 have hN := fun lo => qjs lo H hm num
 obtain ⟨H1, hL, hC1, ho1⟩ := qi2 (lo := 0) hC (Nat.zero_le _) (Nat.zero_le _) (qjr c num) 0
 refine ⟨H1, ?_, hC1, ho1⟩
 generalize qjr c num = nt at hn hN hL
 refine qgx rfl Fn.zaM rfl rfl ?_
 repeat' first | refine .A ?_ | refine .B ?_ | refine .C ?_ | refine .nil rfl ?_ | refine .t4 ?_ | refine .P (hO _) ?_ | refine .P (hN _) ?_ | refine .W hL ?_ | refine .F ?_ | refine .Y ?_ | fail
 rfl
theorem qoy (hC : IsR H cb ws bs) (hm : c.may) (hn : 0 ≤ qjr c num) :
  ∃ H', qfV En 0 Id.zdn [qiX cb, .agg #[I c.A, I c.S, I c.T], I num] H = some (qag, H') ∧ IsR H' cb (qiS ws (qjr c num) 0) bs ∧ Only [cb.P, cb.W] H H' := by
 have hN : ∀ lo, qfV En lo Id.zcv [.agg #[I c.A, I c.S, I c.T], I 4, I num] H = some (I (qjr c num), H) := fun lo => qlv lo H hm num
 obtain ⟨H1, hL, hC1, ho1⟩ := qls (lo := 0) hC (Nat.zero_le _) (Nat.zero_le _) (qjr c num) 0
 refine ⟨H1, ?_, hC1, ho1⟩
 generalize qjr c num = nt at hn hN hL
 refine qgx rfl Fn.zdn rfl rfl ?_
 repeat' first | refine .A ?_ | refine .B ?_ | refine .C ?_ | refine .nil rfl ?_ | refine .t4 ?_ | refine .P (hN _) ?_ | refine .P hL ?_ | refine .F ?_ | refine .Y ?_ | fail
 rfl
end
end
end Go.Proofs.YtnfcohmbcgfhbaaGreat

/- Machines of all kinds, by the program and by the document: one step function. -/
namespace Go.Proofs.YtnfcohmbcgfhbaaGreat
open Go Go.Ir

inductive Mx where
 | al (s : Al)
 | fe (s : Fe)
 | rd (s : Rd)
 | wr (s : Wr)
 | pn (s : Pn)
 | no
def mxS (c : Cfg) (m : Mx) (ws bs : List Int) : Mx × List Int × List Int × Option (Int × Int) :=
 match m with
 | .al s => (.al (alS c s ws bs).1, (alS c s ws bs).2.1, (alS c s ws bs).2.2.1, (alS c s ws bs).2.2.2)
 | .fe s => (.fe (feS c s ws).1, (feS c s ws).2.1, bs, (feS c s ws).2.2)
 | .rd s => (.rd (rdS c s ws bs).1, ws, bs, (rdS c s ws bs).2)
 | .wr s => (.wr (wrS c s ws bs).1, (wrS c s ws bs).2.1, (wrS c s ws bs).2.2.1, (wrS c s ws bs).2.2.2)
 | .pn s => (.pn (pnS c s ws).1, (pnS c s ws).2.1, bs, (pnS c s ws).2.2)
 | .no => (.no, ws, bs, some (1, 0))
def mkM (o : Op4) : Mx :=
 if o.d = 0 then .al (al0 o.n) else if o.d = 1 then .fe (fe0 o.h) else if o.d = 2 then .rd (rd0 o.h o.f) else if o.d = 3 then .wr (wr0 o.h o.f o.n)
 else if o.d = 4 then .pn (pn0 o.h false) else if o.d = 5 then .pn (pn0 o.h true) else .no
def inR (n : Int) : Prop := -9223372036854775808 ≤ n ∧ n < 9223372036854775808
def Mx.ok : Mx → Prop
 | .al s => inR s.n
 | .fe s => inR s.h
 | .rd s => inR s.h
 | .wr s => inR s.h
 | .pn s => inR s.h
 | .no => True

def mxT : Mx → Nat
 | .al _ => alT
 | .fe _ => feT
 | .rd _ => rdT
 | .wr _ => wrT
 | .pn _ => pnT
 | .no => noT
def mxF : Mx → Nat
 | .al _ => Id.zab
 | .fe _ => Id.zaW
 | .rd _ => Id.zbN
 | .wr _ => Id.zdM
 | .pn _ => Id.zbH
 | .no => Id.zdK
def mxR (b : Nat) : Mx → Value
 | .no => .agg #[]
 | _ => qkb b
def mxA (b : Nat) : Mx → Value
 | .al _ => qkb b
 | _ => .pointer none
def MxP (H : qab) (own : List Nat) (c : Cfg) (b : Nat) : Mx → Prop
 | .al s => AlP H own c s b
 | .fe s => FeP H own c s b
 | .rd s => b ∈ own ∧ H[b]? = some (.row (qmv c s) false)
 | .wr s => b ∈ own ∧ H[b]? = some (.row (qmN c s) false)
 | .pn s => b ∈ own ∧ H[b]? = some (.row (qnc c s) false)
 | .no => True

section
variable {H : qab} {own : List Nat} {c : Cfg} {b : Nat} {m : Mx} {cb : CB} {ws bs : List Int}
theorem qoz (hP : MxP H own c b m) (hC : IsC H cb ws bs) (hA : Apart own cb) (hm : c.may) :
  ∃ own' H', qfV En 0 (mxF m) [mxR b m, ifC cb] H = some (qmr (mxS c m ws bs).2.2.2, H') ∧ MxP H' own' c b (mxS c m ws bs).1 ∧ IsC H' cb (mxS c m ws bs).2.1 (mxS c m ws bs).2.2.1 ∧ Grew H H' own own' cb := by
 cases m with
 | al s => exact qnY hP hC hA hm
 | fe s =>
   obtain ⟨own', H', h1, h2, h3, h4, h5, h6⟩ := qny (lo := 0) hP hC hA hm (fun _ _ => Nat.zero_le _) ⟨Nat.zero_le _, Nat.zero_le _⟩
   exact ⟨own', H', h1, h2, h3, h4, h5, h6⟩
 | rd s =>
   obtain ⟨H', h1, d⟩ := qmC (lo := 0) hP.2 hC (hA.at hP.1) hm (Nat.zero_le _) (Nat.zero_le _)
   exact ⟨own, H', h1, ⟨hP.1, d.row⟩, d.cells, .same (d.chg.mono (qnp hP.1))⟩
 | wr s =>
   obtain ⟨H', h1, d⟩ := qmW (lo := 0) hP.2 hC (hA.at hP.1) hm (Nat.zero_le _) ⟨Nat.zero_le _, Nat.zero_le _, Nat.zero_le _⟩
   exact ⟨own, H', h1, ⟨hP.1, d.row⟩, d.cells, .same (d.chg.mono (qnp hP.1))⟩
 | pn s =>
   obtain ⟨H', h1, d⟩ := qni (lo := 0) hP.2 hC (hA.at hP.1) hm (Nat.zero_le _) ⟨Nat.zero_le _, Nat.zero_le _⟩
   exact ⟨own, H', h1, ⟨hP.1, d.row⟩, d.cells, .same (d.chg.mono (qnp hP.1))⟩
 | no =>
   refine ⟨own, H, ?_, trivial, hC, .same (Chg.refl _ _)⟩
   refine qgx rfl Fn.zdK rfl rfl ?_
   repeat' first | refine .A ?_ | refine .B ?_ | refine .J ?_ | refine .F ?_ | refine .Y ?_ | fail
   rfl

theorem qoA (H : qab) (hm : c.may) (o : Op4) :
  ∃ k k0 H', qfV En 0 Id.zdL [.agg #[I c.A, I c.S, I c.T], .agg #[I o.d, I o.h, I o.f, I o.n]] H = some (.tuple #[.iface (mxT (mkM o)) (mxR k (mkM o)), mxA k (mkM o)], H') ∧ Ext H H' ∧ H.length ≤ k ∧ H.length ≤ k0 ∧ MxP H' [k, k0] c k (mkM o) := by
 have hx1 : ∀ r, Ext H (H ++ [Blk.row r false]) := fun r => (Ext.refl H).app _
 unfold mkM
 by_cases h0 : o.d = 0
 ·rw [if_pos h0]
  have hN := qoi H hm o.n
  have hl : (H ++ [Blk.row (qle c ⟨1, 0, 0, 0⟩) false]).length = H.length + 1 := by simp
  refine ⟨H.length + 1, H.length, _, ?_, (hx1 _).app _, by omega, Nat.le_refl _, ⟨by simp, by simp [al0], H.length, .pointer none, by rw [← hl]; exact List.getElem?_concat_length, by
   rw [List.getElem?_append_left (by simp)]; exact List.getElem?_concat_length, by omega, by simp, fun h => by simp [al0] at h⟩⟩
  refine qgx rfl Fn.zdL rfl rfl ?_
  repeat' first | refine .A ?_ | refine .B ?_ | refine .C ?_ | refine .G ?_ | refine .J ?_ | refine .t5 ?_ | refine .P hN ?_ | refine .F ?_ | refine .Y ?_ | fail
  rfl
 rw [if_neg h0]
 by_cases h1 : o.d = 1
 ·rw [if_pos h1]
  have hN := qoh H hm o.hr
  refine ⟨H.length, H.length, _, ?_, hx1 _, Nat.le_refl _, Nat.le_refl _, ⟨by simp, 0, false, .pointer none, List.getElem?_concat_length, fun h => by simp [fe0] at h, fun _ h => by simp [fe0] at h⟩⟩
  refine qgx rfl Fn.zdL rfl rfl ?_
  repeat' first | refine .A ?_ | refine .B ?_ | refine .C ?_ | refine .D ?_ | refine .G ?_ | refine .J ?_ | refine .t5 ?_ | refine .f5 ?_ | refine .P hN ?_ | refine .F ?_ | refine .Y ?_ | fail
  rfl
 rw [if_neg h1]
 by_cases h2 : o.d = 2
 ·rw [if_pos h2]
  have hN := qoc H hm o.hr o.f
  refine ⟨H.length, H.length, _, ?_, hx1 _, Nat.le_refl _, Nat.le_refl _, ⟨by simp, List.getElem?_concat_length⟩⟩
  refine qgx rfl Fn.zdL rfl rfl ?_
  repeat' first | refine .A ?_ | refine .B ?_ | refine .C ?_ | refine .D ?_ | refine .G ?_ | refine .J ?_ | refine .t5 ?_ | refine .f5 ?_ | refine .P hN ?_ | refine .F ?_ | refine .Y ?_ | fail
  rfl
 rw [if_neg h2]
 by_cases h3 : o.d = 3
 ·rw [if_pos h3]
  have hN := qod H hm o.hr o.f o.n
  refine ⟨H.length, H.length, _, ?_, hx1 _, Nat.le_refl _, Nat.le_refl _, ⟨by simp, List.getElem?_concat_length⟩⟩
  refine qgx rfl Fn.zdL rfl rfl ?_
  repeat' first | refine .A ?_ | refine .B ?_ | refine .C ?_ | refine .D ?_ | refine .G ?_ | refine .J ?_ | refine .t5 ?_ | refine .f5 ?_ | refine .P hN ?_ | refine .F ?_ | refine .Y ?_ | fail
  rfl
 rw [if_neg h3]
 by_cases h4 : o.d = 4
 ·rw [if_pos h4]
  have hN := qof H hm o.hr
  refine ⟨H.length, H.length, _, ?_, hx1 _, Nat.le_refl _, Nat.le_refl _, ⟨by simp, List.getElem?_concat_length⟩⟩
  refine qgx rfl Fn.zdL rfl rfl ?_
  repeat' first | refine .A ?_ | refine .B ?_ | refine .C ?_ | refine .D ?_ | refine .G ?_ | refine .J ?_ | refine .t5 ?_ | refine .f5 ?_ | refine .P hN ?_ | refine .F ?_ | refine .Y ?_ | fail
  rfl
 rw [if_neg h4]
 by_cases h5 : o.d = 5
 ·rw [if_pos h5]
  have hN := qog H hm o.hr
  refine ⟨H.length, H.length, _, ?_, hx1 _, Nat.le_refl _, Nat.le_refl _, ⟨by simp, List.getElem?_concat_length⟩⟩
  refine qgx rfl Fn.zdL rfl rfl ?_
  repeat' first | refine .A ?_ | refine .B ?_ | refine .C ?_ | refine .D ?_ | refine .G ?_ | refine .J ?_ | refine .t5 ?_ | refine .f5 ?_ | refine .P hN ?_ | refine .F ?_ | refine .Y ?_ | fail
  rfl
 rw [if_neg h5]
 refine ⟨H.length, H.length, H, ?_, .refl _, Nat.le_refl _, Nat.le_refl _, trivial⟩
 refine qgx rfl Fn.zdL rfl rfl ?_
 repeat' first | refine .A ?_ | refine .B ?_ | refine .D ?_ | refine .F ?_ | refine .G ?_ | refine .H ?_ | refine .J ?_ | refine .C ?_ | refine .f5 ?_ | refine .Y ?_ | fail
 rfl

def qoB (d : Int) (b : Nat) : Mx → List Value
 | .al _ => [I d, qkb b, .pointer none, .pointer none, .pointer none, .pointer none]
 | .fe _ => [I d, .pointer none, qkb b, .pointer none, .pointer none, .pointer none]
 | .rd _ => [I d, .pointer none, .pointer none, qkb b, .pointer none, .pointer none]
 | .wr _ => [I d, .pointer none, .pointer none, .pointer none, qkb b, .pointer none]
 | .pn _ => [I d, .pointer none, .pointer none, .pointer none, .pointer none, qkb b]
 | .no => [I d, .pointer none, .pointer none, .pointer none, .pointer none, .pointer none]
def dOk (d : Int) : Mx → Prop
 | .al _ => d = 0
 | .fe _ => d = 1
 | .rd _ => d = 2
 | .wr _ => d = 3
 | .pn _ => d = 4 ∨ d = 5
 | .no => d < 0 ∨ 5 < d
def MxR (H : qab) (own : List Nat) (c : Cfg) (b : Nat) : Mx → Prop
 | .al s => AlR H own c s b
 | .fe s => FeR H own c s b
 | .rd s => b ∈ own ∧ ∃ kp bb, H[b]? = some (.row (qmD c s kp bb) false) ∧ RdI c s kp bb
 | .wr s => b ∈ own ∧ ∃ e, H[b]? = some (.row (qm2 c s e) false) ∧ WrI c s e
 | .pn s => b ∈ own ∧ H[b]? = some (.row (qnj c s) false) ∧ PnI c s
 | .no => True
structure MyR (H : qab) (own : List Nat) (c : Cfg) (x b : Nat) (d : Int) (m : Mx) : Prop where
 row : H[x]? = some (.row (qoB d b m) false)
 d : dOk d m
 ok : m.ok
 my : MxR H own c b m
 no : x ∉ own

theorem Chg.out {S : List Nat} {H H' : qab} (h : Chg S H H') {x : Nat} {r : Blk} (hr : H[x]? = some r) (hx : x ∉ S) : H'[x]? = some r := h.get hr hx

theorem qoC (s : Al) (r : Sk × List Int × Int × Int × Bool) : (qnK s r).1.n = s.n := by
 unfold qnK
 split
 ·split <;> rfl
 ·rfl
theorem qoD (s : Al) (r : Sk × List Int × Int × Bool) : (qnL s r).1.n = s.n := by unfold qnL; split <;> rfl
theorem qoE (s : Al) (o : Option Ent) : (qnM s o).n = s.n := by
 unfold qnM
 split
 ·rfl
 ·split <;> rfl
theorem qoF (h : m.ok) : (mxS c m ws bs).1.ok := by
 cases m with
 | al s =>
   show inR (alS c s ws bs).1.n
   have : (alS c s ws bs).1.n = s.n := by
    by_cases h0 : s.nx = 0
    ·simp only [alS, if_pos h0]
    by_cases h1 : s.nx = 1
    ·simp only [alS, if_neg h0, if_pos h1]; split <;> rfl
    by_cases h2 : s.nx = 2
    ·simp only [alS, if_neg h0, if_neg h1, if_pos h2]; split <;> rfl
    by_cases h3 : s.nx = 3
    ·simp only [alS, if_neg h0, if_neg h1, if_neg h2, if_pos h3]; exact qoC _ _
    by_cases h4 : s.nx = 4
    ·simp only [alS, if_neg h0, if_neg h1, if_neg h2, if_neg h3, if_pos h4]; split <;> rfl
    by_cases h5 : s.nx = 5
    ·simp only [alS, if_neg h0, if_neg h1, if_neg h2, if_neg h3, if_neg h4, if_pos h5]; split <;> rfl
    by_cases h6 : s.nx = 6
    ·simp only [alS, if_neg h0, if_neg h1, if_neg h2, if_neg h3, if_neg h4, if_neg h5, if_pos h6]; exact qoD _ _
    by_cases h7 : s.nx = 7
    ·simp only [alS, if_neg h0, if_neg h1, if_neg h2, if_neg h3, if_neg h4, if_neg h5, if_neg h6, if_pos h7]; split <;> rfl
    by_cases h8 : s.nx = 8
    ·simp only [alS, if_neg h0, if_neg h1, if_neg h2, if_neg h3, if_neg h4, if_neg h5, if_neg h6, if_neg h7, if_pos h8]
    by_cases h9 : s.nx = 9
    ·simp only [alS, if_neg h0, if_neg h1, if_neg h2, if_neg h3, if_neg h4, if_neg h5, if_neg h6, if_neg h7, if_neg h8, if_pos h9]; exact qoE _ _
    by_cases h10 : s.nx = 10
    ·simp only [alS, if_neg h0, if_neg h1, if_neg h2, if_neg h3, if_neg h4, if_neg h5, if_neg h6, if_neg h7, if_neg h8, if_neg h9, if_pos h10]
    by_cases h11 : s.nx = 11
    ·simp only [alS, if_neg h0, if_neg h1, if_neg h2, if_neg h3, if_neg h4, if_neg h5, if_neg h6, if_neg h7, if_neg h8, if_neg h9, if_neg h10, if_pos h11]
    ·simp only [alS, if_neg h0, if_neg h1, if_neg h2, if_neg h3, if_neg h4, if_neg h5, if_neg h6, if_neg h7, if_neg h8, if_neg h9, if_neg h10, if_neg h11]; split <;> rfl
   rw [this]; exact h
 | fe s =>
   show inR (feS c s ws).1.h
   have : (feS c s ws).1.h = s.h := by
    unfold feS
    repeat' split
    all_goals first | rfl | exact (qnF _ _).1 | (unfold qnr; split <;> rfl)
   rw [this]; exact h
 | rd s =>
   show inR (rdS c s ws bs).1.h
   have : (rdS c s ws bs).1.h = s.h := by
    unfold rdS
    repeat' split
    all_goals first | rfl | exact (qmJ _ _).2 | exact (qmK _ _).2
   rw [this]; exact h
 | wr s =>
   show inR (wrS c s ws bs).1.h
   have : (wrS c s ws bs).1.h = s.h := by
    unfold wrS
    repeat' split
    all_goals first | rfl | exact (qm8 _ _).2
   rw [this]; exact h
 | pn s =>
   show inR (pnS c s ws).1.h
   have : (pnS c s ws).1.h = s.h := by
    unfold pnS
    repeat' split
    all_goals first | rfl | exact qnm _ _
   rw [this]; exact h
 | no => trivial
theorem qoG (d : Int) (b : Nat) : qoB d b (mxS c m ws bs).1 = qoB d b m ∧ (dOk d (mxS c m ws bs).1 ↔ dOk d m) := by
 cases m <;> exact ⟨rfl, Iff.rfl⟩

set_option maxHeartbeats 3200000 in
theorem qoH {x : Nat} {d : Int} (hP : MyR H own c x b d m) (hC : IsR H cb ws bs) (hr0 : Rng ws) (hA : Apart own cb) (hx : x ≠ cb.P ∧ x ≠ cb.W ∧ x ≠ cb.Y) (hm : c.may) :
  ∃ own' H', qfV En 0 Id.zdq [qkb x, qiX cb] H = some (qmr (mxS c m ws bs).2.2.2, H') ∧ MyR H' own' c x b d (mxS c m ws bs).1 ∧ IsR H' cb (mxS c m ws bs).2.1 (mxS c m ws bs).2.2.1 ∧ Grew H H' own own' cb := by
 have hxo : x ∉ qno own cb := by
  unfold qno
  simp only [List.mem_append, List.mem_cons, List.mem_nil_iff, or_false]
  rintro (h | h | h | h)
  ·exact hP.no h
  ·exact hx.1 h
  ·exact hx.2.1 h
  ·exact hx.2.2 h
 have hxl := qim hP.row
 have fin : ∀ {own' : List Nat} {H' : qab}, MxR H' own' c b (mxS c m ws bs).1 → Grew H H' own own' cb → MyR H' own' c x b d (mxS c m ws bs).1 := fun h1 h2 =>
  ⟨by rw [(qoG d b).1]; exact h2.chg.get hP.row hxo, (qoG d b).2.2 hP.d, qoF hP.ok, h1, fun h => by
    rcases h2.new x h with g | g
    ·exact hP.no g
    ·omega⟩
 have hd := hP.d
 have hok := hP.ok
 have hmy := hP.my
 have qac := hP.row
 cases m with
 | al s =>
   obtain ⟨own', H', h1, h2, h3, h4⟩ := qn8 hmy hC hA hm hr0
   refine ⟨own', H', ?_, fin h2 h4, h3, h4⟩
   have l0 : qav H none ⟨x, 0 + 0, none⟩ = some (I d) := qin qac rfl
   have l1 : qav H none ⟨x, 0 + 1, none⟩ = some (qkb b) := qin qac rfl
   have hd : d = 0 := hd
   simp only [mxS]
   generalize (alS c s ws bs).2.2.2 = o at h1 ⊢
   cases o with
   | none =>
     simp only [qmr] at h1 ⊢
     refine qgx rfl Fn.zdq rfl rfl ?_
     repeat' first | refine .A ?_ | refine .B ?_ | refine .C ?_ | refine .G ?_ | refine .J ?_ | refine .t5 ?_ | refine .L l0 ?_ | refine .L l1 ?_ | refine .P h1 ?_ | refine .F ?_ | refine .Y ?_ | fail
     rfl
   | some q =>
     simp only [qmr] at h1 ⊢
     refine qgx rfl Fn.zdq rfl rfl ?_
     repeat' first | refine .A ?_ | refine .B ?_ | refine .C ?_ | refine .G ?_ | refine .J ?_ | refine .t5 ?_ | refine .L l0 ?_ | refine .L l1 ?_ | refine .P h1 ?_ | refine .F ?_ | refine .Y ?_ | fail
     rfl
 | fe s =>
   obtain ⟨own', H', h1, h2, h3, h4, h5, h6⟩ := qnG (lo := 0) hmy hC hr0 hA hm hok (fun _ _ => Nat.zero_le _) ⟨Nat.zero_le _, Nat.zero_le _⟩
   refine ⟨own', H', ?_, fin h2 ⟨h4, h5, h6⟩, h3, ⟨h4, h5, h6⟩⟩
   have l0 : qav H none ⟨x, 0 + 0, none⟩ = some (I d) := qin qac rfl
   have l1 : qav H none ⟨x, 0 + 2, none⟩ = some (qkb b) := qin qac rfl
   have hd : d = 1 := hd
   simp only [mxS]
   generalize (feS c s ws).2.2 = o at h1 ⊢
   cases o with
   | none =>
     simp only [qmr] at h1 ⊢
     refine qgx rfl Fn.zdq rfl rfl ?_
     repeat' first | refine .A ?_ | refine .B ?_ | refine .C ?_ | refine .D ?_ | refine .G ?_ | refine .J ?_ | refine .t5 ?_ | refine .f5 ?_ | refine .L l0 ?_ | refine .L l1 ?_ | refine .P h1 ?_ | refine .F ?_ | refine .Y ?_ | fail
     rfl
   | some q =>
     simp only [qmr] at h1 ⊢
     refine qgx rfl Fn.zdq rfl rfl ?_
     repeat' first | refine .A ?_ | refine .B ?_ | refine .C ?_ | refine .D ?_ | refine .G ?_ | refine .J ?_ | refine .t5 ?_ | refine .f5 ?_ | refine .L l0 ?_ | refine .L l1 ?_ | refine .P h1 ?_ | refine .F ?_ | refine .Y ?_ | fail
     rfl
 | rd s =>
   obtain ⟨hbo, kp, bb, hrb, hI⟩ := hmy
   obtain ⟨kp', bb', H', h1, d1, hI'⟩ := qmL (lo := 0) hrb hI hC (hA.at hbo) hm hok (Nat.zero_le _) (Nat.zero_le _)
   have hg : Grew H H' own own cb := .same (d1.chg.mono (qnp hbo))
   refine ⟨own, H', ?_, fin ⟨hbo, kp', bb', d1.row, hI'⟩ hg, d1.cells, hg⟩
   have l0 : qav H none ⟨x, 0 + 0, none⟩ = some (I d) := qin qac rfl
   have l1 : qav H none ⟨x, 0 + 3, none⟩ = some (qkb b) := qin qac rfl
   have hd : d = 2 := hd
   simp only [mxS]
   generalize (rdS c s ws bs).2 = o at h1 ⊢
   cases o with
   | none =>
     simp only [qmr] at h1 ⊢
     refine qgx rfl Fn.zdq rfl rfl ?_
     repeat' first | refine .A ?_ | refine .B ?_ | refine .C ?_ | refine .D ?_ | refine .G ?_ | refine .J ?_ | refine .t5 ?_ | refine .f5 ?_ | refine .L l0 ?_ | refine .L l1 ?_ | refine .P h1 ?_ | refine .F ?_ | refine .Y ?_ | fail
     rfl
   | some q =>
     simp only [qmr] at h1 ⊢
     refine qgx rfl Fn.zdq rfl rfl ?_
     repeat' first | refine .A ?_ | refine .B ?_ | refine .C ?_ | refine .D ?_ | refine .G ?_ | refine .J ?_ | refine .t5 ?_ | refine .f5 ?_ | refine .L l0 ?_ | refine .L l1 ?_ | refine .P h1 ?_ | refine .F ?_ | refine .Y ?_ | fail
     rfl
 | wr s =>
   obtain ⟨hbo, e, hrb, hI⟩ := hmy
   obtain ⟨e', H', h1, d1, hI'⟩ := qm9 (lo := 0) hrb hI hC (hA.at hbo) hm hok (Nat.zero_le _) ⟨Nat.zero_le _, Nat.zero_le _, Nat.zero_le _⟩
   have hg : Grew H H' own own cb := .same (d1.chg.mono (qnp hbo))
   refine ⟨own, H', ?_, fin ⟨hbo, e', d1.row, hI'⟩ hg, d1.cells, hg⟩
   have l0 : qav H none ⟨x, 0 + 0, none⟩ = some (I d) := qin qac rfl
   have l1 : qav H none ⟨x, 0 + 4, none⟩ = some (qkb b) := qin qac rfl
   have hd : d = 3 := hd
   simp only [mxS]
   generalize (wrS c s ws bs).2.2.2 = o at h1 ⊢
   cases o with
   | none =>
     simp only [qmr] at h1 ⊢
     refine qgx rfl Fn.zdq rfl rfl ?_
     repeat' first | refine .A ?_ | refine .B ?_ | refine .C ?_ | refine .D ?_ | refine .G ?_ | refine .J ?_ | refine .t5 ?_ | refine .f5 ?_ | refine .L l0 ?_ | refine .L l1 ?_ | refine .P h1 ?_ | refine .F ?_ | refine .Y ?_ | fail
     rfl
   | some q =>
     simp only [qmr] at h1 ⊢
     refine qgx rfl Fn.zdq rfl rfl ?_
     repeat' first | refine .A ?_ | refine .B ?_ | refine .C ?_ | refine .D ?_ | refine .G ?_ | refine .J ?_ | refine .t5 ?_ | refine .f5 ?_ | refine .L l0 ?_ | refine .L l1 ?_ | refine .P h1 ?_ | refine .F ?_ | refine .Y ?_ | fail
     rfl
 | pn s =>
   obtain ⟨hbo, hrb, hI⟩ := hmy
   obtain ⟨H', h1, d1, hI'⟩ := qnn (lo := 0) hrb hI hC (hA.at hbo) hm hok (Nat.zero_le _) ⟨Nat.zero_le _, Nat.zero_le _⟩
   have hg : Grew H H' own own cb := .same (d1.chg.mono (qnp hbo))
   refine ⟨own, H', ?_, fin ⟨hbo, d1.row, hI'⟩ hg, d1.cells, hg⟩
   have l0 : qav H none ⟨x, 0 + 0, none⟩ = some (I d) := qin qac rfl
   have l1 : qav H none ⟨x, 0 + 5, none⟩ = some (qkb b) := qin qac rfl
   have hd : d = 4 ∨ d = 5 := hd
   simp only [mxS]
   generalize (pnS c s ws).2.2 = o at h1 ⊢
   rcases hd with hd | hd
   all_goals
    cases o with
    | none =>
      simp only [qmr] at h1 ⊢
      refine qgx rfl Fn.zdq rfl rfl ?_
      repeat' first | refine .A ?_ | refine .B ?_ | refine .C ?_ | refine .D ?_ | refine .F ?_ | refine .G ?_ | refine .J ?_ | refine .t5 ?_ | refine .f5 ?_ | refine .L l0 ?_ | refine .L l1 ?_ | refine .P h1 ?_ | refine .Y ?_ | fail
      rfl
    | some q =>
      simp only [qmr] at h1 ⊢
      refine qgx rfl Fn.zdq rfl rfl ?_
      repeat' first | refine .A ?_ | refine .B ?_ | refine .C ?_ | refine .D ?_ | refine .F ?_ | refine .G ?_ | refine .J ?_ | refine .t5 ?_ | refine .f5 ?_ | refine .L l0 ?_ | refine .L l1 ?_ | refine .P h1 ?_ | refine .Y ?_ | fail
      rfl
 | no =>
   refine ⟨own, H, ?_, hP, hC, .same (Chg.refl _ _)⟩
   have l0 : qav H none ⟨x, 0 + 0, none⟩ = some (I d) := qin qac rfl
   have hd : d < 0 ∨ 5 < d := hd
   refine qgx rfl Fn.zdq rfl rfl ?_
   rcases hd with hd | hd
   all_goals
    repeat' first | refine .A ?_ | refine .B ?_ | refine .D ?_ | refine .F ?_ | refine .G ?_ | refine .H ?_ | refine .J ?_ | refine .f5 ?_ | refine .L l0 ?_ | refine .Y ?_ | fail
    rfl

set_option maxHeartbeats 3200000 in
theorem qoI (H : qab) (hm : c.may) (o : Op4) :
  ∃ x k H', qfV En 0 Id.zds [.agg #[I c.A, I c.S, I c.T], .agg #[I o.d, I o.h, I o.f, I o.n]] H = some (qkb x, H') ∧ Ext H H' ∧ H.length ≤ x ∧ H.length ≤ k ∧ MyR H' [k] c x k o.d (mkM o) := by
 have hl : ∀ r : List Value, (H ++ [Blk.row r false]).length = H.length + 1 := fun r => by simp
 have hx1 : ∀ r r', Ext H (H ++ [Blk.row r false] ++ [Blk.row r' false]) := fun r r' => ((Ext.refl H).app _).app _
 have g0 : ∀ r r' : List Value, (H ++ [Blk.row r false] ++ [Blk.row r' false])[H.length]? = some (.row r false) := fun r r' => by
  rw [List.getElem?_append_left (by simp)]; exact List.getElem?_concat_length
 have g1 : ∀ r r' : List Value, (H ++ [Blk.row r false] ++ [Blk.row r' false])[H.length + 1]? = some (.row r' false) := fun r r' => by
  rw [← hl r]; exact List.getElem?_concat_length
 have st : ∀ (r r' : List Value) (o : Nat) (v : Value), o < r.length → stN 0 (H ++ [Blk.row r false] ++ [Blk.row r' false]) ⟨H.length, 0 + o, none⟩ [v] = some (H ++ [Blk.row (r.set o v) false] ++ [Blk.row r' false]) := fun r r' o v ho => by
  refine (qip (w := r.set o v) (g0 r r') (Nat.zero_le _) (by simp; omega) (by rw [Nat.zero_add]; unfold splice; rw [List.set_eq_take_append_cons_drop, if_pos ho, List.append_assoc]; rfl)).trans ?_
  rw [List.set_append_left _ _ (by simp), List.set_append_right _ _ (Nat.le_refl _), Nat.sub_self]
  rfl
 unfold mkM
 by_cases h0 : o.d = 0
 ·rw [if_pos h0]
  have hN := fun r : List Value => qoo (H ++ [.row r false]) hm o.n
  simp only [hl] at hN
  refine ⟨H.length, H.length + 1, _, ?_, hx1 (qoB o.d (H.length + 1) (.al (al0 o.n))) _, Nat.le_refl _, by omega, ⟨g0 _ _, h0, o.nr, ⟨by simp, ⟨by simp [al0], fun _ => rfl, fun _ _ => rfl, fun h => by simp [al0] at h, fun h => by simp [al0] at h, by simp [al0], by simp [al0]⟩, .pointer none, .pointer none, g1 _ _, fun h => by simp [al0] at h, fun h => by simp [al0] at h⟩, by simp⟩⟩
  refine qgx rfl Fn.zds rfl rfl ?_
  repeat' first | refine .A ?_ | refine .B ?_ | refine .C ?_ | refine .G ?_ | refine .H ?_ | refine .J ?_ | refine .t5 ?_ | refine .P (hN _) ?_ | refine .S (st _ _ _ _ (Nat.le_of_ble_eq_true rfl)) ?_ | refine .F ?_ | refine .Y ?_ | fail
  rfl
 rw [if_neg h0]
 by_cases h1 : o.d = 1
 ·rw [if_pos h1]
  have hN := fun r : List Value => qon (H ++ [.row r false]) hm o.h
  simp only [hl] at hN
  refine ⟨H.length, H.length + 1, _, ?_, hx1 (qoB o.d (H.length + 1) (.fe (fe0 o.h))) _, Nat.le_refl _, by omega, ⟨g0 _ _, h1, o.hr, ⟨by simp, ⟨.pointer none, g1 _ _, fun _ h => by simp [fe0] at h⟩, fun _ h => by simp [fe0] at h, by simp [fe0]⟩, by simp⟩⟩
  refine qgx rfl Fn.zds rfl rfl ?_
  repeat' first | refine .A ?_ | refine .B ?_ | refine .C ?_ | refine .D ?_ | refine .G ?_ | refine .H ?_ | refine .J ?_ | refine .t5 ?_ | refine .f5 ?_ | refine .P (hN _) ?_ | refine .S (st _ _ _ _ (Nat.le_of_ble_eq_true rfl)) ?_ | refine .F ?_ | refine .Y ?_ | fail
  rfl
 rw [if_neg h1]
 by_cases h2 : o.d = 2
 ·rw [if_pos h2]
  have hN := fun r : List Value => qok (H ++ [.row r false]) hm o.h o.f
  simp only [hl] at hN
  refine ⟨H.length, H.length + 1, _, ?_, hx1 (qoB o.d (H.length + 1) (.rd (rd0 o.h o.f))) _, Nat.le_refl _, by omega, ⟨g0 _ _, h2, o.hr, ⟨by simp, 0, 0, g1 _ _, ⟨fun _ => rfl, fun h => by simp [rd0] at h, fun h => by simp [rd0] at h, by simp [rd0], fun h => by simp [rd0] at h⟩⟩, by simp⟩⟩
  refine qgx rfl Fn.zds rfl rfl ?_
  repeat' first | refine .A ?_ | refine .B ?_ | refine .C ?_ | refine .D ?_ | refine .G ?_ | refine .H ?_ | refine .J ?_ | refine .t5 ?_ | refine .f5 ?_ | refine .P (hN _) ?_ | refine .S (st _ _ _ _ (Nat.le_of_ble_eq_true rfl)) ?_ | refine .F ?_ | refine .Y ?_ | fail
  rfl
 rw [if_neg h2]
 by_cases h3 : o.d = 3
 ·rw [if_pos h3]
  have hN := fun r : List Value => qol (H ++ [.row r false]) hm o.h o.f o.n
  simp only [hl] at hN
  refine ⟨H.length, H.length + 1, _, ?_, hx1 (qoB o.d (H.length + 1) (.wr (wr0 o.h o.f o.n))) _, Nat.le_refl _, by omega, ⟨g0 _ _, h3, o.hr, ⟨by simp, Ent.zero, g1 _ _, ⟨rfl, by simp [wr0], fun h => by simp [wr0] at h⟩⟩, by simp⟩⟩
  refine qgx rfl Fn.zds rfl rfl ?_
  repeat' first | refine .A ?_ | refine .B ?_ | refine .C ?_ | refine .D ?_ | refine .G ?_ | refine .H ?_ | refine .J ?_ | refine .t5 ?_ | refine .f5 ?_ | refine .P (hN _) ?_ | refine .S (st _ _ _ _ (Nat.le_of_ble_eq_true rfl)) ?_ | refine .F ?_ | refine .Y ?_ | fail
  rfl
 rw [if_neg h3]
 by_cases h4 : o.d = 4
 ·rw [if_pos h4]
  have hN := fun r : List Value => qom (H ++ [.row r false]) hm o.h false
  simp only [hl] at hN
  refine ⟨H.length, H.length + 1, _, ?_, hx1 (qoB o.d (H.length + 1) (.pn (pn0 o.h false))) _, Nat.le_refl _, by omega, ⟨g0 _ _, .inl h4, o.hr, ⟨by simp, g1 _ _, ⟨fun _ h => by simp [pn0] at h⟩⟩, by simp⟩⟩
  refine qgx rfl Fn.zds rfl rfl ?_
  repeat' first | refine .A ?_ | refine .B ?_ | refine .C ?_ | refine .D ?_ | refine .F ?_ | refine .G ?_ | refine .H ?_ | refine .J ?_ | refine .t5 ?_ | refine .f5 ?_ | refine .P (hN _) ?_ | refine .S (st _ _ _ _ (Nat.le_of_ble_eq_true rfl)) ?_ | refine .Y ?_ | fail
  rfl
 rw [if_neg h4]
 by_cases h5 : o.d = 5
 ·rw [if_pos h5]
  have hN := fun r : List Value => qom (H ++ [.row r false]) hm o.h true
  simp only [hl] at hN
  refine ⟨H.length, H.length + 1, _, ?_, hx1 (qoB o.d (H.length + 1) (.pn (pn0 o.h true))) _, Nat.le_refl _, by omega, ⟨g0 _ _, .inr h5, o.hr, ⟨by simp, g1 _ _, ⟨fun _ h => by simp [pn0] at h⟩⟩, by simp⟩⟩
  refine qgx rfl Fn.zds rfl rfl ?_
  repeat' first | refine .A ?_ | refine .B ?_ | refine .C ?_ | refine .D ?_ | refine .G ?_ | refine .H ?_ | refine .J ?_ | refine .t5 ?_ | refine .f5 ?_ | refine .P (hN _) ?_ | refine .S (st _ _ _ _ (Nat.le_of_ble_eq_true rfl)) ?_ | refine .F ?_ | refine .Y ?_ | fail
  rfl
 rw [if_neg h5]
 refine ⟨H.length, H.length + 1, H ++ [.row (qoB o.d 0 .no) false], ?_, (Ext.refl H).app _, Nat.le_refl _, by omega, ⟨List.getElem?_concat_length, by show o.d < 0 ∨ 5 < o.d; omega, trivial, trivial, by simp⟩⟩
 refine qgx rfl Fn.zds rfl rfl ?_
 repeat' first | refine .A ?_ | refine .B ?_ | refine .D ?_ | refine .F ?_ | refine .G ?_ | refine .H ?_ | refine .J ?_ | refine .C ?_ | refine .f5 ?_ | refine .Y ?_ | fail
 rfl
end
end Go.Proofs.YtnfcohmbcgfhbaaGreat

