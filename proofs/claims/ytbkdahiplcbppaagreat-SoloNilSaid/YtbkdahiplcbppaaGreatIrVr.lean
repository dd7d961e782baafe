/- How what the interpreter holds stands to what the machine holds. -/
import Derived.Test.YtbkdahiplcbppaaGreatIr
import Derived.Below
set_option linter.unusedVariables false
set_option linter.unusedSimpArgs false
namespace Go.Ir

/-- Where a block of the abstract heap lies: the machine's block, where it begins there, and how many cells that has. -/
structure Ent where
  b : Nat
  base : Nat
  size : Nat

/-- Of each number of a block: not there yet; used no more; or where it lies. -/
abbrev Emb := Nat → Option (Option Ent)

def Emb.le (E E' : Emb) : Prop := ∀ i e, E i = some e → E' i = some e ∨ E' i = some none

theorem Emb.le_refl (E : Emb) : E.le E := fun _ _ h => .inl h
theorem Emb.le_trans {E F G : Emb} (h : E.le F) (k : F.le G) : E.le G := fun i e hi => by
  rcases h i e hi with h1 | h1
  · exact k i e h1
  · rcases k i none h1 with h2 | h2 <;> exact .inr h2

mutual
inductive VR (E : Emb) : Value → Value → Prop where
  | any (c : Option Addr) : VR E (.chan (some 0)) (.pointer c)
  | bool (b : Bool) : VR E (.bool b) (.bool b)
  | int (k : IntKind) (n : Int) : VR E (.int k n) (.int k n)
  | float (k : FloatKind) (n : Nat) : VR E (.float k n) (.float k n)
  | complex (k : FloatKind) (n m : Nat) : VR E (.complex k n m) (.complex k n m)
  | string (s : ByteArray) : VR E (.string s) (.string s)
  | ptr0 : VR E (.pointer none) (.pointer none)
  | ptr (a c : Addr) (e : Option Ent) (hs : a.spot = none) (he : E a.block = some e) (hc : ∀ x, e = some x → c = ⟨x.b, x.base + a.off, none⟩) :
      VR E (.pointer (some a)) (.pointer (some c))
  | slice0 : VR E (.slice none 0 0) (.slice none 0 0)
  | slice (a c : Addr) (n cap : Nat) (e : Option Ent) (hs : a.spot = none) (he : E a.block = some e) (hn : n ≤ cap)
      (hc : ∀ x, e = some x → 0 < cap → c = ⟨x.b, x.base + a.off, none⟩) : VR E (.slice (some a) n cap) (.slice (some c) n cap)
  | loose (a c : Addr) (n k cap : Nat) (e : Option Ent) (hs : a.spot = some 0) (he : E a.block = some e) (hn : n ≤ cap)
      (hc : ∀ x, e = some x → c.block = x.b ∧ c.spot = none ∧ (0 < n → c.off = x.base + a.off) ∧ c.off + cap * k ≤ x.size) :
      VR E (.slice (some a) n k) (.slice (some c) n cap)
  | map0 : VR E (.map none) (.map none)
  | map (r c : Nat) (e : Option Ent) (he : E r = some e) (hc : ∀ x, e = some x → c = x.b) : VR E (.map (some r)) (.map (some c))
  | func (fn : Fn) (f f' c c' : Array Value) (hf : VRs E f.toList f'.toList) (hc : VRs E c.toList c'.toList) : VR E (.func fn f c) (.func fn f' c')
  | nilFunc : VR E .nilFunc .nilFunc
  | iface (t : Nat) (v c : Value) (h : VR E v c) : VR E (.iface t v) (.iface t c)
  | nilIface : VR E .nilIface .nilIface
  | agg (c c' : Array Value) (h : VRs E c.toList c'.toList) : VR E (.agg c) (.agg c')
  | tuple (c c' : Array Value) (h : VRs E c.toList c'.toList) : VR E (.tuple c) (.tuple c')
inductive VRs (E : Emb) : List Value → List Value → Prop where
  | nil : VRs E [] []
  | cons (v c : Value) (vs cs : List Value) (h : VR E v c) (hs : VRs E vs cs) : VRs E (v :: vs) (c :: cs)
end

mutual
theorem VR.mono {E E' : Emb} (h : E.le E') : ∀ {v c : Value}, VR E v c → VR E' v c
  | _, _, .any c => .any c
  | _, _, .bool b => .bool b
  | _, _, .int k n => .int k n
  | _, _, .float k n => .float k n
  | _, _, .complex k n m => .complex k n m
  | _, _, .string s => .string s
  | _, _, .ptr0 => .ptr0
  | _, _, .ptr a c e hs he hc => by
    rcases h _ _ he with h1 | h1
    · exact .ptr a c e hs h1 hc
    · exact .ptr a c none hs h1 (fun x hx => by cases hx)
  | _, _, .slice0 => .slice0
  | _, _, .slice a c n cap e hs he hn hc => by
    rcases h _ _ he with h1 | h1
    · exact .slice a c n cap e hs h1 hn hc
    · exact .slice a c n cap none hs h1 hn (fun x hx => by cases hx)
  | _, _, .loose a c n k cap e hs he hn hc => by
    rcases h _ _ he with h1 | h1
    · exact .loose a c n k cap e hs h1 hn hc
    · exact .loose a c n k cap none hs h1 hn (fun x hx => by cases hx)
  | _, _, .map0 => .map0
  | _, _, .map r c e he hc => by
    rcases h _ _ he with h1 | h1
    · exact .map r c e h1 hc
    · exact .map r c none h1 (fun x hx => by cases hx)
  | _, _, .func fn f f' c c' hf hc => .func fn f f' c c' (VRs.mono h hf) (VRs.mono h hc)
  | _, _, .nilFunc => .nilFunc
  | _, _, .iface t v c hv => .iface t v c (VR.mono h hv)
  | _, _, .nilIface => .nilIface
  | _, _, .agg c c' hc => .agg c c' (VRs.mono h hc)
  | _, _, .tuple c c' hc => .tuple c c' (VRs.mono h hc)
theorem VRs.mono {E E' : Emb} (h : E.le E') : ∀ {vs cs : List Value}, VRs E vs cs → VRs E' vs cs
  | _, _, .nil => .nil
  | _, _, .cons v c vs cs hv hs => .cons v c vs cs (VR.mono h hv) (VRs.mono h hs)
end

theorem VRs.length {E : Emb} : ∀ {vs cs : List Value}, VRs E vs cs → vs.length = cs.length
  | _, _, .nil => rfl
  | _, _, .cons _ _ _ _ _ hs => by simp [hs.length]

theorem VRs.get {E : Emb} : ∀ {vs cs : List Value}, VRs E vs cs → ∀ {i : Nat} {v : Value}, vs[i]? = some v → ∃ c, cs[i]? = some c ∧ VR E v c
  | _, _, .nil, i, v, h => by simp at h
  | _, _, .cons u c vs cs hv hs, i, v, h => by
    cases i with
    | zero => simp at h; subst h; exact ⟨c, by simp, hv⟩
    | succ i => simp at h; obtain ⟨d, h1, h2⟩ := hs.get h; exact ⟨d, by simpa using h1, h2⟩

theorem VRs.app {E : Emb} : ∀ {vs cs us ds : List Value}, VRs E vs cs → VRs E us ds → VRs E (vs ++ us) (cs ++ ds)
  | _, _, _, _, .nil, k => k
  | _, _, _, _, .cons v c _ _ hv hs, k => .cons v c _ _ hv (hs.app k)

theorem VRs.take {E : Emb} : ∀ {vs cs : List Value}, VRs E vs cs → ∀ n, VRs E (vs.take n) (cs.take n)
  | _, _, .nil, n => by simpa using VRs.nil
  | _, _, .cons v c vs cs hv hs, n => by
    cases n with
    | zero => simpa using VRs.nil
    | succ n => simpa using VRs.cons v c _ _ hv (hs.take n)

theorem VRs.drop {E : Emb} : ∀ {vs cs : List Value}, VRs E vs cs → ∀ n, VRs E (vs.drop n) (cs.drop n)
  | _, _, .nil, n => by simpa using VRs.nil
  | _, _, .cons v c vs cs hv hs, n => by
    cases n with
    | zero => simpa using VRs.cons v c _ _ hv hs
    | succ n => simpa using hs.drop n

theorem VRs.splice {E : Emb} {vs cs us ds : List Value} (h : VRs E vs cs) (k : VRs E us ds) (off : Nat) : VRs E (splice vs off us) (splice cs off ds) := by
  unfold Ir.splice
  rw [k.length]
  exact ((h.take off).app k).app (h.drop _)

theorem VRs.of_get {E : Emb} : ∀ (vs cs : List Value), vs.length = cs.length → (∀ (i : Nat) (v c : Value), vs[i]? = some v → cs[i]? = some c → VR E v c) → VRs E vs cs
  | [], [], _, _ => .nil
  | v :: vs, c :: cs, hl, h => .cons _ _ _ _ (h 0 v c (by simp) (by simp)) (VRs.of_get vs cs (by simpa using hl) fun i a b ha hb => h (i + 1) a b (by simpa using ha) (by simpa using hb))

theorem VRs.mem {E : Emb} : ∀ {vs cs : List Value}, VRs E vs cs → ∀ {v : Value}, v ∈ vs → ∃ c, c ∈ cs ∧ VR E v c
  | _, _, .cons u c vs cs hv hs, v, h => by
    rcases List.mem_cons.1 h with rfl | h
    · exact ⟨c, by simp, hv⟩
    · obtain ⟨d, h1, h2⟩ := hs.mem h
      exact ⟨d, by simp [h1], h2⟩

theorem VR.flat1 {E : Emb} {v : Value} (h : flat1 v = true) : VR E v v := by
  cases v with
  | bool b => exact .bool b
  | int k n => exact .int k n
  | float k n => exact .float k n
  | complex k n m => exact .complex k n m
  | string s => exact .string s
  | pointer a => cases a with
    | none => exact .ptr0
    | some a => simp [Ir.flat1] at h
  | slice a n c => cases a with
    | none => simp [Ir.flat1] at h; obtain ⟨rfl, rfl⟩ := h; exact .slice0
    | some a => simp [Ir.flat1] at h
  | map r => cases r with
    | none => exact .map0
    | some a => simp [Ir.flat1] at h
  | nilFunc => exact .nilFunc
  | nilIface => exact .nilIface
  | _ => simp [Ir.flat1] at h

theorem VRs.flat {E : Emb} : ∀ {vs : List Value}, vs.all Ir.flat1 = true → VRs E vs vs
  | [], _ => .nil
  | v :: vs, h => by
    simp at h
    exact .cons _ _ _ _ (VR.flat1 h.1) (VRs.flat (by simpa using h.2))

theorem VR.flat {E : Emb} {v : Value} (h : flatV v = true) : VR E v v := by
  cases v with
  | agg c => exact .agg c c (VRs.flat (by simpa [flatV] using h))
  | tuple c => exact .tuple c c (VRs.flat (by simpa [flatV] using h))
  | _ => exact VR.flat1 (by simpa [flatV] using h)

/-- A flat value is related to itself alone. -/
theorem VR.eq_flat1 {E : Emb} {v c : Value} (h : VR E v c) (hf : Ir.flat1 v = true) : c = v := by
  cases h <;> simp [Ir.flat1] at hf <;> first | rfl | (exact hf.elim)

theorem VRs.eq_flat {E : Emb} : ∀ {vs cs : List Value}, VRs E vs cs → vs.all Ir.flat1 = true → cs = vs
  | _, _, .nil, _ => rfl
  | _, _, .cons v c vs cs hv hs, h => by
    simp only [List.all_cons, Bool.and_eq_true] at h
    rw [hv.eq_flat1 h.1, hs.eq_flat h.2]

theorem oneA_flat {v : Value} (h : Ir.flat1 v = true) : oneA v = true := by cases v <;> simp [Ir.flat1] at h <;> rfl

theorem oneA_flatL : ∀ {vs : List Value}, vs.all Ir.flat1 = true → vs.all oneA = true
  | [], _ => rfl
  | v :: vs, h => by
    simp only [List.all_cons, Bool.and_eq_true] at h ⊢
    exact ⟨oneA_flat h.1, oneA_flatL h.2⟩

theorem oneA_splice {cs us : List Value} (off : Nat) (h : cs.all oneA = true) (k : us.all oneA = true) : (Ir.splice cs off us).all oneA = true := by
  simp only [List.all_eq_true] at h k ⊢
  intro v hv
  simp only [Ir.splice, List.mem_append] at hv
  rcases hv with (hv | hv) | hv
  · exact h v (List.mem_of_mem_take hv)
  · exact k v hv
  · exact h v (List.mem_of_mem_drop hv)

theorem VR.cells {E : Emb} {v c : Value} (h : VR E v c) : VRs E (vcells v) c.cells.toList := by
  cases h
  case agg c c' h => exact h
  all_goals (refine VRs.cons _ _ _ _ ?_ .nil)
  case any c => exact .any c
  case bool b => exact .bool b
  case int k n => exact .int k n
  case float k n => exact .float k n
  case complex k n m => exact .complex k n m
  case string s => exact .string s
  case ptr0 => exact .ptr0
  case ptr a c e hs he hc => exact .ptr a c e hs he hc
  case slice0 => exact .slice0
  case slice a c n cap e hs he hn hc => exact .slice a c n cap e hs he hn hc
  case loose a c n k cap e hs he hn hc => exact .loose a c n k cap e hs he hn hc
  case map0 => exact .map0
  case map r c e he hc => exact .map r c e he hc
  case func fn f f' c c' hf hc => exact .func fn f f' c c' hf hc
  case nilFunc => exact .nilFunc
  case iface t v c h => exact .iface t v c h
  case nilIface => exact .nilIface
  case tuple c c' h => exact .tuple c c' h

/-! ### blocks -/

inductive MR (E : Emb) : List (Value × Value) → List MapEntry → Prop where
  | nil : MR E [] []
  | cons (k : IntKind) (n : Int) (v : Value) (x : MapEntry) (es : List (Value × Value)) (xs : List MapEntry) (hk : x.key = .int k n) (hv : VR E v x.val) (h : MR E es xs) :
      MR E ((.int k n, v) :: es) (x :: xs)

theorem MR.mono {E E' : Emb} (h : E.le E') : ∀ {es : List (Value × Value)} {xs : List MapEntry}, MR E es xs → MR E' es xs
  | _, _, .nil => .nil
  | _, _, .cons k n v x es xs hk hv hs => .cons k n v x es xs hk (hv.mono h) (hs.mono h)

/-- The abstract block's content, and the machine's block. B0: blocks below are not written. -/
def BR (B0 : Nat) (E : Emb) (w : World) (x : Ent) : Blk → Prop
  | .row cs ro => ∃ C t fz, w.heap[x.b]? = some (.cells C t fz) ∧ C.size = x.size ∧ x.base + cs.length ≤ C.size ∧
      VRs E cs ((C.toList.drop x.base).take cs.length) ∧ (ro = false → B0 ≤ x.b ∧ fz = (0, 0)) ∧ cs.all oneA = true
  | .map es => ∃ M clk, w.heap[x.b]? = some (.map M clk) ∧ MR E es M.toList ∧ B0 ≤ x.b
  | .dead => True

theorem BR.mono {B0 : Nat} {E E' : Emb} {w : World} {x : Ent} {k : Blk} (h : E.le E') (hb : BR B0 E w x k) : BR B0 E' w x k := by
  cases k with
  | row cs ro =>
    obtain ⟨C, t, fz, h1, h2, h4, h5, h6, h7⟩ := hb
    exact ⟨C, t, fz, h1, h2, h4, h5.mono h, h6, h7⟩
  | map es =>
    obtain ⟨M, clk, h1, h2, h3⟩ := hb
    exact ⟨M, clk, h1, h2.mono h, h3⟩
  | dead => trivial

theorem BR.world {B0 : Nat} {E : Emb} {w w' : World} {x : Ent} {k : Blk} (h : w'.heap[x.b]? = w.heap[x.b]?) (hb : BR B0 E w x k) : BR B0 E w' x k := by
  cases k with
  | row cs ro => obtain ⟨C, t, fz, h1, hr⟩ := hb; exact ⟨C, t, fz, h.trans h1, hr⟩
  | map es => obtain ⟨M, clk, h1, hr⟩ := hb; exact ⟨M, clk, h.trans h1, hr⟩
  | dead => trivial

theorem BR.lt {B0 : Nat} {E : Emb} {w : World} {x : Ent} {k : Blk} (hb : BR B0 E w x k) (hk : k ≠ .dead) : x.b < w.heap.size := by
  cases k with
  | row cs ro => obtain ⟨C, t, fz, h1, _⟩ := hb; exact (Array.getElem?_eq_some_iff.1 h1).1
  | map es => obtain ⟨M, clk, h1, _⟩ := hb; exact (Array.getElem?_eq_some_iff.1 h1).1
  | dead => exact absurd rfl hk

def isRo : Option Blk → Bool
  | some (.row _ ro) => ro
  | _ => false

/-- The abstract heap stands to the machine's world. -/
structure Sim (B0 : Nat) (w0 : World) (E : Emb) (h : Heap) (w : World) : Prop where
  below : Go.RowKit.Below B0 w0 w
  out : ∀ i, h.length ≤ i → E i = none
  dead : ∀ i, h[i]? = some .dead → E i = some none
  live : ∀ i k, h[i]? = some k → k ≠ .dead → ∃ x, E i = some (some x) ∧ BR B0 E w x k
  inj : ∀ i j x y, i ≠ j → E i = some (some x) → E j = some (some y) → x.b = y.b → isRo h[i]? = true ∧ isRo h[j]? = true

theorem Sim.ent {B0 : Nat} {w0 : World} {E : Emb} {h : Heap} {w : World} (s : Sim B0 w0 E h w) {i : Nat} {e : Option Ent} (he : E i = some e) :
    (∃ x k, e = some x ∧ h[i]? = some k ∧ k ≠ .dead ∧ BR B0 E w x k) ∨ (e = none ∧ h[i]? = some .dead) := by
  have hlt : i < h.length := by
    rcases Nat.lt_or_ge i h.length with h1 | h1
    · exact h1
    · rw [s.out i h1] at he; cases he
  have hk : h[i]? = some h[i] := by simp [hlt]
  by_cases hd : h[i] = .dead
  · rw [hd] at hk
    have := s.dead i hk
    rw [he] at this
    cases this
    exact .inr ⟨rfl, hk⟩
  · obtain ⟨x, hx, hb⟩ := s.live i _ hk hd
    rw [he] at hx
    cases hx
    exact .inl ⟨x, _, rfl, hk, hd, hb⟩

/-- From one state to a later one. -/
structure Later (E : Emb) (w : World) (E' : Emb) (w' : World) : Prop where
  le : E.le E'
  new : ∀ i x, E' i = some (some x) → (∃ j y, E j = some (some y) ∧ y.b = x.b) ∨ w.heap.size ≤ x.b
  size : w.heap.size ≤ w'.heap.size
  kept : ∀ b, b < w.heap.size → (∀ j y, E j = some (some y) → y.b ≠ b) → w'.heap[b]? = w.heap[b]?

theorem Later.refl (E : Emb) (w : World) : Later E w E w :=
  ⟨Emb.le_refl E, fun i x h => .inl ⟨i, x, h, rfl⟩, Nat.le_refl _, fun _ _ _ => rfl⟩

theorem Later.trans {E F G : Emb} {u v w : World} (h : Later E u F v) (k : Later F v G w) : Later E u G w := by
  refine ⟨Emb.le_trans h.le k.le, fun i x hx => ?_, Nat.le_trans h.size k.size, fun b hb hn => ?_⟩
  · rcases k.new i x hx with ⟨j, y, hj, he⟩ | h1
    · rcases h.new j y hj with ⟨j', y', hj', he'⟩ | h2
      · exact .inl ⟨j', y', hj', he'.trans he⟩
      · exact .inr (by omega)
    · exact .inr (Nat.le_trans h.size h1)
  · rw [k.kept b (Nat.lt_of_lt_of_le hb h.size), h.kept b hb hn]
    intro j y hj he
    rcases h.new j y hj with ⟨j', y', hj', he'⟩ | h2
    · exact hn j' y' hj' (he'.trans he)
    · omega

/-- Draws alone. -/
theorem Later.same {E : Emb} {w w' : World} (h : w'.heap = w.heap) : Later E w E w' :=
  ⟨Emb.le_refl E, fun i x h => .inl ⟨i, x, h, rfl⟩, by rw [h]; exact Nat.le_refl _, fun _ _ _ => by rw [h]⟩

end Go.Ir
