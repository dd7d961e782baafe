/- Regions: whatever order the edges allow. -/
import Derived.Test.YtbkdahiplcbppaaGreatIrFr
set_option linter.unusedVariables false
set_option linter.unusedSimpArgs false
namespace Go.Ir

/-! ### heaps do not shrink -/
def CallMono (call : CallF) : Prop := ∀ g vs h v h', call g vs h = some (v, h') → h.length ≤ h'.length

theorem stN_len {lo : Nat} {h h' : Heap} {a : Addr} {vs : List Value} (hs : stN lo h a vs = some h') : h'.length = h.length := by
  unfold stN at hs
  split at hs <;> try (cases hs; done)
  obtain ⟨_, hs⟩ := ifSomeO hs
  obtain ⟨_, hs⟩ := ifSomeO hs
  obtain ⟨_, rfl⟩ := ifSome hs
  simp

theorem iappend_len {lo esz bytes : Nat} {h h' : Heap} {x y v : Value} (hs : iappend lo esz bytes h x y = some (v, h')) : h.length ≤ h'.length := by
  unfold iappend at hs
  split at hs <;> try (cases hs; done)
  obtain ⟨_, hs⟩ := ifSomeO hs
  split at hs <;> try (cases hs; done)
  split at hs
  · split at hs
    · injection hs with hs; injection hs with _ e; subst e; exact Nat.le_refl _
    · injection hs with hs; injection hs with _ e; subst e; simp
  · split at hs
    · split at hs
      · split at hs
        · injection hs with hs; injection hs with _ e; subst e; exact Nat.le_refl _
        · split at hs <;> try (cases hs; done)
          rename_i h1
          injection hs with hs; injection hs with _ e; subst e
          rw [stN_len h1]; exact Nat.le_refl _
      · split at hs <;> try (cases hs; done)
        injection hs with hs; injection hs with _ e; subst e; simp
    · split at hs
      · injection hs with hs; injection hs with _ e; subst e; exact Nat.le_refl _
      · split at hs <;> try (cases hs; done)
        obtain ⟨_, hs⟩ := ifSome hs
        injection hs with _ e; subst e; simp

theorem iop_len {call : CallF} (hm : CallMono call) {lo : Nat} {o : IOp} {f : Fr} {h h' : Heap} {v : Value} (hv : iop call lo o f h = some (v, h')) : h.length ≤ h'.length := by
  have fin : ∀ {u : Value} {k : Heap}, (some (u, k) : Option (Value × Heap)) = some (v, h') → h.length ≤ k.length → h.length ≤ h'.length := fun e l => by
    injection e with e; injection e with _ e; subst e; exact l
  cases o <;> simp only [iop] at hv
  case store n x y =>
    split at hv <;> try (cases hv; done)
    obtain ⟨_, hv⟩ := ifSomeO hv
    split at hv <;> try (cases hv; done)
    rename_i h1
    exact fin hv (by rw [stN_len h1]; exact Nat.le_refl _)
  case call g args =>
    split at hv <;> try (cases hv; done)
    exact hm _ _ _ _ _ hv
  case callv x args =>
    split at hv <;> try (cases hv; done)
    split at hv <;> try (cases hv; done)
    exact hm _ _ _ _ _ hv
  case invoke tab x args =>
    split at hv <;> try (cases hv; done)
    split at hv <;> try (cases hv; done)
    exact hm _ _ _ _ _ hv
  case append esz bytes x y =>
    split at hv <;> try (cases hv; done)
    exact iappend_len hv
  case copy esz x y =>
    split at hv <;> try (cases hv; done)
    split at hv <;> try (cases hv; done)
    split at hv <;> try (cases hv; done)
    split at hv
    · exact fin hv (Nat.le_refl _)
    · split at hv
      · exact fin hv (Nat.le_refl _)
      · split at hv <;> try (cases hv; done)
        rename_i h1
        exact fin hv (by rw [stN_len h1]; exact Nat.le_refl _)
  case clear esz zero x =>
    split at hv <;> try (cases hv; done)
    split at hv
    · exact fin hv (Nat.le_refl _)
    · split at hv
      · exact fin hv (Nat.le_refl _)
      · split at hv <;> try (cases hv; done)
        rename_i h1
        exact fin hv (by rw [stN_len h1]; exact Nat.le_refl _)
  case mapupd m k x =>
    split at hv <;> try (cases hv; done)
    obtain ⟨_, hv⟩ := ifSomeO hv
    split at hv <;> try (cases hv; done)
    split at hv <;> try (cases hv; done)
    exact fin hv (by simp)
  case mapdel m k =>
    split at hv <;> try (cases hv; done)
    obtain ⟨_, hv⟩ := ifSomeO hv
    split at hv
    · exact fin hv (Nat.le_refl _)
    · obtain ⟨_, hv⟩ := ifSomeO hv
      split at hv <;> try (cases hv; done)
      split at hv <;> try (cases hv; done)
      exact fin hv (by simp)
  case lookup z ok m k =>
    split at hv <;> try (cases hv; done)
    obtain ⟨_, hv⟩ := ifSomeO hv
    split at hv <;> try (cases hv; done)
    split at hv <;> try (cases hv; done)
    · exact fin hv (Nat.le_refl _)
    · exact fin hv (Nat.le_refl _)
  case nilchkm nm tab x =>
    split at hv <;> try (cases hv; done)
    obtain ⟨_, hv⟩ := ifSomeO hv
    split at hv <;> try (cases hv; done)
    split at hv <;> try (cases hv; done)
    exact fin hv (Nat.le_refl _)
  case iaddr len esz x i =>
    split at hv <;> try (cases hv; done)
    split at hv <;> try (cases hv; done)
    · obtain ⟨_, hv⟩ := ifSome hv
      injection hv with _ e; subst e; exact Nat.le_refl _
    · obtain ⟨_, hv⟩ := ifSome hv
      injection hv with _ e; subst e; exact Nat.le_refl _
  case index len esz n x i =>
    split at hv <;> try (cases hv; done)
    obtain ⟨_, hv⟩ := ifSomeO hv
    split at hv <;> try (cases hv; done)
    exact fin hv (Nat.le_refl _)
  case indexS x i =>
    split at hv <;> try (cases hv; done)
    obtain ⟨_, hv⟩ := ifSomeO hv
    split at hv <;> try (cases hv; done)
    exact fin hv (Nat.le_refl _)
  case len str x =>
    split at hv <;> try (cases hv; done)
    · split at hv <;> try (cases hv; done)
      exact fin hv (Nat.le_refl _)
    · split at hv <;> try (cases hv; done)
      exact fin hv (Nat.le_refl _)
  case mkmap => exact fin hv (by simp)
  case box x =>
    split at hv <;> try (cases hv; done)
    obtain ⟨_, hv⟩ := ifSome hv
    injection hv with _ e; subst e; simp
  case buildSlice esz len zero parts =>
    split at hv <;> try (cases hv; done)
    split at hv <;> try (cases hv; done)
    obtain ⟨_, hv⟩ := ifSome hv
    injection hv with _ e; subst e; simp
  case mkslice esz bytes zero n c =>
    split at hv <;> try (cases hv; done)
    obtain ⟨_, hv⟩ := ifSome hv
    injection hv with _ e; subst e; simp
  case lstore s b off n x =>
    obtain ⟨_, hv⟩ := ifSomeO hv
    split at hv <;> try (cases hv; done)
    obtain ⟨_, hv⟩ := ifSomeO hv
    obtain ⟨_, hv⟩ := ifSome hv
    injection hv with _ e; subst e; exact Nat.le_refl _
  case laddr s b off =>
    obtain ⟨_, hv⟩ := ifSomeO hv
    split at hv <;> try (cases hv; done)
    exact fin hv (Nat.le_refl _)
  case lload s b off n =>
    obtain ⟨_, hv⟩ := ifSomeO hv
    split at hv <;> try (cases hv; done)
    split at hv <;> try (cases hv; done)
    exact fin hv (Nat.le_refl _)
  case cplx x y =>
    split at hv <;> try (cases hv; done)
    obtain ⟨_, hv⟩ := ifSome hv
    injection hv with _ e; subst e; exact Nat.le_refl _
  case maplen m =>
    split at hv <;> try (cases hv; done)
    split at hv <;> try (cases hv; done)
    exact fin hv (Nat.le_refl _)
  all_goals
    first
      | (split at hv <;> first | (cases hv; done) | (exact fin hv (Nat.le_refl _)) | (split at hv <;> first | (cases hv; done) | (exact fin hv (Nat.le_refl _))))

end Go.Ir
