/- The texts of this seat are its functions' translations. -/
import Derived.Test.YtgdlplhglpinaaaEventIr
import Derived.Test.YtgdlplhglpinaaaProg
import Derived.KernelRfl

namespace Go.Proofs.Ytgdlplhglpinaaa
open Go Go.Ir

theorem Ok.sidingslaw08_EventCalls : cFunc Try.prog Try.f3 ⟨[], false, []⟩ = some F.sidingslaw08_EventCalls := by kernel_rfl
theorem Ok.sidingslaw08_EventBefore : cFunc Try.prog Try.f4 ⟨[2, 3], false, []⟩ = some F.sidingslaw08_EventBefore := by kernel_rfl
theorem Ok.sidingslaw08_EventTurns : cFunc Try.prog Try.f5 ⟨[], false, [[0, 3, 5, 6], [0, 3, 5, 6, 7]]⟩ = some F.sidingslaw08_EventTurns := by kernel_rfl
theorem Ok.sidingslaw08_EventCut : cFunc Try.prog Try.f6 ⟨[], false, [[1, 5, 7, 9]]⟩ = some F.sidingslaw08_EventCut := by kernel_rfl
theorem Ok.sidingslaw08_EventApart : cFunc Try.prog Try.f7 ⟨[], false, [[0, 1, 5], [1, 6, 7], [8, 9, 10], [8, 9, 10, 11]]⟩ = some F.sidingslaw08_EventApart := by kernel_rfl
theorem Ok.sidingslaw08_EventHandles : cFunc Try.prog Try.f8 ⟨[], false, [[0, 1, 6, 7], [6, 8, 9], [6, 8, 9, 10, 11]]⟩ = some F.sidingslaw08_EventHandles := by kernel_rfl
theorem Ok.sidingslaw08_live : cFunc Try.prog Try.f9 ⟨[], true, []⟩ = some F.sidingslaw08_live := by kernel_rfl
theorem Ok.event_Calls : cFunc Try.prog Try.f10 ⟨[7], true, [[0, 4, 5, 10, 11, 12]]⟩ = some F.event_Calls := by kernel_rfl
theorem Ok.sidingsref08_Calls : cFunc Try.prog Try.f11 ⟨[6], true, [[0, 4, 5]]⟩ = some F.sidingsref08_Calls := by kernel_rfl
theorem Ok.sidingsref08_Same : cFunc Try.prog Try.f12 ⟨[], true, [[0, 1, 5]]⟩ = some F.sidingsref08_Same := by kernel_rfl
theorem Ok.sidingslaw08_all : cFunc Try.prog Try.f13 ⟨[], true, [[0, 3, 4]]⟩ = some F.sidingslaw08_all := by kernel_rfl
theorem Ok.event_Check : cFunc Try.prog Try.f14 ⟨[], true, []⟩ = some F.event_Check := by kernel_rfl
theorem Ok.sidingsref08_Check : cFunc Try.prog Try.f15 ⟨[], true, [[0, 3]]⟩ = some F.sidingsref08_Check := by kernel_rfl
theorem Ok.sidingsref01_Same : cFunc Try.prog Try.f16 ⟨[], true, [[0, 1, 5]]⟩ = some F.sidingsref01_Same := by kernel_rfl
theorem Ok.event_Handles : cFunc Try.prog Try.f17 ⟨[5], true, [[3, 6, 7, 8]]⟩ = some F.event_Handles := by kernel_rfl
theorem Ok.sidingsref08_Handles : cFunc Try.prog Try.f18 ⟨[], true, [[0, 3, 4], [0, 3, 4, 5, 6, 7, 8]]⟩ = some F.sidingsref08_Handles := by kernel_rfl
theorem Ok.event_Before : cFunc Try.prog Try.f19 ⟨[2, 3], true, []⟩ = some F.event_Before := by kernel_rfl
theorem Ok.sidingslaw08_own : cFunc Try.prog Try.f20 ⟨[1, 2], true, []⟩ = some F.sidingslaw08_own := by kernel_rfl
theorem Ok.sidingsref08_Before : cFunc Try.prog Try.f21 ⟨[2, 3], true, []⟩ = some F.sidingsref08_Before := by kernel_rfl
theorem Ok.sidingsref08_answer : cFunc Try.prog Try.f22 ⟨[], true, [[0, 1, 5]]⟩ = some F.sidingsref08_answer := by kernel_rfl
theorem Ok.sidingslaw08_told : cFunc Try.prog Try.f23 ⟨[1, 2], true, []⟩ = some F.sidingslaw08_told := by kernel_rfl
theorem Ok.sidingsref08_turn : cFunc Try.prog Try.f24 ⟨[], true, [[0, 1, 5, 6]]⟩ = some F.sidingsref08_turn := by kernel_rfl
theorem Ok.slices_Sort_Lint : cFunc Try.prog Try.f25 ⟨[], false, []⟩ = some F.slices_Sort_Lint := by kernel_rfl
theorem Ok.slices_Compact_Lint : cFunc Try.prog Try.f26 ⟨[], false, [[0, 3], [0, 3, 4, 5]]⟩ = some F.slices_Compact_Lint := by kernel_rfl
theorem Ok.slices_pdqsortOrdered_int : cFunc Try.prog Try.f27 ⟨[], false, [[0, 1, 2, 3, 8, 9]]⟩ = some F.slices_pdqsortOrdered_int := by kernel_rfl
theorem Ok.math_bits_Len : cFunc Try.prog Try.f28 ⟨[], true, []⟩ = some F.math_bits_Len := by kernel_rfl
theorem Ok.slices_insertionSortOrdered_int : cFunc Try.prog Try.f29 ⟨[], false, [[0, 1, 2, 6], [0, 1, 2, 6, 7]]⟩ = some F.slices_insertionSortOrdered_int := by kernel_rfl
theorem Ok.slices_heapSortOrdered_int : cFunc Try.prog Try.f30 ⟨[], false, [[0, 6, 7, 8, 9], [0, 6, 7, 10]]⟩ = some F.slices_heapSortOrdered_int := by kernel_rfl
theorem Ok.slices_breakPatternsOrdered_int : cFunc Try.prog Try.f31 ⟨[], false, [[0, 1, 6, 7, 8, 9]]⟩ = some F.slices_breakPatternsOrdered_int := by kernel_rfl
theorem Ok.slices_choosePivotOrdered_int : cFunc Try.prog Try.f32 ⟨[], false, []⟩ = some F.slices_choosePivotOrdered_int := by kernel_rfl
theorem Ok.slices_reverseRangeOrdered_int : cFunc Try.prog Try.f33 ⟨[], false, [[0, 6, 7]]⟩ = some F.slices_reverseRangeOrdered_int := by kernel_rfl
theorem Ok.slices_partialInsertionSortOrdered_int : cFunc Try.prog Try.f34 ⟨[], false, [[0, 1, 2, 7, 8], [0, 1, 2, 7, 8], [0, 1, 2, 7, 8, 9], [0, 1, 2, 7, 8, 10]]⟩ = some F.slices_partialInsertionSortOrdered_int := by kernel_rfl
theorem Ok.cmp_Less_int : cFunc Try.prog Try.f35 ⟨[], true, []⟩ = some F.cmp_Less_int := by kernel_rfl
theorem Ok.slices_partitionEqualOrdered_int : cFunc Try.prog Try.f36 ⟨[], false, [[0, 1, 9, 10], [0, 1, 9, 10], [0, 1, 9, 10]]⟩ = some F.slices_partitionEqualOrdered_int := by kernel_rfl
theorem Ok.slices_partitionOrdered_int : cFunc Try.prog Try.f37 ⟨[], false, [[0, 1, 10, 11], [0, 1, 10, 11], [0, 1, 10, 11], [0, 1, 10, 11], [0, 1, 10, 11]]⟩ = some F.slices_partitionOrdered_int := by kernel_rfl
theorem Ok.math_bits_Len32 : cFunc Try.prog Try.f38 ⟨[], true, []⟩ = some F.math_bits_Len32 := by kernel_rfl
theorem Ok.math_bits_Len64 : cFunc Try.prog Try.f39 ⟨[], true, []⟩ = some F.math_bits_Len64 := by kernel_rfl
theorem Ok.slices_siftDownOrdered_int : cFunc Try.prog Try.f40 ⟨[], false, [[0, 2, 3, 8]]⟩ = some F.slices_siftDownOrdered_int := by kernel_rfl
theorem Ok.slices_nextPowerOfTwo : cFunc Try.prog Try.f41 ⟨[], true, []⟩ = some F.slices_nextPowerOfTwo := by kernel_rfl
theorem Ok.slices_xorshift_Next : cFunc Try.prog Try.f42 ⟨[], false, []⟩ = some F.slices_xorshift_Next := by kernel_rfl
theorem Ok.slices_medianAdjacentOrdered_int : cFunc Try.prog Try.f43 ⟨[], false, []⟩ = some F.slices_medianAdjacentOrdered_int := by kernel_rfl
theorem Ok.slices_medianOrdered_int : cFunc Try.prog Try.f44 ⟨[], false, []⟩ = some F.slices_medianOrdered_int := by kernel_rfl
theorem Ok.cmp_isNaN_int : cFunc Try.prog Try.f45 ⟨[], true, []⟩ = some F.cmp_isNaN_int := by kernel_rfl
theorem Ok.slices_order2Ordered_int : cFunc Try.prog Try.f46 ⟨[], false, []⟩ = some F.slices_order2Ordered_int := by kernel_rfl

theorem tbl_ok : TblOk Try.prog tbl := by
  unfold tbl
  refine .cons Try.func3 Ok.sidingslaw08_EventCalls ?_
  refine .cons Try.func4 Ok.sidingslaw08_EventBefore ?_
  refine .cons Try.func5 Ok.sidingslaw08_EventTurns ?_
  refine .cons Try.func6 Ok.sidingslaw08_EventCut ?_
  refine .cons Try.func7 Ok.sidingslaw08_EventApart ?_
  refine .cons Try.func8 Ok.sidingslaw08_EventHandles ?_
  refine .cons Try.func9 Ok.sidingslaw08_live ?_
  refine .cons Try.func10 Ok.event_Calls ?_
  refine .cons Try.func11 Ok.sidingsref08_Calls ?_
  refine .cons Try.func12 Ok.sidingsref08_Same ?_
  refine .cons Try.func13 Ok.sidingslaw08_all ?_
  refine .cons Try.func14 Ok.event_Check ?_
  refine .cons Try.func15 Ok.sidingsref08_Check ?_
  refine .cons Try.func16 Ok.sidingsref01_Same ?_
  refine .cons Try.func17 Ok.event_Handles ?_
  refine .cons Try.func18 Ok.sidingsref08_Handles ?_
  refine .cons Try.func19 Ok.event_Before ?_
  refine .cons Try.func20 Ok.sidingslaw08_own ?_
  refine .cons Try.func21 Ok.sidingsref08_Before ?_
  refine .cons Try.func22 Ok.sidingsref08_answer ?_
  refine .cons Try.func23 Ok.sidingslaw08_told ?_
  refine .cons Try.func24 Ok.sidingsref08_turn ?_
  refine .cons Try.func25 Ok.slices_Sort_Lint ?_
  refine .cons Try.func26 Ok.slices_Compact_Lint ?_
  refine .cons Try.func27 Ok.slices_pdqsortOrdered_int ?_
  refine .cons Try.func28 Ok.math_bits_Len ?_
  refine .cons Try.func29 Ok.slices_insertionSortOrdered_int ?_
  refine .cons Try.func30 Ok.slices_heapSortOrdered_int ?_
  refine .cons Try.func31 Ok.slices_breakPatternsOrdered_int ?_
  refine .cons Try.func32 Ok.slices_choosePivotOrdered_int ?_
  refine .cons Try.func33 Ok.slices_reverseRangeOrdered_int ?_
  refine .cons Try.func34 Ok.slices_partialInsertionSortOrdered_int ?_
  refine .cons Try.func35 Ok.cmp_Less_int ?_
  refine .cons Try.func36 Ok.slices_partitionEqualOrdered_int ?_
  refine .cons Try.func37 Ok.slices_partitionOrdered_int ?_
  refine .cons Try.func38 Ok.math_bits_Len32 ?_
  refine .cons Try.func39 Ok.math_bits_Len64 ?_
  refine .cons Try.func40 Ok.slices_siftDownOrdered_int ?_
  refine .cons Try.func41 Ok.slices_nextPowerOfTwo ?_
  refine .cons Try.func42 Ok.slices_xorshift_Next ?_
  refine .cons Try.func43 Ok.slices_medianAdjacentOrdered_int ?_
  refine .cons Try.func44 Ok.slices_medianOrdered_int ?_
  refine .cons Try.func45 Ok.cmp_isNaN_int ?_
  refine .cons Try.func46 Ok.slices_order2Ordered_int ?_
  exact .nil
end Go.Proofs.Ytgdlplhglpinaaa
