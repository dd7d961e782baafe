/- Where each function stands in the table. -/
import Derived.Test.YtgdlplhglpinaaaEventIr
import Derived.KernelRfl

namespace Go.Proofs.Ytgdlplhglpinaaa
open Go Go.Ir

theorem Fn.sidingslaw08_EventCalls : tbl.lookup Id.sidingslaw08_EventCalls = some F.sidingslaw08_EventCalls := by kernel_rfl
theorem Fn.sidingslaw08_EventBefore : tbl.lookup Id.sidingslaw08_EventBefore = some F.sidingslaw08_EventBefore := by kernel_rfl
theorem Fn.sidingslaw08_EventTurns : tbl.lookup Id.sidingslaw08_EventTurns = some F.sidingslaw08_EventTurns := by kernel_rfl
theorem Fn.sidingslaw08_EventCut : tbl.lookup Id.sidingslaw08_EventCut = some F.sidingslaw08_EventCut := by kernel_rfl
theorem Fn.sidingslaw08_EventApart : tbl.lookup Id.sidingslaw08_EventApart = some F.sidingslaw08_EventApart := by kernel_rfl
theorem Fn.sidingslaw08_EventHandles : tbl.lookup Id.sidingslaw08_EventHandles = some F.sidingslaw08_EventHandles := by kernel_rfl
theorem Fn.sidingslaw08_live : tbl.lookup Id.sidingslaw08_live = some F.sidingslaw08_live := by kernel_rfl
theorem Fn.event_Calls : tbl.lookup Id.event_Calls = some F.event_Calls := by kernel_rfl
theorem Fn.sidingsref08_Calls : tbl.lookup Id.sidingsref08_Calls = some F.sidingsref08_Calls := by kernel_rfl
theorem Fn.sidingsref08_Same : tbl.lookup Id.sidingsref08_Same = some F.sidingsref08_Same := by kernel_rfl
theorem Fn.sidingslaw08_all : tbl.lookup Id.sidingslaw08_all = some F.sidingslaw08_all := by kernel_rfl
theorem Fn.event_Check : tbl.lookup Id.event_Check = some F.event_Check := by kernel_rfl
theorem Fn.sidingsref08_Check : tbl.lookup Id.sidingsref08_Check = some F.sidingsref08_Check := by kernel_rfl
theorem Fn.sidingsref01_Same : tbl.lookup Id.sidingsref01_Same = some F.sidingsref01_Same := by kernel_rfl
theorem Fn.event_Handles : tbl.lookup Id.event_Handles = some F.event_Handles := by kernel_rfl
theorem Fn.sidingsref08_Handles : tbl.lookup Id.sidingsref08_Handles = some F.sidingsref08_Handles := by kernel_rfl
theorem Fn.event_Before : tbl.lookup Id.event_Before = some F.event_Before := by kernel_rfl
theorem Fn.sidingslaw08_own : tbl.lookup Id.sidingslaw08_own = some F.sidingslaw08_own := by kernel_rfl
theorem Fn.sidingsref08_Before : tbl.lookup Id.sidingsref08_Before = some F.sidingsref08_Before := by kernel_rfl
theorem Fn.sidingsref08_answer : tbl.lookup Id.sidingsref08_answer = some F.sidingsref08_answer := by kernel_rfl
theorem Fn.sidingslaw08_told : tbl.lookup Id.sidingslaw08_told = some F.sidingslaw08_told := by kernel_rfl
theorem Fn.sidingsref08_turn : tbl.lookup Id.sidingsref08_turn = some F.sidingsref08_turn := by kernel_rfl
theorem Fn.slices_Sort_Lint : tbl.lookup Id.slices_Sort_Lint = some F.slices_Sort_Lint := by kernel_rfl
theorem Fn.slices_Compact_Lint : tbl.lookup Id.slices_Compact_Lint = some F.slices_Compact_Lint := by kernel_rfl
theorem Fn.slices_pdqsortOrdered_int : tbl.lookup Id.slices_pdqsortOrdered_int = some F.slices_pdqsortOrdered_int := by kernel_rfl
theorem Fn.math_bits_Len : tbl.lookup Id.math_bits_Len = some F.math_bits_Len := by kernel_rfl
theorem Fn.slices_insertionSortOrdered_int : tbl.lookup Id.slices_insertionSortOrdered_int = some F.slices_insertionSortOrdered_int := by kernel_rfl
theorem Fn.slices_heapSortOrdered_int : tbl.lookup Id.slices_heapSortOrdered_int = some F.slices_heapSortOrdered_int := by kernel_rfl
theorem Fn.slices_breakPatternsOrdered_int : tbl.lookup Id.slices_breakPatternsOrdered_int = some F.slices_breakPatternsOrdered_int := by kernel_rfl
theorem Fn.slices_choosePivotOrdered_int : tbl.lookup Id.slices_choosePivotOrdered_int = some F.slices_choosePivotOrdered_int := by kernel_rfl
theorem Fn.slices_reverseRangeOrdered_int : tbl.lookup Id.slices_reverseRangeOrdered_int = some F.slices_reverseRangeOrdered_int := by kernel_rfl
theorem Fn.slices_partialInsertionSortOrdered_int : tbl.lookup Id.slices_partialInsertionSortOrdered_int = some F.slices_partialInsertionSortOrdered_int := by kernel_rfl
theorem Fn.cmp_Less_int : tbl.lookup Id.cmp_Less_int = some F.cmp_Less_int := by kernel_rfl
theorem Fn.slices_partitionEqualOrdered_int : tbl.lookup Id.slices_partitionEqualOrdered_int = some F.slices_partitionEqualOrdered_int := by kernel_rfl
theorem Fn.slices_partitionOrdered_int : tbl.lookup Id.slices_partitionOrdered_int = some F.slices_partitionOrdered_int := by kernel_rfl
theorem Fn.math_bits_Len32 : tbl.lookup Id.math_bits_Len32 = some F.math_bits_Len32 := by kernel_rfl
theorem Fn.math_bits_Len64 : tbl.lookup Id.math_bits_Len64 = some F.math_bits_Len64 := by kernel_rfl
theorem Fn.slices_siftDownOrdered_int : tbl.lookup Id.slices_siftDownOrdered_int = some F.slices_siftDownOrdered_int := by kernel_rfl
theorem Fn.slices_nextPowerOfTwo : tbl.lookup Id.slices_nextPowerOfTwo = some F.slices_nextPowerOfTwo := by kernel_rfl
theorem Fn.slices_xorshift_Next : tbl.lookup Id.slices_xorshift_Next = some F.slices_xorshift_Next := by kernel_rfl
theorem Fn.slices_medianAdjacentOrdered_int : tbl.lookup Id.slices_medianAdjacentOrdered_int = some F.slices_medianAdjacentOrdered_int := by kernel_rfl
theorem Fn.slices_medianOrdered_int : tbl.lookup Id.slices_medianOrdered_int = some F.slices_medianOrdered_int := by kernel_rfl
theorem Fn.cmp_isNaN_int : tbl.lookup Id.cmp_isNaN_int = some F.cmp_isNaN_int := by kernel_rfl
theorem Fn.slices_order2Ordered_int : tbl.lookup Id.slices_order2Ordered_int = some F.slices_order2Ordered_int := by kernel_rfl

end Go.Proofs.Ytgdlplhglpinaaa
