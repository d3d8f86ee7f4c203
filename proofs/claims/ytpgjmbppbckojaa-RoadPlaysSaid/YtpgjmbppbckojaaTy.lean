/-
  Facts on the types and functions of the translation, one a line, each by the kernel. Printed by a program of this session (gen.py).
-/
import Derived.Test.YtpgjmbppbckojaaDraw
import Derived.Test.YtpgjmbppbckojaaProg
namespace Go.Proofs.Ytpgjmbppbckojaa
open Go
theorem ti3 : TI Try.prog 3 (.int .i64 (0)) 1 8 := by unfold TI; kernel_rfl
theorem ti4 : TI Try.prog 4 (.bool false) 1 1 := by unfold TI; kernel_rfl
theorem ti5 : TI Try.prog 5 (.int .u8 (0)) 1 1 := by unfold TI; kernel_rfl
theorem ti26 : TI Try.prog 26 (.slice none 0 0) 1 24 := by unfold TI; kernel_rfl
theorem ti27 : TI Try.prog 27 (.slice none 0 0) 1 24 := by unfold TI; kernel_rfl
theorem ti29 : TI Try.prog 29 (.agg #[.int .i64 (0), .bool false, .bool false, .slice none 0 0]) 4 40 := by unfold TI; kernel_rfl
theorem ti31 : TI Try.prog 31 (.agg #[.int .i64 (0), .int .i64 (0), .int .i64 (0), .int .i64 (0), .bool false, .bool false, .slice none 0 0]) 7 64 := by unfold TI; kernel_rfl
theorem ti49 : TI Try.prog 49 (.agg #[.slice none 0 0]) 1 24 := by unfold TI; kernel_rfl
theorem ag3 : (Try.prog.underlying 3).map aggD = some false := by kernel_rfl
theorem ag4 : (Try.prog.underlying 4).map aggD = some false := by kernel_rfl
theorem ag5 : (Try.prog.underlying 5).map aggD = some false := by kernel_rfl
theorem ag26 : (Try.prog.underlying 26).map aggD = some false := by kernel_rfl
theorem ag27 : (Try.prog.underlying 27).map aggD = some false := by kernel_rfl
theorem ag29 : (Try.prog.underlying 29).map aggD = some true := by kernel_rfl
theorem ag31 : (Try.prog.underlying 31).map aggD = some true := by kernel_rfl
theorem fo29_0 : fof Try.prog 29 0 = some (0, 1) := by kernel_rfl
theorem fo29_1 : fof Try.prog 29 1 = some (1, 1) := by kernel_rfl
theorem fo29_2 : fof Try.prog 29 2 = some (2, 1) := by kernel_rfl
theorem fo29_3 : fof Try.prog 29 3 = some (3, 1) := by kernel_rfl
theorem fo31_0 : fof Try.prog 31 0 = some (0, 1) := by kernel_rfl
theorem fo31_1 : fof Try.prog 31 1 = some (1, 1) := by kernel_rfl
theorem fo31_2 : fof Try.prog 31 2 = some (2, 1) := by kernel_rfl
theorem fo31_3 : fof Try.prog 31 3 = some (3, 4) := by kernel_rfl
theorem fo47_0 : fof Try.prog 47 0 = some (0, 1) := by kernel_rfl
theorem fo49_0 : fof Try.prog 49 0 = some (0, 1) := by kernel_rfl
theorem la29 : Lay Try.prog 29 [.int .i64 (0), .bool false, .bool false, .slice none 0 0] [(0, 1), (1, 1), (2, 1), (3, 1)] := by unfold Lay; kernel_rfl
theorem la49 : Lay Try.prog 49 [.slice none 0 0] [(0, 1)] := by unfold Lay; kernel_rfl
theorem en3 : Ent Try.prog 3 Try.f3 := ⟨Try.func3, by kernel_rfl, by kernel_rfl⟩
theorem en4 : Ent Try.prog 4 Try.f4 := ⟨Try.func4, by kernel_rfl, by kernel_rfl⟩
theorem en5 : Ent Try.prog 5 Try.f5 := ⟨Try.func5, by kernel_rfl, by kernel_rfl⟩
theorem en6 : Ent Try.prog 6 Try.f6 := ⟨Try.func6, by kernel_rfl, by kernel_rfl⟩
theorem en7 : Ent Try.prog 7 Try.f7 := ⟨Try.func7, by kernel_rfl, by kernel_rfl⟩
theorem en8 : Ent Try.prog 8 Try.f8 := ⟨Try.func8, by kernel_rfl, by kernel_rfl⟩
theorem en9 : Ent Try.prog 9 Try.f9 := ⟨Try.func9, by kernel_rfl, by kernel_rfl⟩
theorem en10 : Ent Try.prog 10 Try.f10 := ⟨Try.func10, by kernel_rfl, by kernel_rfl⟩
theorem en11 : Ent Try.prog 11 Try.f11 := ⟨Try.func11, by kernel_rfl, by kernel_rfl⟩
theorem en12 : Ent Try.prog 12 Try.f12 := ⟨Try.func12, by kernel_rfl, by kernel_rfl⟩
theorem en13 : Ent Try.prog 13 Try.f13 := ⟨Try.func13, by kernel_rfl, by kernel_rfl⟩
theorem en14 : Ent Try.prog 14 Try.f14 := ⟨Try.func14, by kernel_rfl, by kernel_rfl⟩
theorem en15 : Ent Try.prog 15 Try.f15 := ⟨Try.func15, by kernel_rfl, by kernel_rfl⟩
theorem en16 : Ent Try.prog 16 Try.f16 := ⟨Try.func16, by kernel_rfl, by kernel_rfl⟩
theorem en17 : Ent Try.prog 17 Try.f17 := ⟨Try.func17, by kernel_rfl, by kernel_rfl⟩
theorem en18 : Ent Try.prog 18 Try.f18 := ⟨Try.func18, by kernel_rfl, by kernel_rfl⟩
theorem en19 : Ent Try.prog 19 Try.f19 := ⟨Try.func19, by kernel_rfl, by kernel_rfl⟩
theorem en20 : Ent Try.prog 20 Try.f20 := ⟨Try.func20, by kernel_rfl, by kernel_rfl⟩
theorem en21 : Ent Try.prog 21 Try.f21 := ⟨Try.func21, by kernel_rfl, by kernel_rfl⟩
theorem mix : Try.prog.follows .mixedOrders = true := by kernel_rfl
end Go.Proofs.Ytpgjmbppbckojaa
