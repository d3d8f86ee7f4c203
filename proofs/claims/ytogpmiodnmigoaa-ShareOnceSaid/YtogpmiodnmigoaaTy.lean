/-
  Facts on the types and functions of the translation, one a line, each by the kernel. Printed by a program of this session (gen.py).
-/
import Derived.Test.YtogpmiodnmigoaaDraw
import Derived.Test.YtogpmiodnmigoaaProg
namespace Go.Proofs.Ytogpmiodnmigoaa
open Go
theorem ti3 : TI Try.prog 3 (.int .i64 (0)) 1 8 := by unfold TI; kernel_rfl
theorem ti22 : TI Try.prog 22 (.int .u64 (0)) 1 8 := by unfold TI; kernel_rfl
theorem ti25 : TI Try.prog 25 (.slice none 0 0) 1 24 := by unfold TI; kernel_rfl
theorem ti33 : TI Try.prog 33 (.agg #[.int .i64 (0), .int .u64 (0)]) 2 16 := by unfold TI; kernel_rfl
theorem ti56 : TI Try.prog 56 (.nilFunc) 1 8 := by unfold TI; kernel_rfl
theorem ag3 : (Try.prog.underlying 3).map aggD = some false := by kernel_rfl
theorem ag22 : (Try.prog.underlying 22).map aggD = some false := by kernel_rfl
theorem ag25 : (Try.prog.underlying 25).map aggD = some false := by kernel_rfl
theorem ag33 : (Try.prog.underlying 33).map aggD = some true := by kernel_rfl
theorem ag56 : (Try.prog.underlying 56).map aggD = some false := by kernel_rfl
theorem fo33_0 : fof Try.prog 33 0 = some (0, 1) := by kernel_rfl
theorem fo33_1 : fof Try.prog 33 1 = some (1, 1) := by kernel_rfl
theorem la33 : Lay Try.prog 33 [.int .i64 (0), .int .u64 (0)] [(0, 1), (1, 1)] := by unfold Lay; kernel_rfl
theorem en3 : Ent Try.prog 3 Try.f3 := ⟨Try.func3, by kernel_rfl, by kernel_rfl⟩
theorem en4 : Ent Try.prog 4 Try.f4 := ⟨Try.func4, by kernel_rfl, by kernel_rfl⟩
theorem en5 : Ent Try.prog 5 Try.f5 := ⟨Try.func5, by kernel_rfl, by kernel_rfl⟩
theorem en6 : Ent Try.prog 6 Try.f6 := ⟨Try.func6, by kernel_rfl, by kernel_rfl⟩
theorem en7 : Ent Try.prog 7 Try.f7 := ⟨Try.func7, by kernel_rfl, by kernel_rfl⟩
theorem en8 : Ent Try.prog 8 Try.f8 := ⟨Try.func8, by kernel_rfl, by kernel_rfl⟩
theorem en9 : Ent Try.prog 9 Try.f9 := ⟨Try.func9, by kernel_rfl, by kernel_rfl⟩
theorem en10 : Ent Try.prog 10 Try.f10 := ⟨Try.func10, by kernel_rfl, by kernel_rfl⟩
theorem en11 : Ent Try.prog 11 Try.f11 := ⟨Try.func11, by kernel_rfl, by kernel_rfl⟩
theorem en12 : Ent Try.prog 12 Try.f12 := ⟨Try.func12, by kernel_rfl, by kernel_rfl⟩
theorem en13 : Ent Try.prog 13 Try.f13 := ⟨Try.func13, by kernel_rfl, by kernel_rfl⟩
theorem en14 : Ent Try.prog 14 Try.f14 := ⟨Try.func14, by kernel_rfl, by kernel_rfl⟩
theorem en15 : Ent Try.prog 15 Try.f15 := ⟨Try.func15, by kernel_rfl, by kernel_rfl⟩
theorem en16 : Ent Try.prog 16 Try.f16 := ⟨Try.func16, by kernel_rfl, by kernel_rfl⟩
theorem en17 : Ent Try.prog 17 Try.f17 := ⟨Try.func17, by kernel_rfl, by kernel_rfl⟩
theorem en18 : Ent Try.prog 18 Try.f18 := ⟨Try.func18, by kernel_rfl, by kernel_rfl⟩
theorem en19 : Ent Try.prog 19 Try.f19 := ⟨Try.func19, by kernel_rfl, by kernel_rfl⟩
theorem en20 : Ent Try.prog 20 Try.f20 := ⟨Try.func20, by kernel_rfl, by kernel_rfl⟩
theorem en21 : Ent Try.prog 21 Try.f21 := ⟨Try.func21, by kernel_rfl, by kernel_rfl⟩
theorem en22 : Ent Try.prog 22 Try.f22 := ⟨Try.func22, by kernel_rfl, by kernel_rfl⟩
theorem en23 : Ent Try.prog 23 Try.f23 := ⟨Try.func23, by kernel_rfl, by kernel_rfl⟩
theorem en24 : Ent Try.prog 24 Try.f24 := ⟨Try.func24, by kernel_rfl, by kernel_rfl⟩
theorem en25 : Ent Try.prog 25 Try.f25 := ⟨Try.func25, by kernel_rfl, by kernel_rfl⟩
theorem en26 : Ent Try.prog 26 Try.f26 := ⟨Try.func26, by kernel_rfl, by kernel_rfl⟩
theorem en27 : Ent Try.prog 27 Try.f27 := ⟨Try.func27, by kernel_rfl, by kernel_rfl⟩
theorem en28 : Ent Try.prog 28 Try.f28 := ⟨Try.func28, by kernel_rfl, by kernel_rfl⟩
theorem en29 : Ent Try.prog 29 Try.f29 := ⟨Try.func29, by kernel_rfl, by kernel_rfl⟩
theorem en30 : Ent Try.prog 30 Try.f30 := ⟨Try.func30, by kernel_rfl, by kernel_rfl⟩
theorem en31 : Ent Try.prog 31 Try.f31 := ⟨Try.func31, by kernel_rfl, by kernel_rfl⟩
theorem en32 : Ent Try.prog 32 Try.f32 := ⟨Try.func32, by kernel_rfl, by kernel_rfl⟩
theorem en33 : Ent Try.prog 33 Try.f33 := ⟨Try.func33, by kernel_rfl, by kernel_rfl⟩
theorem en34 : Ent Try.prog 34 Try.f34 := ⟨Try.func34, by kernel_rfl, by kernel_rfl⟩
theorem en35 : Ent Try.prog 35 Try.f35 := ⟨Try.func35, by kernel_rfl, by kernel_rfl⟩
theorem en36 : Ent Try.prog 36 Try.f36 := ⟨Try.func36, by kernel_rfl, by kernel_rfl⟩
theorem en37 : Ent Try.prog 37 Try.f37 := ⟨Try.func37, by kernel_rfl, by kernel_rfl⟩
theorem en38 : Ent Try.prog 38 Try.f38 := ⟨Try.func38, by kernel_rfl, by kernel_rfl⟩
theorem en39 : Ent Try.prog 39 Try.f39 := ⟨Try.func39, by kernel_rfl, by kernel_rfl⟩
theorem en40 : Ent Try.prog 40 Try.f40 := ⟨Try.func40, by kernel_rfl, by kernel_rfl⟩
theorem en41 : Ent Try.prog 41 Try.f41 := ⟨Try.func41, by kernel_rfl, by kernel_rfl⟩
theorem en42 : Ent Try.prog 42 Try.f42 := ⟨Try.func42, by kernel_rfl, by kernel_rfl⟩
theorem en43 : Ent Try.prog 43 Try.f43 := ⟨Try.func43, by kernel_rfl, by kernel_rfl⟩
theorem en44 : Ent Try.prog 44 Try.f44 := ⟨Try.func44, by kernel_rfl, by kernel_rfl⟩
theorem en45 : Ent Try.prog 45 Try.f45 := ⟨Try.func45, by kernel_rfl, by kernel_rfl⟩
theorem en46 : Ent Try.prog 46 Try.f46 := ⟨Try.func46, by kernel_rfl, by kernel_rfl⟩
theorem en47 : Ent Try.prog 47 Try.f47 := ⟨Try.func47, by kernel_rfl, by kernel_rfl⟩
theorem en48 : Ent Try.prog 48 Try.f48 := ⟨Try.func48, by kernel_rfl, by kernel_rfl⟩
theorem en49 : Ent Try.prog 49 Try.f49 := ⟨Try.func49, by kernel_rfl, by kernel_rfl⟩
theorem en50 : Ent Try.prog 50 Try.f50 := ⟨Try.func50, by kernel_rfl, by kernel_rfl⟩
theorem en51 : Ent Try.prog 51 Try.f51 := ⟨Try.func51, by kernel_rfl, by kernel_rfl⟩
theorem en52 : Ent Try.prog 52 Try.f52 := ⟨Try.func52, by kernel_rfl, by kernel_rfl⟩
theorem en53 : Ent Try.prog 53 Try.f53 := ⟨Try.func53, by kernel_rfl, by kernel_rfl⟩
theorem en54 : Ent Try.prog 54 Try.f54 := ⟨Try.func54, by kernel_rfl, by kernel_rfl⟩
theorem en55 : Ent Try.prog 55 Try.f55 := ⟨Try.func55, by kernel_rfl, by kernel_rfl⟩
theorem mix : Try.prog.follows .mixedOrders = true := by kernel_rfl
end Go.Proofs.Ytogpmiodnmigoaa
