/-
  Facts on the types and functions of the translation, one a line, each by the kernel. Printed by a program of this session (gen.py).
-/
import Derived.Test.YtbcaooiphalkoaaArr
import Derived.Test.YtbcaooiphalkoaaProg
namespace Go.Proofs.Ytbcaooiphalkoaa
open Go
theorem ti3 : TI Try.prog 3 (.int .i64 (0)) 1 8 := by unfold TI; kernel_rfl
theorem ti4 : TI Try.prog 4 (.bool false) 1 1 := by unfold TI; kernel_rfl
theorem ti5 : TI Try.prog 5 (.int .u8 (0)) 1 1 := by unfold TI; kernel_rfl
theorem ti22 : TI Try.prog 22 (.int .i64 (0)) 1 8 := by unfold TI; kernel_rfl
theorem ti23 : TI Try.prog 23 (.slice none 0 0) 1 24 := by unfold TI; kernel_rfl
theorem ti24 : TI Try.prog 24 (.slice none 0 0) 1 24 := by unfold TI; kernel_rfl
theorem ti25 : TI Try.prog 25 (.slice none 0 0) 1 24 := by unfold TI; kernel_rfl
theorem ti26 : TI Try.prog 26 (.slice none 0 0) 1 24 := by unfold TI; kernel_rfl
theorem ti27 : TI Try.prog 27 (.slice none 0 0) 1 24 := by unfold TI; kernel_rfl
theorem ti29 : TI Try.prog 29 (.agg #[.int .i64 (0), .int .i64 (0), .int .i64 (0), .slice none 0 0, .slice none 0 0, .slice none 0 0, .slice none 0 0, .slice none 0 0]) 8 144 := by unfold TI; kernel_rfl
theorem ti32 : TI Try.prog 32 (.slice none 0 0) 1 24 := by unfold TI; kernel_rfl
theorem ti46 : TI Try.prog 46 (.agg #[.int .i64 (0), .int .i64 (0), .int .i64 (0), .slice none 0 0, .slice none 0 0, .slice none 0 0, .slice none 0 0, .slice none 0 0]) 8 144 := by unfold TI; kernel_rfl
theorem ti48 : TI Try.prog 48 (.int .u64 (0)) 1 8 := by unfold TI; kernel_rfl
theorem ti50 : TI Try.prog 50 (.agg #[.int .i64 (0), .int .u64 (0), .int .u64 (0)]) 3 24 := by unfold TI; kernel_rfl
theorem ti52 : TI Try.prog 52 (.agg #[.int .i64 (0), .int .i64 (0), .slice none 0 0]) 3 40 := by unfold TI; kernel_rfl
theorem ti53 : TI Try.prog 53 (.slice none 0 0) 1 24 := by unfold TI; kernel_rfl
theorem ti55 : TI Try.prog 55 (.agg #[.int .i64 (0), .bool false, .slice none 0 0]) 3 40 := by unfold TI; kernel_rfl
theorem ti56 : TI Try.prog 56 (.agg #[.int .i64 (0), .int .i64 (0), .int .i64 (0), .int .i64 (0), .int .i64 (0), .int .i64 (0), .int .i64 (0), .int .i64 (0), .int .i64 (0)]) 9 72 := by unfold TI; kernel_rfl
theorem ti63 : TI Try.prog 63 (.int .u32 (0)) 1 4 := by unfold TI; kernel_rfl
theorem ti66 : TI Try.prog 66 (.pointer none) 1 8 := by unfold TI; kernel_rfl
theorem ti69 : TI Try.prog 69 (.agg #[.pointer none, .bool false]) 2 16 := by unfold TI; kernel_rfl
theorem ti95 : TI Try.prog 95 (.agg #[.slice none 0 0, .bool false]) 2 32 := by unfold TI; kernel_rfl
theorem ti100 : TI Try.prog 100 (.agg #[.slice none 0 0, .int .i64 (0)]) 2 32 := by unfold TI; kernel_rfl
theorem ti105 : TI Try.prog 105 (.agg #[.int .i64 (0), .int .i64 (0)]) 2 16 := by unfold TI; kernel_rfl
theorem ti106 : TI Try.prog 106 (.agg #[.int .i64 (0), .int .i64 (0), .int .i64 (0), .int .i64 (0), .int .i64 (0), .int .i64 (0), .int .i64 (0), .int .i64 (0), .int .i64 (0), .int .i64 (0), .int .i64 (0), .int .i64 (0)]) 12 96 := by unfold TI; kernel_rfl
theorem ag3 : (Try.prog.underlying 3).map aggD = some false := by kernel_rfl
theorem ag4 : (Try.prog.underlying 4).map aggD = some false := by kernel_rfl
theorem ag5 : (Try.prog.underlying 5).map aggD = some false := by kernel_rfl
theorem ag22 : (Try.prog.underlying 22).map aggD = some false := by kernel_rfl
theorem ag23 : (Try.prog.underlying 23).map aggD = some false := by kernel_rfl
theorem ag24 : (Try.prog.underlying 24).map aggD = some false := by kernel_rfl
theorem ag25 : (Try.prog.underlying 25).map aggD = some false := by kernel_rfl
theorem ag26 : (Try.prog.underlying 26).map aggD = some false := by kernel_rfl
theorem ag27 : (Try.prog.underlying 27).map aggD = some false := by kernel_rfl
theorem ag29 : (Try.prog.underlying 29).map aggD = some true := by kernel_rfl
theorem ag32 : (Try.prog.underlying 32).map aggD = some false := by kernel_rfl
theorem ag48 : (Try.prog.underlying 48).map aggD = some false := by kernel_rfl
theorem ag50 : (Try.prog.underlying 50).map aggD = some true := by kernel_rfl
theorem ag52 : (Try.prog.underlying 52).map aggD = some true := by kernel_rfl
theorem ag53 : (Try.prog.underlying 53).map aggD = some false := by kernel_rfl
theorem ag55 : (Try.prog.underlying 55).map aggD = some true := by kernel_rfl
theorem ag56 : (Try.prog.underlying 56).map aggD = some true := by kernel_rfl
theorem ag63 : (Try.prog.underlying 63).map aggD = some false := by kernel_rfl
theorem ag66 : (Try.prog.underlying 66).map aggD = some false := by kernel_rfl
theorem ag105 : (Try.prog.underlying 105).map aggD = some true := by kernel_rfl
theorem ag106 : (Try.prog.underlying 106).map aggD = some true := by kernel_rfl
theorem fo29_0 : fof Try.prog 29 0 = some (0, 1) := by kernel_rfl
theorem fo29_1 : fof Try.prog 29 1 = some (1, 1) := by kernel_rfl
theorem fo29_2 : fof Try.prog 29 2 = some (2, 1) := by kernel_rfl
theorem fo29_3 : fof Try.prog 29 3 = some (3, 1) := by kernel_rfl
theorem fo29_4 : fof Try.prog 29 4 = some (4, 1) := by kernel_rfl
theorem fo29_5 : fof Try.prog 29 5 = some (5, 1) := by kernel_rfl
theorem fo29_6 : fof Try.prog 29 6 = some (6, 1) := by kernel_rfl
theorem fo29_7 : fof Try.prog 29 7 = some (7, 1) := by kernel_rfl
theorem fo46_0 : fof Try.prog 46 0 = some (0, 8) := by kernel_rfl
theorem fo50_0 : fof Try.prog 50 0 = some (0, 1) := by kernel_rfl
theorem fo50_1 : fof Try.prog 50 1 = some (1, 1) := by kernel_rfl
theorem fo50_2 : fof Try.prog 50 2 = some (2, 1) := by kernel_rfl
theorem fo52_0 : fof Try.prog 52 0 = some (0, 1) := by kernel_rfl
theorem fo52_1 : fof Try.prog 52 1 = some (1, 1) := by kernel_rfl
theorem fo52_2 : fof Try.prog 52 2 = some (2, 1) := by kernel_rfl
theorem fo55_0 : fof Try.prog 55 0 = some (0, 1) := by kernel_rfl
theorem fo55_1 : fof Try.prog 55 1 = some (1, 1) := by kernel_rfl
theorem fo55_2 : fof Try.prog 55 2 = some (2, 1) := by kernel_rfl
theorem fo69_0 : fof Try.prog 69 0 = some (0, 1) := by kernel_rfl
theorem fo69_1 : fof Try.prog 69 1 = some (1, 1) := by kernel_rfl
theorem fo95_0 : fof Try.prog 95 0 = some (0, 1) := by kernel_rfl
theorem fo95_1 : fof Try.prog 95 1 = some (1, 1) := by kernel_rfl
theorem fo100_0 : fof Try.prog 100 0 = some (0, 1) := by kernel_rfl
theorem fo100_1 : fof Try.prog 100 1 = some (1, 1) := by kernel_rfl
theorem la29 : Lay Try.prog 29 [.int .i64 (0), .int .i64 (0), .int .i64 (0), .slice none 0 0, .slice none 0 0, .slice none 0 0, .slice none 0 0, .slice none 0 0] [(0, 1), (1, 1), (2, 1), (3, 1), (4, 1), (5, 1), (6, 1), (7, 1)] := by unfold Lay; kernel_rfl
theorem la46 : Lay Try.prog 46 [.int .i64 (0), .int .i64 (0), .int .i64 (0), .slice none 0 0, .slice none 0 0, .slice none 0 0, .slice none 0 0, .slice none 0 0] [(0, 8)] := by unfold Lay; kernel_rfl
theorem la50 : Lay Try.prog 50 [.int .i64 (0), .int .u64 (0), .int .u64 (0)] [(0, 1), (1, 1), (2, 1)] := by unfold Lay; kernel_rfl
theorem la52 : Lay Try.prog 52 [.int .i64 (0), .int .i64 (0), .slice none 0 0] [(0, 1), (1, 1), (2, 1)] := by unfold Lay; kernel_rfl
theorem la55 : Lay Try.prog 55 [.int .i64 (0), .bool false, .slice none 0 0] [(0, 1), (1, 1), (2, 1)] := by unfold Lay; kernel_rfl
theorem la56 : LayA Try.prog 56 [.int .i64 (0), .int .i64 (0), .int .i64 (0), .int .i64 (0), .int .i64 (0), .int .i64 (0), .int .i64 (0), .int .i64 (0), .int .i64 (0)] 9 1 := by unfold LayA; kernel_rfl
theorem la69 : Lay Try.prog 69 [.pointer none, .bool false] [(0, 1), (1, 1)] := by unfold Lay; kernel_rfl
theorem la95 : Lay Try.prog 95 [.slice none 0 0, .bool false] [(0, 1), (1, 1)] := by unfold Lay; kernel_rfl
theorem la100 : Lay Try.prog 100 [.slice none 0 0, .int .i64 (0)] [(0, 1), (1, 1)] := by unfold Lay; kernel_rfl
theorem la105 : LayA Try.prog 105 [.int .i64 (0), .int .i64 (0)] 2 1 := by unfold LayA; kernel_rfl
theorem la106 : LayA Try.prog 106 [.int .i64 (0), .int .i64 (0), .int .i64 (0), .int .i64 (0), .int .i64 (0), .int .i64 (0), .int .i64 (0), .int .i64 (0), .int .i64 (0), .int .i64 (0), .int .i64 (0), .int .i64 (0)] 6 2 := by unfold LayA; kernel_rfl
theorem en3 : Ent Try.prog 3 Try.f3 := ⟨Try.func3, by kernel_rfl, by kernel_rfl⟩
theorem en4 : Ent Try.prog 4 Try.f4 := ⟨Try.func4, by kernel_rfl, by kernel_rfl⟩
theorem en5 : Ent Try.prog 5 Try.f5 := ⟨Try.func5, by kernel_rfl, by kernel_rfl⟩
theorem en6 : Ent Try.prog 6 Try.f6 := ⟨Try.func6, by kernel_rfl, by kernel_rfl⟩
theorem en7 : Ent Try.prog 7 Try.f7 := ⟨Try.func7, by kernel_rfl, by kernel_rfl⟩
theorem en8 : Ent Try.prog 8 Try.f8 := ⟨Try.func8, by kernel_rfl, by kernel_rfl⟩
theorem en9 : Ent Try.prog 9 Try.f9 := ⟨Try.func9, by kernel_rfl, by kernel_rfl⟩
theorem en10 : Ent Try.prog 10 Try.f10 := ⟨Try.func10, by kernel_rfl, by kernel_rfl⟩
theorem en11 : Ent Try.prog 11 Try.f11 := ⟨Try.func11, by kernel_rfl, by kernel_rfl⟩
theorem en12 : Ent Try.prog 12 Try.f12 := ⟨Try.func12, by kernel_rfl, by kernel_rfl⟩
theorem en13 : Ent Try.prog 13 Try.f13 := ⟨Try.func13, by kernel_rfl, by kernel_rfl⟩
theorem en14 : Ent Try.prog 14 Try.f14 := ⟨Try.func14, by kernel_rfl, by kernel_rfl⟩
theorem en15 : Ent Try.prog 15 Try.f15 := ⟨Try.func15, by kernel_rfl, by kernel_rfl⟩
theorem en16 : Ent Try.prog 16 Try.f16 := ⟨Try.func16, by kernel_rfl, by kernel_rfl⟩
theorem en17 : Ent Try.prog 17 Try.f17 := ⟨Try.func17, by kernel_rfl, by kernel_rfl⟩
theorem en18 : Ent Try.prog 18 Try.f18 := ⟨Try.func18, by kernel_rfl, by kernel_rfl⟩
theorem en19 : Ent Try.prog 19 Try.f19 := ⟨Try.func19, by kernel_rfl, by kernel_rfl⟩
theorem en20 : Ent Try.prog 20 Try.f20 := ⟨Try.func20, by kernel_rfl, by kernel_rfl⟩
theorem en21 : Ent Try.prog 21 Try.f21 := ⟨Try.func21, by kernel_rfl, by kernel_rfl⟩
theorem en22 : Ent Try.prog 22 Try.f22 := ⟨Try.func22, by kernel_rfl, by kernel_rfl⟩
theorem en23 : Ent Try.prog 23 Try.f23 := ⟨Try.func23, by kernel_rfl, by kernel_rfl⟩
theorem en24 : Ent Try.prog 24 Try.f24 := ⟨Try.func24, by kernel_rfl, by kernel_rfl⟩
theorem en25 : Ent Try.prog 25 Try.f25 := ⟨Try.func25, by kernel_rfl, by kernel_rfl⟩
theorem en26 : Ent Try.prog 26 Try.f26 := ⟨Try.func26, by kernel_rfl, by kernel_rfl⟩
theorem en27 : Ent Try.prog 27 Try.f27 := ⟨Try.func27, by kernel_rfl, by kernel_rfl⟩
theorem en28 : Ent Try.prog 28 Try.f28 := ⟨Try.func28, by kernel_rfl, by kernel_rfl⟩
theorem en29 : Ent Try.prog 29 Try.f29 := ⟨Try.func29, by kernel_rfl, by kernel_rfl⟩
theorem en30 : Ent Try.prog 30 Try.f30 := ⟨Try.func30, by kernel_rfl, by kernel_rfl⟩
theorem en31 : Ent Try.prog 31 Try.f31 := ⟨Try.func31, by kernel_rfl, by kernel_rfl⟩
theorem en32 : Ent Try.prog 32 Try.f32 := ⟨Try.func32, by kernel_rfl, by kernel_rfl⟩
theorem en33 : Ent Try.prog 33 Try.f33 := ⟨Try.func33, by kernel_rfl, by kernel_rfl⟩
theorem en34 : Ent Try.prog 34 Try.f34 := ⟨Try.func34, by kernel_rfl, by kernel_rfl⟩
theorem en35 : Ent Try.prog 35 Try.f35 := ⟨Try.func35, by kernel_rfl, by kernel_rfl⟩
theorem en36 : Ent Try.prog 36 Try.f36 := ⟨Try.func36, by kernel_rfl, by kernel_rfl⟩
theorem en37 : Ent Try.prog 37 Try.f37 := ⟨Try.func37, by kernel_rfl, by kernel_rfl⟩
theorem en38 : Ent Try.prog 38 Try.f38 := ⟨Try.func38, by kernel_rfl, by kernel_rfl⟩
theorem en39 : Ent Try.prog 39 Try.f39 := ⟨Try.func39, by kernel_rfl, by kernel_rfl⟩
theorem en40 : Ent Try.prog 40 Try.f40 := ⟨Try.func40, by kernel_rfl, by kernel_rfl⟩
theorem en41 : Ent Try.prog 41 Try.f41 := ⟨Try.func41, by kernel_rfl, by kernel_rfl⟩
theorem en42 : Ent Try.prog 42 Try.f42 := ⟨Try.func42, by kernel_rfl, by kernel_rfl⟩
theorem en43 : Ent Try.prog 43 Try.f43 := ⟨Try.func43, by kernel_rfl, by kernel_rfl⟩
theorem en44 : Ent Try.prog 44 Try.f44 := ⟨Try.func44, by kernel_rfl, by kernel_rfl⟩
theorem en45 : Ent Try.prog 45 Try.f45 := ⟨Try.func45, by kernel_rfl, by kernel_rfl⟩
theorem en46 : Ent Try.prog 46 Try.f46 := ⟨Try.func46, by kernel_rfl, by kernel_rfl⟩
theorem en47 : Ent Try.prog 47 Try.f47 := ⟨Try.func47, by kernel_rfl, by kernel_rfl⟩
theorem en48 : Ent Try.prog 48 Try.f48 := ⟨Try.func48, by kernel_rfl, by kernel_rfl⟩
theorem en49 : Ent Try.prog 49 Try.f49 := ⟨Try.func49, by kernel_rfl, by kernel_rfl⟩
theorem en50 : Ent Try.prog 50 Try.f50 := ⟨Try.func50, by kernel_rfl, by kernel_rfl⟩
theorem en51 : Ent Try.prog 51 Try.f51 := ⟨Try.func51, by kernel_rfl, by kernel_rfl⟩
theorem en52 : Ent Try.prog 52 Try.f52 := ⟨Try.func52, by kernel_rfl, by kernel_rfl⟩
theorem en53 : Ent Try.prog 53 Try.f53 := ⟨Try.func53, by kernel_rfl, by kernel_rfl⟩
theorem en54 : Ent Try.prog 54 Try.f54 := ⟨Try.func54, by kernel_rfl, by kernel_rfl⟩
theorem en55 : Ent Try.prog 55 Try.f55 := ⟨Try.func55, by kernel_rfl, by kernel_rfl⟩
theorem en56 : Ent Try.prog 56 Try.f56 := ⟨Try.func56, by kernel_rfl, by kernel_rfl⟩
theorem en57 : Ent Try.prog 57 Try.f57 := ⟨Try.func57, by kernel_rfl, by kernel_rfl⟩
theorem en58 : Ent Try.prog 58 Try.f58 := ⟨Try.func58, by kernel_rfl, by kernel_rfl⟩
theorem en59 : Ent Try.prog 59 Try.f59 := ⟨Try.func59, by kernel_rfl, by kernel_rfl⟩
theorem en60 : Ent Try.prog 60 Try.f60 := ⟨Try.func60, by kernel_rfl, by kernel_rfl⟩
theorem en61 : Ent Try.prog 61 Try.f61 := ⟨Try.func61, by kernel_rfl, by kernel_rfl⟩
theorem en62 : Ent Try.prog 62 Try.f62 := ⟨Try.func62, by kernel_rfl, by kernel_rfl⟩
theorem en63 : Ent Try.prog 63 Try.f63 := ⟨Try.func63, by kernel_rfl, by kernel_rfl⟩
theorem en64 : Ent Try.prog 64 Try.f64 := ⟨Try.func64, by kernel_rfl, by kernel_rfl⟩
theorem en65 : Ent Try.prog 65 Try.f65 := ⟨Try.func65, by kernel_rfl, by kernel_rfl⟩
theorem en66 : Ent Try.prog 66 Try.f66 := ⟨Try.func66, by kernel_rfl, by kernel_rfl⟩
theorem en67 : Ent Try.prog 67 Try.f67 := ⟨Try.func67, by kernel_rfl, by kernel_rfl⟩
theorem en68 : Ent Try.prog 68 Try.f68 := ⟨Try.func68, by kernel_rfl, by kernel_rfl⟩
theorem en69 : Ent Try.prog 69 Try.f69 := ⟨Try.func69, by kernel_rfl, by kernel_rfl⟩
theorem en70 : Ent Try.prog 70 Try.f70 := ⟨Try.func70, by kernel_rfl, by kernel_rfl⟩
theorem en71 : Ent Try.prog 71 Try.f71 := ⟨Try.func71, by kernel_rfl, by kernel_rfl⟩
theorem en72 : Ent Try.prog 72 Try.f72 := ⟨Try.func72, by kernel_rfl, by kernel_rfl⟩
theorem en73 : Ent Try.prog 73 Try.f73 := ⟨Try.func73, by kernel_rfl, by kernel_rfl⟩
theorem en74 : Ent Try.prog 74 Try.f74 := ⟨Try.func74, by kernel_rfl, by kernel_rfl⟩
theorem en75 : Ent Try.prog 75 Try.f75 := ⟨Try.func75, by kernel_rfl, by kernel_rfl⟩
theorem en76 : Ent Try.prog 76 Try.f76 := ⟨Try.func76, by kernel_rfl, by kernel_rfl⟩
theorem en77 : Ent Try.prog 77 Try.f77 := ⟨Try.func77, by kernel_rfl, by kernel_rfl⟩
theorem mix : Try.prog.follows .mixedOrders = true := by kernel_rfl
end Go.Proofs.Ytbcaooiphalkoaa
