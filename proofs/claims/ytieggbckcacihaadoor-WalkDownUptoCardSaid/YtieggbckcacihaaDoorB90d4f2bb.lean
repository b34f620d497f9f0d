/- A part of the proof: walks of the program's functions, and the rules by which they go. -/
import Derived.Test.YtieggbckcacihaaDoorProg
import Derived.Test.YtieggbckcacihaaDoorB7b773094
import Derived.Test.YtieggbckcacihaaDoorB3b67aa81
namespace SX
open Go Go.Proofs
instance : Body Tryd.prog 2 := ⟨_, Tryd.func2, rfl, by decide⟩
instance : Body Tryd.prog 3 := ⟨_, Tryd.func3, rfl, by decide⟩
instance : Body Tryd.prog 4 := ⟨_, Tryd.func4, rfl, by decide⟩
instance : Body Tryd.prog 5 := ⟨_, Tryd.func5, rfl, by decide⟩
instance : Body Tryd.prog 6 := ⟨_, Tryd.func6, rfl, by decide⟩
instance : Body Tryd.prog 7 := ⟨_, Tryd.func7, rfl, by decide⟩
instance : Body Tryd.prog 8 := ⟨_, Tryd.func8, rfl, by decide⟩
instance : Body Tryd.prog 9 := ⟨_, Tryd.func9, rfl, by decide⟩
instance : Body Tryd.prog 10 := ⟨_, Tryd.func10, rfl, by decide⟩
instance : Body Tryd.prog 11 := ⟨_, Tryd.func11, rfl, by decide⟩
instance : Body Tryd.prog 12 := ⟨_, Tryd.func12, rfl, by decide⟩
instance : Body Tryd.prog 13 := ⟨_, Tryd.func13, rfl, by decide⟩
instance : Body Tryd.prog 14 := ⟨_, Tryd.func14, rfl, by decide⟩
instance : Body Tryd.prog 15 := ⟨_, Tryd.func15, rfl, by decide⟩
instance : Body Tryd.prog 16 := ⟨_, Tryd.func16, rfl, by decide⟩
instance : Body Tryd.prog 17 := ⟨_, Tryd.func17, rfl, by decide⟩
instance : Body Tryd.prog 18 := ⟨_, Tryd.func18, rfl, by decide⟩
instance : Body Tryd.prog 19 := ⟨_, Tryd.func19, rfl, by decide⟩
instance : Body Tryd.prog 20 := ⟨_, Tryd.func20, rfl, by decide⟩
instance : Body Tryd.prog 21 := ⟨_, Tryd.func21, rfl, by decide⟩
instance : Body Tryd.prog 22 := ⟨_, Tryd.func22, rfl, by decide⟩
instance : Body Tryd.prog 23 := ⟨_, Tryd.func23, rfl, by decide⟩
instance : Body Tryd.prog 24 := ⟨_, Tryd.func24, rfl, by decide⟩
instance : Body Tryd.prog 25 := ⟨_, Tryd.func25, rfl, by decide⟩
instance : Body Tryd.prog 26 := ⟨_, Tryd.func26, rfl, by decide⟩
instance : Body Tryd.prog 27 := ⟨_, Tryd.func27, rfl, by decide⟩
instance : Body Tryd.prog 28 := ⟨_, Tryd.func28, rfl, by decide⟩
instance : Body Tryd.prog 29 := ⟨_, Tryd.func29, rfl, by decide⟩
instance : Body Tryd.prog 30 := ⟨_, Tryd.func30, rfl, by decide⟩
instance : Body Tryd.prog 31 := ⟨_, Tryd.func31, rfl, by decide⟩
instance : Body Tryd.prog 32 := ⟨_, Tryd.func32, rfl, by decide⟩
instance : Body Tryd.prog 33 := ⟨_, Tryd.func33, rfl, by decide⟩
instance : Body Tryd.prog 34 := ⟨_, Tryd.func34, rfl, by decide⟩
instance : Body Tryd.prog 35 := ⟨_, Tryd.func35, rfl, by decide⟩
instance : Body Tryd.prog 36 := ⟨_, Tryd.func36, rfl, by decide⟩
instance : Body Tryd.prog 37 := ⟨_, Tryd.func37, rfl, by decide⟩
instance : Body Tryd.prog 38 := ⟨_, Tryd.func38, rfl, by decide⟩
instance : Body Tryd.prog 39 := ⟨_, Tryd.func39, rfl, by decide⟩
instance : Body Tryd.prog 40 := ⟨_, Tryd.func40, rfl, by decide⟩
instance : Body Tryd.prog 41 := ⟨_, Tryd.func41, rfl, by decide⟩
instance : Body Tryd.prog 42 := ⟨_, Tryd.func42, rfl, by decide⟩
instance : Body Tryd.prog 43 := ⟨_, Tryd.func43, rfl, by decide⟩
instance : Body Tryd.prog 44 := ⟨_, Tryd.func44, rfl, by decide⟩
instance : Body Tryd.prog 45 := ⟨_, Tryd.func45, rfl, by decide⟩
instance : Body Tryd.prog 46 := ⟨_, Tryd.func46, rfl, by decide⟩
instance : Body Tryd.prog 47 := ⟨_, Tryd.func47, rfl, by decide⟩
instance : Body Tryd.prog 48 := ⟨_, Tryd.func48, rfl, by decide⟩
instance : Body Tryd.prog 49 := ⟨_, Tryd.func49, rfl, by decide⟩
instance : Body Tryd.prog 50 := ⟨_, Tryd.func50, rfl, by decide⟩
instance : Body Tryd.prog 51 := ⟨_, Tryd.func51, rfl, by decide⟩
instance : Body Tryd.prog 52 := ⟨_, Tryd.func52, rfl, by decide⟩
instance : Body Tryd.prog 53 := ⟨_, Tryd.func53, rfl, by decide⟩
instance : Body Tryd.prog 54 := ⟨_, Tryd.func54, rfl, by decide⟩
instance : Body Tryd.prog 55 := ⟨_, Tryd.func55, rfl, by decide⟩
instance : Body Tryd.prog 56 := ⟨_, Tryd.func56, rfl, by decide⟩
instance : Body Tryd.prog 57 := ⟨_, Tryd.func57, rfl, by decide⟩
instance : Body Tryd.prog 58 := ⟨_, Tryd.func58, rfl, by decide⟩
instance : Body Tryd.prog 59 := ⟨_, Tryd.func59, rfl, by decide⟩
instance : Body Tryd.prog 60 := ⟨_, Tryd.func60, rfl, by decide⟩
instance : Body Tryd.prog 61 := ⟨_, Tryd.func61, rfl, by decide⟩
instance : Body Tryd.prog 62 := ⟨_, Tryd.func62, rfl, by decide⟩
instance : Body Tryd.prog 63 := ⟨_, Tryd.func63, rfl, by decide⟩
instance : Body Tryd.prog 64 := ⟨_, Tryd.func64, rfl, by decide⟩
instance : Body Tryd.prog 65 := ⟨_, Tryd.func65, rfl, by decide⟩
instance : Body Tryd.prog 66 := ⟨_, Tryd.func66, rfl, by decide⟩
instance : Body Tryd.prog 67 := ⟨_, Tryd.func67, rfl, by decide⟩
instance : Body Tryd.prog 68 := ⟨_, Tryd.func68, rfl, by decide⟩
instance : Body Tryd.prog 69 := ⟨_, Tryd.func69, rfl, by decide⟩
instance : Body Tryd.prog 70 := ⟨_, Tryd.func70, rfl, by decide⟩
instance : Body Tryd.prog 71 := ⟨_, Tryd.func71, rfl, by decide⟩
instance : Body Tryd.prog 72 := ⟨_, Tryd.func72, rfl, by decide⟩
instance : Body Tryd.prog 73 := ⟨_, Tryd.func73, rfl, by decide⟩
instance : Body Tryd.prog 74 := ⟨_, Tryd.func74, rfl, by decide⟩
instance : Body Tryd.prog 75 := ⟨_, Tryd.func75, rfl, by decide⟩
instance : Body Tryd.prog 76 := ⟨_, Tryd.func76, rfl, by decide⟩
instance : Body Tryd.prog 77 := ⟨_, Tryd.func77, rfl, by decide⟩
instance : Body Tryd.prog 78 := ⟨_, Tryd.func78, rfl, by decide⟩
instance : Body Tryd.prog 79 := ⟨_, Tryd.func79, rfl, by decide⟩
instance : Body Tryd.prog 80 := ⟨_, Tryd.func80, rfl, by decide⟩
instance : Body Tryd.prog 81 := ⟨_, Tryd.func81, rfl, by decide⟩
instance : Body Tryd.prog 82 := ⟨_, Tryd.func82, rfl, by decide⟩
instance : Body Tryd.prog 83 := ⟨_, Tryd.func83, rfl, by decide⟩
instance : Body Tryd.prog 84 := ⟨_, Tryd.func84, rfl, by decide⟩
instance : Body Tryd.prog 85 := ⟨_, Tryd.func85, rfl, by decide⟩
instance : Body Tryd.prog 86 := ⟨_, Tryd.func86, rfl, by decide⟩
instance : Body Tryd.prog 87 := ⟨_, Tryd.func87, rfl, by decide⟩
instance : Body Tryd.prog 88 := ⟨_, Tryd.func88, rfl, by decide⟩
instance : Body Tryd.prog 89 := ⟨_, Tryd.func89, rfl, by decide⟩
instance : Body Tryd.prog 90 := ⟨_, Tryd.func90, rfl, by decide⟩
instance : Body Tryd.prog 91 := ⟨_, Tryd.func91, rfl, by decide⟩
instance : Body Tryd.prog 92 := ⟨_, Tryd.func92, rfl, by decide⟩
instance : Body Tryd.prog 93 := ⟨_, Tryd.func93, rfl, by decide⟩
instance : Body Tryd.prog 94 := ⟨_, Tryd.func94, rfl, by decide⟩
instance : Body Tryd.prog 95 := ⟨_, Tryd.func95, rfl, by decide⟩
instance : Body Tryd.prog 96 := ⟨_, Tryd.func96, rfl, by decide⟩
instance : Body Tryd.prog 97 := ⟨_, Tryd.func97, rfl, by decide⟩
instance : Body Tryd.prog 98 := ⟨_, Tryd.func98, rfl, by decide⟩
instance : Body Tryd.prog 114 := ⟨_, Tryd.func114, rfl, by decide⟩
instance : Body Tryd.prog 115 := ⟨_, Tryd.func115, rfl, by decide⟩
instance : Body Tryd.prog 117 := ⟨_, Tryd.func117, rfl, by decide⟩
instance : Body Tryd.prog 119 := ⟨_, Tryd.func119, rfl, by decide⟩
instance : Body Tryd.prog 124 := ⟨_, Tryd.func124, rfl, by decide⟩
instance : Meth Tryd.prog 25 "Commits" 114 := ⟨by intro v w; kernel_rfl⟩
instance : Meth Tryd.prog 25 "Gen" 19 := ⟨by intro v w; kernel_rfl⟩
instance : Meth Tryd.prog 25 "Parents" 115 := ⟨by intro v w; kernel_rfl⟩
instance : Meth Tryd.prog 67 "Before" 117 := ⟨by intro v w; kernel_rfl⟩
instance : Meth Tryd.prog 86 "Parents" 65 := ⟨by intro v w; kernel_rfl⟩
instance : Meth Tryd.prog 97 "Before" 119 := ⟨by intro v w; kernel_rfl⟩
instance : TOne Tryd.prog 3 := ⟨by kernel_rfl, by kernel_rfl⟩
instance : TZero Tryd.prog 3 [(.int .i64 0)] := ⟨by kernel_rfl⟩
instance : TInt Tryd.prog 3 .i64 := ⟨Tryd.underlying3⟩
instance : TConc Tryd.prog 3 := ⟨_, Tryd.underlying3, rfl⟩
instance : TOne Tryd.prog 4 := ⟨by kernel_rfl, by kernel_rfl⟩
instance : TZero Tryd.prog 4 [(.bool false)] := ⟨by kernel_rfl⟩
instance : TBool Tryd.prog 4 := ⟨Tryd.underlying4⟩
instance : TConc Tryd.prog 4 := ⟨_, Tryd.underlying4, rfl⟩
instance : TOne Tryd.prog 5 := ⟨by kernel_rfl, by kernel_rfl⟩
instance : TZero Tryd.prog 5 [(.int .u8 0)] := ⟨by kernel_rfl⟩
instance : TInt Tryd.prog 5 .u8 := ⟨Tryd.underlying5⟩
instance : TConc Tryd.prog 5 := ⟨_, Tryd.underlying5, rfl⟩
instance : TOne Tryd.prog 22 := ⟨by kernel_rfl, by kernel_rfl⟩
instance : TZero Tryd.prog 22 [(.slice none 0 0)] := ⟨by kernel_rfl⟩
instance : TSl Tryd.prog 22 31 1 24 := ⟨Tryd.underlying22, by kernel_rfl⟩
instance : TConc Tryd.prog 22 := ⟨_, Tryd.underlying22, rfl⟩
instance : TAgg Tryd.prog 23 2 := ⟨by kernel_rfl, by kernel_rfl⟩
instance : TZero Tryd.prog 23 [(.int .i64 0), (.int .i64 0)] := ⟨by kernel_rfl⟩
instance : TArr Tryd.prog 23 2 3 1 := ⟨Tryd.underlying23, by kernel_rfl⟩
instance : TConc Tryd.prog 23 := ⟨_, Tryd.underlying23, rfl⟩
instance : TOne Tryd.prog 25 := ⟨by kernel_rfl, by kernel_rfl⟩
instance : TZero Tryd.prog 25 [(.pointer none)] := ⟨by kernel_rfl⟩
instance : TPtr Tryd.prog 25 := ⟨_, Tryd.underlying25⟩
instance : TConc Tryd.prog 25 := ⟨_, Tryd.underlying25, rfl⟩
instance : TOne Tryd.prog 27 := ⟨by kernel_rfl, by kernel_rfl⟩
instance : TZero Tryd.prog 27 [(.int .i64 0)] := ⟨by kernel_rfl⟩
instance : TInt Tryd.prog 27 .i64 := ⟨Tryd.underlying27⟩
instance : TConc Tryd.prog 27 := ⟨_, Tryd.underlying27, rfl⟩
instance : TOne Tryd.prog 31 := ⟨by kernel_rfl, by kernel_rfl⟩
instance : TZero Tryd.prog 31 [(.slice none 0 0)] := ⟨by kernel_rfl⟩
instance : TSl Tryd.prog 31 3 1 8 := ⟨Tryd.underlying31, by kernel_rfl⟩
instance : TConc Tryd.prog 31 := ⟨_, Tryd.underlying31, rfl⟩
instance : TAgg Tryd.prog 33 3 := ⟨by kernel_rfl, by kernel_rfl⟩
instance : TZero Tryd.prog 33 [(.slice none 0 0), (.slice none 0 0), (.slice none 0 0)] := ⟨by kernel_rfl⟩
instance : TBld Tryd.prog 33 [(.slice none 0 0), (.slice none 0 0), (.slice none 0 0)] [(0, 1), (1, 1), (2, 1)] := ⟨by kernel_rfl, by kernel_rfl⟩
instance : TFld Tryd.prog 33 0 0 := ⟨by kernel_rfl⟩
instance : TPart Tryd.prog 33 0 0 1 false := ⟨by kernel_rfl⟩
instance : TFld Tryd.prog 33 1 1 := ⟨by kernel_rfl⟩
instance : TPart Tryd.prog 33 1 1 1 false := ⟨by kernel_rfl⟩
instance : TFld Tryd.prog 33 2 2 := ⟨by kernel_rfl⟩
instance : TPart Tryd.prog 33 2 2 1 false := ⟨by kernel_rfl⟩
instance : TConc Tryd.prog 33 := ⟨_, Tryd.underlying33, rfl⟩
instance : TOne Tryd.prog 40 := ⟨by kernel_rfl, by kernel_rfl⟩
instance : TZero Tryd.prog 40 [.nilFunc] := ⟨by kernel_rfl⟩
instance : TFn Tryd.prog 40 := ⟨_, _, _, Tryd.underlying40⟩
instance : TConc Tryd.prog 40 := ⟨_, Tryd.underlying40, rfl⟩
instance : TAgg Tryd.prog 43 2 := ⟨by kernel_rfl, by kernel_rfl⟩
instance : TZero Tryd.prog 43 [(.slice none 0 0), (.slice none 0 0)] := ⟨by kernel_rfl⟩
instance : TArr Tryd.prog 43 2 31 1 := ⟨Tryd.underlying43, by kernel_rfl⟩
instance : TConc Tryd.prog 43 := ⟨_, Tryd.underlying43, rfl⟩
instance : TOne Tryd.prog 45 := ⟨by kernel_rfl, by kernel_rfl⟩
instance : TZero Tryd.prog 45 [.nilFunc] := ⟨by kernel_rfl⟩
instance : TFn Tryd.prog 45 := ⟨_, _, _, Tryd.underlying45⟩
instance : TConc Tryd.prog 45 := ⟨_, Tryd.underlying45, rfl⟩
instance : TOne Tryd.prog 51 := ⟨by kernel_rfl, by kernel_rfl⟩
instance : TZero Tryd.prog 51 [(.slice none 0 0)] := ⟨by kernel_rfl⟩
instance : TSl Tryd.prog 51 4 1 1 := ⟨Tryd.underlying51, by kernel_rfl⟩
instance : TConc Tryd.prog 51 := ⟨_, Tryd.underlying51, rfl⟩
instance : TOne Tryd.prog 58 := ⟨by kernel_rfl, by kernel_rfl⟩
instance : TZero Tryd.prog 58 [(.slice none 0 0)] := ⟨by kernel_rfl⟩
instance : TSl Tryd.prog 58 45 1 8 := ⟨Tryd.underlying58, by kernel_rfl⟩
instance : TConc Tryd.prog 58 := ⟨_, Tryd.underlying58, rfl⟩
instance : TOne Tryd.prog 63 := ⟨by kernel_rfl, by kernel_rfl⟩
instance : TZero Tryd.prog 63 [.nilIface] := ⟨by kernel_rfl⟩
instance : TOne Tryd.prog 65 := ⟨by kernel_rfl, by kernel_rfl⟩
instance : TZero Tryd.prog 65 [(.pointer none)] := ⟨by kernel_rfl⟩
instance : TPtr Tryd.prog 65 := ⟨_, Tryd.underlying65⟩
instance : TConc Tryd.prog 65 := ⟨_, Tryd.underlying65, rfl⟩
instance : TOne Tryd.prog 67 := ⟨by kernel_rfl, by kernel_rfl⟩
instance : TZero Tryd.prog 67 [(.int .i64 0)] := ⟨by kernel_rfl⟩
instance : TInt Tryd.prog 67 .i64 := ⟨Tryd.underlying67⟩
instance : TConc Tryd.prog 67 := ⟨_, Tryd.underlying67, rfl⟩
instance : TOne Tryd.prog 69 := ⟨by kernel_rfl, by kernel_rfl⟩
instance : TZero Tryd.prog 69 [(.pointer none)] := ⟨by kernel_rfl⟩
instance : TPtr Tryd.prog 69 := ⟨_, Tryd.underlying69⟩
instance : TConc Tryd.prog 69 := ⟨_, Tryd.underlying69, rfl⟩
instance : TOne Tryd.prog 70 := ⟨by kernel_rfl, by kernel_rfl⟩
instance : TZero Tryd.prog 70 [(.pointer none)] := ⟨by kernel_rfl⟩
instance : TPtr Tryd.prog 70 := ⟨_, Tryd.underlying70⟩
instance : TConc Tryd.prog 70 := ⟨_, Tryd.underlying70, rfl⟩
instance : TAgg Tryd.prog 72 3 := ⟨by kernel_rfl, by kernel_rfl⟩
instance : TZero Tryd.prog 72 [.nilIface, (.pointer none), (.pointer none)] := ⟨by kernel_rfl⟩
instance : TBld Tryd.prog 72 [.nilIface, (.pointer none), (.pointer none)] [(0, 1), (1, 1), (2, 1)] := ⟨by kernel_rfl, by kernel_rfl⟩
instance : TFld Tryd.prog 72 0 0 := ⟨by kernel_rfl⟩
instance : TPart Tryd.prog 72 0 0 1 false := ⟨by kernel_rfl⟩
instance : TFld Tryd.prog 72 1 1 := ⟨by kernel_rfl⟩
instance : TPart Tryd.prog 72 1 1 1 false := ⟨by kernel_rfl⟩
instance : TFld Tryd.prog 72 2 2 := ⟨by kernel_rfl⟩
instance : TPart Tryd.prog 72 2 2 1 false := ⟨by kernel_rfl⟩
instance : TConc Tryd.prog 72 := ⟨_, Tryd.underlying72, rfl⟩
instance : TOne Tryd.prog 79 := ⟨by kernel_rfl, by kernel_rfl⟩
instance : TZero Tryd.prog 79 [.nilFunc] := ⟨by kernel_rfl⟩
instance : TFn Tryd.prog 79 := ⟨_, _, _, Tryd.underlying79⟩
instance : TConc Tryd.prog 79 := ⟨_, Tryd.underlying79, rfl⟩
instance : TOne Tryd.prog 86 := ⟨by kernel_rfl, by kernel_rfl⟩
instance : TZero Tryd.prog 86 [(.pointer none)] := ⟨by kernel_rfl⟩
instance : TPtr Tryd.prog 86 := ⟨_, Tryd.underlying86⟩
instance : TConc Tryd.prog 86 := ⟨_, Tryd.underlying86, rfl⟩
instance : TOne Tryd.prog 87 := ⟨by kernel_rfl, by kernel_rfl⟩
instance : TZero Tryd.prog 87 [(.map none)] := ⟨by kernel_rfl⟩
instance : TMap Tryd.prog 87 3 31 := ⟨Tryd.underlying87⟩
instance : TZv Tryd.prog 31 (.slice none 0 0) := ⟨by kernel_rfl⟩
instance : TConc Tryd.prog 87 := ⟨_, Tryd.underlying87, rfl⟩
instance : TAgg Tryd.prog 89 2 := ⟨by kernel_rfl, by kernel_rfl⟩
instance : TZero Tryd.prog 89 [.nilIface, (.map none)] := ⟨by kernel_rfl⟩
instance : TBld Tryd.prog 89 [.nilIface, (.map none)] [(0, 1), (1, 1)] := ⟨by kernel_rfl, by kernel_rfl⟩
instance : TFld Tryd.prog 89 0 0 := ⟨by kernel_rfl⟩
instance : TPart Tryd.prog 89 0 0 1 false := ⟨by kernel_rfl⟩
instance : TFld Tryd.prog 89 1 1 := ⟨by kernel_rfl⟩
instance : TPart Tryd.prog 89 1 1 1 false := ⟨by kernel_rfl⟩
instance : TConc Tryd.prog 89 := ⟨_, Tryd.underlying89, rfl⟩
instance : TOne Tryd.prog 93 := ⟨by kernel_rfl, by kernel_rfl⟩
instance : TZero Tryd.prog 93 [(.pointer none)] := ⟨by kernel_rfl⟩
instance : TPtr Tryd.prog 93 := ⟨_, Tryd.underlying93⟩
instance : TConc Tryd.prog 93 := ⟨_, Tryd.underlying93, rfl⟩
instance : TOne Tryd.prog 94 := ⟨by kernel_rfl, by kernel_rfl⟩
instance : TZero Tryd.prog 94 [(.map none)] := ⟨by kernel_rfl⟩
instance : TMap Tryd.prog 94 3 3 := ⟨Tryd.underlying94⟩
instance : TZv Tryd.prog 3 (.int .i64 0) := ⟨by kernel_rfl⟩
instance : TConc Tryd.prog 94 := ⟨_, Tryd.underlying94, rfl⟩
instance : TOne Tryd.prog 95 := ⟨by kernel_rfl, by kernel_rfl⟩
instance : TZero Tryd.prog 95 [(.pointer none)] := ⟨by kernel_rfl⟩
instance : TPtr Tryd.prog 95 := ⟨_, Tryd.underlying95⟩
instance : TConc Tryd.prog 95 := ⟨_, Tryd.underlying95, rfl⟩
instance : TOne Tryd.prog 97 := ⟨by kernel_rfl, by kernel_rfl⟩
instance : TZero Tryd.prog 97 [(.int .i64 0)] := ⟨by kernel_rfl⟩
instance : TInt Tryd.prog 97 .i64 := ⟨Tryd.underlying97⟩
instance : TConc Tryd.prog 97 := ⟨_, Tryd.underlying97, rfl⟩
instance : TAgg Tryd.prog 99 5 := ⟨by kernel_rfl, by kernel_rfl⟩
instance : TZero Tryd.prog 99 [.nilIface, (.int .i64 0), (.map none), (.pointer none), (.int .i64 0)] := ⟨by kernel_rfl⟩
instance : TBld Tryd.prog 99 [.nilIface, (.int .i64 0), (.map none), (.pointer none), (.int .i64 0)] [(0, 1), (1, 1), (2, 1), (3, 1), (4, 1)] := ⟨by kernel_rfl, by kernel_rfl⟩
instance : TFld Tryd.prog 99 0 0 := ⟨by kernel_rfl⟩
instance : TPart Tryd.prog 99 0 0 1 false := ⟨by kernel_rfl⟩
instance : TFld Tryd.prog 99 1 1 := ⟨by kernel_rfl⟩
instance : TPart Tryd.prog 99 1 1 1 false := ⟨by kernel_rfl⟩
instance : TFld Tryd.prog 99 2 2 := ⟨by kernel_rfl⟩
instance : TPart Tryd.prog 99 2 2 1 false := ⟨by kernel_rfl⟩
instance : TFld Tryd.prog 99 3 3 := ⟨by kernel_rfl⟩
instance : TPart Tryd.prog 99 3 3 1 false := ⟨by kernel_rfl⟩
instance : TFld Tryd.prog 99 4 4 := ⟨by kernel_rfl⟩
instance : TPart Tryd.prog 99 4 4 1 false := ⟨by kernel_rfl⟩
instance : TConc Tryd.prog 99 := ⟨_, Tryd.underlying99, rfl⟩
instance : TOne Tryd.prog 104 := ⟨by kernel_rfl, by kernel_rfl⟩
instance : TZero Tryd.prog 104 [(.slice none 0 0)] := ⟨by kernel_rfl⟩
instance : TSl Tryd.prog 104 109 2 16 := ⟨Tryd.underlying104, by kernel_rfl⟩
instance : TConc Tryd.prog 104 := ⟨_, Tryd.underlying104, rfl⟩
instance : TOne Tryd.prog 105 := ⟨by kernel_rfl, by kernel_rfl⟩
instance : TZero Tryd.prog 105 [(.int .u64 0)] := ⟨by kernel_rfl⟩
instance : TInt Tryd.prog 105 .u64 := ⟨Tryd.underlying105⟩
instance : TConc Tryd.prog 105 := ⟨_, Tryd.underlying105, rfl⟩
instance : TAgg Tryd.prog 107 2 := ⟨by kernel_rfl, by kernel_rfl⟩
instance : TZero Tryd.prog 107 [(.slice none 0 0), (.int .u64 0)] := ⟨by kernel_rfl⟩
instance : TBld Tryd.prog 107 [(.slice none 0 0), (.int .u64 0)] [(0, 1), (1, 1)] := ⟨by kernel_rfl, by kernel_rfl⟩
instance : TFld Tryd.prog 107 0 0 := ⟨by kernel_rfl⟩
instance : TPart Tryd.prog 107 0 0 1 false := ⟨by kernel_rfl⟩
instance : TFld Tryd.prog 107 1 1 := ⟨by kernel_rfl⟩
instance : TPart Tryd.prog 107 1 1 1 false := ⟨by kernel_rfl⟩
instance : TConc Tryd.prog 107 := ⟨_, Tryd.underlying107, rfl⟩
instance : TAgg Tryd.prog 109 2 := ⟨by kernel_rfl, by kernel_rfl⟩
instance : TZero Tryd.prog 109 [(.int .i64 0), (.int .u64 0)] := ⟨by kernel_rfl⟩
instance : TBld Tryd.prog 109 [(.int .i64 0), (.int .u64 0)] [(0, 1), (1, 1)] := ⟨by kernel_rfl, by kernel_rfl⟩
instance : TEq2 Tryd.prog 109 := ⟨by kernel_rfl, by kernel_rfl⟩
instance : TFld Tryd.prog 109 0 0 := ⟨by kernel_rfl⟩
instance : TPart Tryd.prog 109 0 0 1 false := ⟨by kernel_rfl⟩
instance : TFld Tryd.prog 109 1 1 := ⟨by kernel_rfl⟩
instance : TPart Tryd.prog 109 1 1 1 false := ⟨by kernel_rfl⟩
instance : TConc Tryd.prog 109 := ⟨_, Tryd.underlying109, rfl⟩
instance : TOne Tryd.prog 111 := ⟨by kernel_rfl, by kernel_rfl⟩
instance : TZero Tryd.prog 111 [(.slice none 0 0)] := ⟨by kernel_rfl⟩
instance : TSl Tryd.prog 111 105 1 8 := ⟨Tryd.underlying111, by kernel_rfl⟩
instance : TConc Tryd.prog 111 := ⟨_, Tryd.underlying111, rfl⟩
instance : TAgg Tryd.prog 113 2 := ⟨by kernel_rfl, by kernel_rfl⟩
instance : TZero Tryd.prog 113 [(.int .i64 0), (.slice none 0 0)] := ⟨by kernel_rfl⟩
instance : TBld Tryd.prog 113 [(.int .i64 0), (.slice none 0 0)] [(0, 1), (1, 1)] := ⟨by kernel_rfl, by kernel_rfl⟩
instance : TFld Tryd.prog 113 0 0 := ⟨by kernel_rfl⟩
instance : TPart Tryd.prog 113 0 0 1 false := ⟨by kernel_rfl⟩
instance : TFld Tryd.prog 113 1 1 := ⟨by kernel_rfl⟩
instance : TPart Tryd.prog 113 1 1 1 false := ⟨by kernel_rfl⟩
instance : TConc Tryd.prog 113 := ⟨_, Tryd.underlying113, rfl⟩
instance : TOne Tryd.prog 115 := ⟨by kernel_rfl, by kernel_rfl⟩
instance : TZero Tryd.prog 115 [.nilFunc] := ⟨by kernel_rfl⟩
instance : TFn Tryd.prog 115 := ⟨_, _, _, Tryd.underlying115⟩
instance : TConc Tryd.prog 115 := ⟨_, Tryd.underlying115, rfl⟩
instance : TOne Tryd.prog 118 := ⟨by kernel_rfl, by kernel_rfl⟩
instance : TZero Tryd.prog 118 [(.slice none 0 0)] := ⟨by kernel_rfl⟩
instance : TSl Tryd.prog 118 97 1 8 := ⟨Tryd.underlying118, by kernel_rfl⟩
instance : TConc Tryd.prog 118 := ⟨_, Tryd.underlying118, rfl⟩
instance : TOne Tryd.prog 119 := ⟨by kernel_rfl, by kernel_rfl⟩
instance : TZero Tryd.prog 119 [(.slice none 0 0)] := ⟨by kernel_rfl⟩
instance : TSl Tryd.prog 119 133 2 16 := ⟨Tryd.underlying119, by kernel_rfl⟩
instance : TConc Tryd.prog 119 := ⟨_, Tryd.underlying119, rfl⟩
instance : TAgg Tryd.prog 121 2 := ⟨by kernel_rfl, by kernel_rfl⟩
instance : TZero Tryd.prog 121 [(.slice none 0 0), (.int .u64 0)] := ⟨by kernel_rfl⟩
instance : TBld Tryd.prog 121 [(.slice none 0 0), (.int .u64 0)] [(0, 1), (1, 1)] := ⟨by kernel_rfl, by kernel_rfl⟩
instance : TFld Tryd.prog 121 0 0 := ⟨by kernel_rfl⟩
instance : TPart Tryd.prog 121 0 0 1 false := ⟨by kernel_rfl⟩
instance : TFld Tryd.prog 121 1 1 := ⟨by kernel_rfl⟩
instance : TPart Tryd.prog 121 1 1 1 false := ⟨by kernel_rfl⟩
instance : TConc Tryd.prog 121 := ⟨_, Tryd.underlying121, rfl⟩
instance : TOne Tryd.prog 128 := ⟨by kernel_rfl, by kernel_rfl⟩
instance : TZero Tryd.prog 128 [(.slice none 0 0)] := ⟨by kernel_rfl⟩
instance : TSl Tryd.prog 128 67 1 8 := ⟨Tryd.underlying128, by kernel_rfl⟩
instance : TConc Tryd.prog 128 := ⟨_, Tryd.underlying128, rfl⟩
instance : TAgg Tryd.prog 133 2 := ⟨by kernel_rfl, by kernel_rfl⟩
instance : TZero Tryd.prog 133 [(.int .i64 0), (.int .u64 0)] := ⟨by kernel_rfl⟩
instance : TBld Tryd.prog 133 [(.int .i64 0), (.int .u64 0)] [(0, 1), (1, 1)] := ⟨by kernel_rfl, by kernel_rfl⟩
instance : TEq2 Tryd.prog 133 := ⟨by kernel_rfl, by kernel_rfl⟩
instance : TFld Tryd.prog 133 0 0 := ⟨by kernel_rfl⟩
instance : TPart Tryd.prog 133 0 0 1 false := ⟨by kernel_rfl⟩
instance : TFld Tryd.prog 133 1 1 := ⟨by kernel_rfl⟩
instance : TPart Tryd.prog 133 1 1 1 false := ⟨by kernel_rfl⟩
instance : TConc Tryd.prog 133 := ⟨_, Tryd.underlying133, rfl⟩
instance : TAgg Tryd.prog 136 64 := ⟨by kernel_rfl, by kernel_rfl⟩
instance : TZero Tryd.prog 136 [(.int .u8 0), (.int .u8 0), (.int .u8 0), (.int .u8 0), (.int .u8 0), (.int .u8 0), (.int .u8 0), (.int .u8 0), (.int .u8 0), (.int .u8 0), (.int .u8 0), (.int .u8 0), (.int .u8 0), (.int .u8 0), (.int .u8 0), (.int .u8 0), (.int .u8 0), (.int .u8 0), (.int .u8 0), (.int .u8 0), (.int .u8 0), (.int .u8 0), (.int .u8 0), (.int .u8 0), (.int .u8 0), (.int .u8 0), (.int .u8 0), (.int .u8 0), (.int .u8 0), (.int .u8 0), (.int .u8 0), (.int .u8 0), (.int .u8 0), (.int .u8 0), (.int .u8 0), (.int .u8 0), (.int .u8 0), (.int .u8 0), (.int .u8 0), (.int .u8 0), (.int .u8 0), (.int .u8 0), (.int .u8 0), (.int .u8 0), (.int .u8 0), (.int .u8 0), (.int .u8 0), (.int .u8 0), (.int .u8 0), (.int .u8 0), (.int .u8 0), (.int .u8 0), (.int .u8 0), (.int .u8 0), (.int .u8 0), (.int .u8 0), (.int .u8 0), (.int .u8 0), (.int .u8 0), (.int .u8 0), (.int .u8 0), (.int .u8 0), (.int .u8 0), (.int .u8 0)] := ⟨by kernel_rfl⟩
instance : TArr Tryd.prog 136 64 5 1 := ⟨Tryd.underlying136, by kernel_rfl⟩
instance : TConc Tryd.prog 136 := ⟨_, Tryd.underlying136, rfl⟩
end SX
namespace SX
open Go Go.Proofs

/-- the table of the de Bruijn numbers lies there -/
def tabV : List Value := Lib.deBruijn64tab.map fun n => Value.int .u8 (n : Nat)
theorem tab_get {μ : PH} {g : Nat} (h : RowAt μ g 0 tabV) {j k : Nat} (hj : j < 64) (hk : Lib.deBruijn64tab.getD j 0 = k) : CellAt μ g j (.int .u8 (k : Nat)) := by
  have hlen : Lib.deBruijn64tab.length = 64 := rfl
  have := h j (.int .u8 (k : Nat)) (by
    unfold tabV
    rw [List.getElem?_map, List.getElem?_eq_getElem (by omega)]
    simp only [Option.map_some]
    rw [← hk, List.getD_eq_getElem?_getD, List.getElem?_eq_getElem (by omega)]; rfl)
  rwa [Nat.zero_add] at this

theorem tz_spec (μ : PH) (w : BitVec 64) (hT : RowAt μ 0 0 tabV) (hw : w ≠ 0#64) : Spec Tryd.prog 93 [wv w] [ro μ] (fun v L => v = .int .i64 (ctz w : Nat) ∧ L = [ro μ]) := by
  obtain ⟨h1, h2⟩ := ctz_idx hw
  have hc := tab_get hT h1 h2
  have hz := (ctz_spec hw).1
  have hn : ¬ ((w.toNat : Int) = 0) := fun e => hw (BitVec.eq_of_toNat_eq (by simpa using e))
  refine Spec.of 14 Tryd.func93 rfl rfl rfl ?_
  refine swp_seq ?_
  refine swp_region ?_
  refine s_pu (pu_assign rfl) ?_
  refine swl_sub _ (.cons (t := 0) rfl .nil) ?_
  refine swl_nil ?_
  refine then_n ?_
  refine swp_seq ?_
  refine swp_seq ?_
  refine swp_region ?_
  refine s_pu (pu_move rfl) ?_
  refine s_pu (pu_eql rfl rfl) ?_
  refine swl_sub _ (.cons (t := 0) rfl (.cons (t := 4) rfl .nil)) ?_
  refine swl_nil ?_
  refine then_n ?_
  refine swp_cond (b := _) rfl (fun h4 => absurd (of_decide_eq_true h4) hn) (fun h4 => ?_)
  refine swp_skip ?_
  refine then_n ?_
  refine swp_seq ?_
  refine swp_region ?_
  refine s_pu (pu_move rfl) ?_
  refine s_pu (pu_move rfl) ?_
  refine s_pu (pu_neg_w (a := w) rfl) ?_
  refine s_pu (pu_and_w (a := w) (b := -w) rfl rfl) ?_
  refine s_pu (pu_mul_w (a := w &&& -w) (b := 285870213051353865#64) rfl rfl) ?_
  refine s_pu (pu_shr_w (a := (w &&& -w) * 285870213051353865#64) 58 rfl rfl (by decide)) ?_
  refine s_pu (pu_indexAddr_arr (((w &&& -w) * 285870213051353865#64) >>> 58).toNat rfl rfl (by omega) (by omega) (by rw [Int.toNat_natCast]; omega)) ?_
  refine s_rd (rd_ro rfl hc) ?_
  first | refine s_pu (pu_conv_i64 rfl (by omega) (by omega)) ?_ | refine s_pu (pu_conv rfl) ?_
  refine s_pu (pu_assign rfl) ?_
  refine swl_sub _ (.cons (t := 2) rfl .nil) ?_
  refine swl_nil ?_
  refine then_n ?_
  refine swp_ret ?_
  exact done_ret [ro μ] (.tmp rfl .nil) ⟨rfl, rfl⟩ (by repeat (first | exact Split.nil | (apply Split.cons; (repeat (first | with_reducible exact Take.here | apply Take.there)))))
def len8 : ByteArray := ⟨((List.range 256).map fun i => (UInt8.ofNat (bl i))).toArray⟩
theorem len8_get (i : Nat) (h : i < 256) : len8[i]? = some (UInt8.ofNat (bl i)) := by
  show (len8.data)[i]? = _
  simp [len8, h]
theorem bl_small {i : Nat} (h : i < 256) : bl i ≤ 8 := by
  obtain ⟨h1, h2⟩ := bl_lt i
  rcases h2 with h2 | h2
  · omega
  · rcases Nat.lt_or_ge 8 (bl i) with h3 | h3
    · have : 2 ^ 8 ≤ 2 ^ (bl i - 1) := Nat.pow_le_pow_right (by decide) (by omega)
      omega
    · exact h3
end SX
namespace SX
open Go Go.Proofs

def ucs (w : BitVec 64) : List Value := [wv w]
theorem ucs_len (w : BitVec 64) : (ucs w).length = 1 := rfl
def wcells (ws : List (BitVec 64)) : List Value := ws.flatMap ucs
theorem wcells_len (ws : List (BitVec 64)) : (wcells ws).length = ws.length := by unfold wcells; rw [flat_length ucs_len, Nat.mul_one]
theorem wcells_get {ws : List (BitVec 64)} {ex : List Value} {i : Nat} {w : BitVec 64} (h : ws[i]? = some w) : (wcells ws ++ ex)[i]? = some (wv w) := by
  have := flat_get ucs_len ws ex i w h 0 (wv w) rfl
  rwa [Nat.mul_one, Nat.add_zero] at this
theorem wcells_set {ws : List (BitVec 64)} {ex : List Value} {i : Nat} {w : BitVec 64} (h : i < ws.length) : (wcells ws ++ ex).set i (wv w) = wcells (ws.set i w) ++ ex := by
  rw [List.set_append_left _ _ (by rw [wcells_len]; exact h)]
  congr 1
  apply List.ext_getElem?
  intro j
  have key : ∀ (ws : List (BitVec 64)) (j : Nat), (wcells ws)[j]? = (ws[j]?).map wv := by
    intro ws j
    cases hj : ws[j]? with
    | none =>
      rw [List.getElem?_eq_none_iff] at hj
      simp only [Option.map_none]
      rw [List.getElem?_eq_none_iff, wcells_len]; exact hj
    | some w => have := wcells_get (ex := []) hj; rwa [List.append_nil] at this
  rw [key, List.getElem?_set, List.getElem?_set, key, wcells_len]
  split
  · simp
  · rfl
/-- is bit k there? -/
def mem (ws : List (BitVec 64)) (k : Nat) : Bool := (ws.getD (k / 64) 0#64).getLsbD (k % 64)
theorem mem_at {ws : List (BitVec 64)} {i : Nat} {w : BitVec 64} (h : ws[i]? = some w) {k : Nat} (hk : k / 64 = i) : mem ws k = w.getLsbD (k % 64) := by
  unfold mem; rw [hk, List.getD_eq_getElem?_getD, h]; rfl
theorem bit_and_one (w : BitVec 64) (r : Nat) : (decide ((((w >>> r) &&& 1#64).toNat : Int) = 0)) = !w.getLsbD r := by
  have e : ((w >>> r) &&& 1#64).toNat = (w.getLsbD r).toNat := by
    rw [BitVec.toNat_and, BitVec.toNat_ushiftRight, show (1#64 : BitVec 64).toNat = 1 from rfl, Nat.and_one_is_mod, Nat.shiftRight_eq_div_pow]
    show _ = (w.toNat.testBit r).toNat
    rw [Nat.testBit_eq_decide_div_mod_eq]
    rcases Nat.mod_two_eq_zero_or_one (w.toNat / 2 ^ r) with h | h <;> simp [h]
  rw [e]
  cases w.getLsbD r <;> simp

/-- a set of n numbers, laid open: its struct and its words -/
abbrev opn (p n : Nat) (v : Value) (ws : List (BitVec 64)) : List Assn := [blk p 113 [.int .i64 (n : Nat), v], own 105 1 v ws.length (wcells ws)]
/-- the words of a set of n -/
def Wf (n : Nat) (ws : List (BitVec 64)) (S : Nat → Bool) : Prop := ws.length = (n + 63) / 64 ∧ n ≤ 1048576 ∧ (∀ k, mem ws k = S k) ∧ ∀ k, n ≤ k → S k = false
def mset (p n : Nat) (S : Nat → Bool) : Assn := exA fun x : {x : Value × List (BitVec 64) // Wf n x.2 S} => opn p n x.1.1 x.1.2
theorem mset_close {p n : Nat} {S : Nat → Bool} {v : Value} {ws : List (BitVec 64)} {L : List Assn} (h : Wf n ws S) : Ent (blk p 113 [.int .i64 (n : Nat), v] :: own 105 1 v ws.length (wcells ws) :: L) (mset p n S :: L) :=
  ent_ex (F := fun x : {x : Value × List (BitVec 64) // Wf n x.2 S} => opn p n x.1.1 x.1.2) ⟨(v, ws), h⟩ (by repeat (first | exact Split.nil | (apply Split.cons; (repeat (first | with_reducible exact Take.here | apply Take.there)))))
theorem wown_close {b cap : Nat} {ws : List (BitVec 64)} {ex : List Value} {L : List Assn} (h1 : ws.length ≤ cap) (h2 : cap ≤ maxLen) (h4 : ex.length = (cap - ws.length) * 1) :
    Ent (blk b 105 (wcells ws ++ ex) :: L) (own 105 1 (.slice (some ⟨b, 0, none⟩) ws.length cap) ws.length (wcells ws) :: L) := own_close (by rw [wcells_len, Nat.mul_one]) h4 h1 h2

theorem size_b (p n : Nat) (v : Value) : Spec Tryd.prog 72 [.pointer (some ⟨p, 0, none⟩)] [blk p 113 [.int .i64 (n : Nat), v]] (fun r L => r = .int .i64 (n : Nat) ∧ L = [blk p 113 [.int .i64 (n : Nat), v]]) := by
  refine Spec.of 9 Tryd.func72 rfl rfl rfl ?_
  refine swp_seq ?_
  refine swp_region ?_
  refine s_pu (pu_assign rfl) ?_
  refine swl_sub _ (.cons (t := 0) rfl .nil) ?_
  refine swl_nil ?_
  refine then_n ?_
  refine swp_seq ?_
  refine swp_seq ?_
  refine swp_region ?_
  refine s_pu (pu_move rfl) ?_
  refine s_pu (pu_ptr_eq_nil rfl rfl) ?_
  refine swl_sub _ (.cons (t := 0) rfl (.cons (t := 4) rfl .nil)) ?_
  refine swl_nil ?_
  refine then_n ?_
  refine swp_cond (b := _) rfl (fun h4 => by cases h4) (fun h4 => ?_)
  refine swp_skip ?_
  refine then_n ?_
  refine swp_seq ?_
  refine swp_region ?_
  refine s_pu (pu_move rfl) ?_
  first | refine s_pu (pu_nilCheck rfl) ?_ | refine s_pu (pu_nilCheck_fn rfl) ?_ | refine s_pu (pu_nilCheck_if rfl) ?_
  first | refine s_pu (pu_fieldAddr0 rfl) ?_ | refine s_pu (pu_fieldAddr rfl) ?_
  refine s_rd (rd_load rfl rfl) ?_
  refine s_pu (pu_assign rfl) ?_
  refine swl_sub _ (.cons (t := 2) rfl .nil) ?_
  refine swl_nil ?_
  refine then_n ?_
  refine swp_ret ?_
  exact done_ret _ (.tmp rfl .nil) ⟨rfl, rfl⟩ (by repeat (first | exact Split.nil | (apply Split.cons; (repeat (first | with_reducible exact Take.here | apply Take.there)))))
theorem size_nil : Spec Tryd.prog 72 [.pointer none] [] (fun r L => r = .int .i64 0 ∧ L = []) := by
  refine Spec.of 9 Tryd.func72 rfl rfl rfl ?_
  refine swp_seq ?_
  refine swp_region ?_
  refine s_pu (pu_assign rfl) ?_
  refine swl_sub _ (.cons (t := 0) rfl .nil) ?_
  refine swl_nil ?_
  refine then_n ?_
  refine swp_seq ?_
  refine swp_seq ?_
  refine swp_region ?_
  refine s_pu (pu_move rfl) ?_
  refine s_pu (pu_ptr_eq_nil rfl rfl) ?_
  refine swl_sub _ (.cons (t := 0) rfl (.cons (t := 4) rfl .nil)) ?_
  refine swl_nil ?_
  refine then_n ?_
  refine swp_cond (b := _) rfl (fun h4 => ?_) (fun h4 => by cases h4)
  refine swp_seq ?_
  refine swp_region ?_
  refine s_pu (pu_assign rfl) ?_
  refine swl_sub _ (.cons (t := 2) rfl .nil) ?_
  refine swl_nil ?_
  refine then_n ?_
  refine swp_ret ?_
  refine then_r ?_
  exact done_ret _ (.tmp rfl .nil) ⟨rfl, rfl⟩ (by repeat (first | exact Split.nil | (apply Split.cons; (repeat (first | with_reducible exact Take.here | apply Take.there)))))
theorem has_o (p n : Nat) (v : Value) (ws : List (BitVec 64)) (k : Int) (hl : ws.length = (n + 63) / 64) (hn : n ≤ 1048576) :
    Spec Tryd.prog 58 [.pointer (some ⟨p, 0, none⟩), .int .i64 k] (opn p n v ws) (fun r L => r = .bool (decide (0 ≤ k) && (decide (k < n) && mem ws k.toNat)) ∧ L = opn p n v ws) := by
  refine Spec.of 28 Tryd.func58 rfl rfl rfl ?_
  refine swp_seq ?_
  refine swp_region ?_
  refine s_pu (pu_assign rfl) ?_
  refine swl_sub _ (.cons (t := 0) rfl (.cons (t := 1) rfl .nil)) ?_
  refine swl_nil ?_
  refine then_n ?_
  refine swp_seq ?_
  refine swp_region ?_
  refine s_pu (pu_move rfl) ?_
  refine s_pu (pu_geq rfl rfl) ?_
  refine s_pu (pu_move rfl) ?_
  refine s_split 7 rfl (fun h7 => ?_) (fun h7 => ?_)
  · skip   -- 7 T
    refine s_on rfl rfl ?_
    refine s_pu (pu_move rfl) ?_
    refine s_on rfl rfl ?_
    refine s_pu (pu_move rfl) ?_
    refine s_on rfl rfl ?_
    refine s_ef (ef_fn (size_b p n v) rfl rfl (by repeat (first | exact Split.nil | (apply Split.cons; (repeat (first | with_reducible exact Take.here | apply Take.there)))))) ?_
    rintro v1 L1 ⟨rfl, rfl⟩
    refine swl_app ?_
    refine s_on rfl rfl ?_
    refine s_pu (pu_lss rfl rfl) ?_
    first | refine s_pu (pu_pick_t rfl rfl) ?_ | refine s_pu (pu_pick_f rfl rfl) ?_
    refine s_pu (pu_move rfl) ?_
    refine s_split 13 rfl (fun h13 => ?_) (fun h13 => ?_)
    · skip   -- 13 T
      have h7' := of_decide_eq_true h7
      have h13' := of_decide_eq_true h13
      obtain ⟨m, rfl⟩ : ∃ m : Nat, k = m := ⟨k.toNat, by omega⟩
      have hmi : m / 64 < ws.length := by omega
      obtain ⟨w, hw⟩ : ∃ w, ws[m / 64]? = some w := ⟨_, List.getElem?_eq_getElem hmi⟩
      refine swl_own (by repeat (first | with_reducible exact Take.here | apply Take.there)) (fun h0 l0 _ => by omega) (fun b cap ex hv h1 h2 h3 h4 => ?_)
      subst hv
      refine s_on rfl rfl ?_
      refine s_pu (pu_move rfl) ?_
      refine s_on rfl rfl ?_
      first | refine s_pu (pu_nilCheck rfl) ?_ | refine s_pu (pu_nilCheck_fn rfl) ?_ | refine s_pu (pu_nilCheck_if rfl) ?_
      refine s_on rfl rfl ?_
      first | refine s_pu (pu_fieldAddr0 rfl) ?_ | refine s_pu (pu_fieldAddr rfl) ?_
      refine s_on rfl rfl ?_
      refine s_rd (rd_load rfl rfl) ?_
      refine s_on rfl rfl ?_
      refine s_pu (pu_move rfl) ?_
      refine s_on rfl rfl ?_
      refine s_pu (pu_quo_as ((m / 64 : Nat) : Int) rfl rfl (by omega) (by omega) (by omega) (by omega)) ?_
      refine s_on rfl rfl ?_
      refine s_pu (pu_indexAddr (m / 64) rfl rfl (by omega) (by omega) (by omega)) ?_
      refine s_on rfl rfl ?_
      refine s_rd (rd_load rfl (wcells_get hw)) ?_
      refine s_on rfl rfl ?_
      refine s_pu (pu_move rfl) ?_
      refine s_on rfl rfl ?_
      refine s_pu (pu_rem_as ((m % 64 : Nat) : Int) rfl rfl (by omega) (by omega) (by omega)) ?_
      refine s_on rfl rfl ?_
      refine s_pu (pu_shr_w (a := w) (m % 64) rfl rfl (by omega)) ?_
      refine s_on rfl rfl ?_
      refine s_pu (pu_and_w (b := 1#64) rfl rfl) ?_
      refine s_on rfl rfl ?_
      refine s_pu (pu_neq rfl rfl) ?_
      first | refine s_pu (pu_pick_t rfl rfl) ?_ | refine s_pu (pu_pick_f rfl rfl) ?_
      refine s_pu (pu_assign rfl) ?_
      refine swl_sub _ (.cons (t := 4) rfl .nil) ?_
      refine swl_nil ?_
      refine then_n ?_
      refine swp_ret ?_
      exact done_retE (opn p n _ ws) (.tmp rfl .nil) ⟨by simp only [resV, h7, h13, Bool.true_and, Int.toNat_natCast]; rw [bit_and_one w _, Bool.not_not, mem_at hw rfl], rfl⟩
        ((Split.ent' (K := [blk b 105 (wcells ws ++ ex), blk p 113 [.int .i64 (n : Nat), .slice (some ⟨b, 0, none⟩) ws.length cap]]) (by repeat (first | exact Split.nil | (apply Split.cons; (repeat (first | with_reducible exact Take.here | apply Take.there)))))).trans ((wown_close h1 h2 h4).trans Ent.swap))
    · skip   -- 13 F
      refine s_off rfl rfl rfl ?_
      refine s_off rfl rfl rfl ?_
      refine s_off rfl rfl rfl ?_
      refine s_off rfl rfl rfl ?_
      refine s_off rfl rfl rfl ?_
      refine s_off rfl rfl rfl ?_
      refine s_off rfl rfl rfl ?_
      refine s_off rfl rfl rfl ?_
      refine s_off rfl rfl rfl ?_
      refine s_off rfl rfl rfl ?_
      refine s_off rfl rfl rfl ?_
      refine s_off rfl rfl rfl ?_
      refine s_off rfl rfl rfl ?_
      first | refine s_pu (pu_pick_t rfl rfl) ?_ | refine s_pu (pu_pick_f rfl rfl) ?_
      refine s_pu (pu_assign rfl) ?_
      refine swl_sub _ (.cons (t := 4) rfl .nil) ?_
      refine swl_nil ?_
      refine then_n ?_
      refine swp_ret ?_
      exact done_ret (opn p n v ws) (.tmp rfl .nil) ⟨by simp [resV, *], rfl⟩ (by repeat (first | exact Split.nil | (apply Split.cons; (repeat (first | with_reducible exact Take.here | apply Take.there)))))
  · skip   -- 7 F
    refine s_off rfl rfl rfl ?_
    refine s_off rfl rfl rfl ?_
    refine s_off rfl rfl rfl ?_
    refine s_off rfl rfl rfl ?_
    first | refine s_pu (pu_pick_t rfl rfl) ?_ | refine s_pu (pu_pick_f rfl rfl) ?_
    refine s_pu (pu_move rfl) ?_
    refine s_off rfl rfl rfl ?_
    refine s_off rfl rfl rfl ?_
    refine s_off rfl rfl rfl ?_
    refine s_off rfl rfl rfl ?_
    refine s_off rfl rfl rfl ?_
    refine s_off rfl rfl rfl ?_
    refine s_off rfl rfl rfl ?_
    refine s_off rfl rfl rfl ?_
    refine s_off rfl rfl rfl ?_
    refine s_off rfl rfl rfl ?_
    refine s_off rfl rfl rfl ?_
    refine s_off rfl rfl rfl ?_
    refine s_off rfl rfl rfl ?_
    first | refine s_pu (pu_pick_t rfl rfl) ?_ | refine s_pu (pu_pick_f rfl rfl) ?_
    refine s_pu (pu_assign rfl) ?_
    refine swl_sub _ (.cons (t := 4) rfl .nil) ?_
    refine swl_nil ?_
    refine then_n ?_
    refine swp_ret ?_
    exact done_ret (opn p n v ws) (.tmp rfl .nil) ⟨by simp [resV, *], rfl⟩ (by repeat (first | exact Split.nil | (apply Split.cons; (repeat (first | with_reducible exact Take.here | apply Take.there)))))
theorem has_nil (k : Int) : Spec Tryd.prog 58 [.pointer none, .int .i64 k] [] (fun r L => r = .bool false ∧ L = []) := by
  refine Spec.of 28 Tryd.func58 rfl rfl rfl ?_
  refine swp_seq ?_
  refine swp_region ?_
  refine s_pu (pu_assign rfl) ?_
  refine swl_sub _ (.cons (t := 0) rfl (.cons (t := 1) rfl .nil)) ?_
  refine swl_nil ?_
  refine then_n ?_
  refine swp_seq ?_
  refine swp_region ?_
  refine s_pu (pu_move rfl) ?_
  refine s_pu (pu_geq rfl rfl) ?_
  refine s_pu (pu_move rfl) ?_
  refine s_split 7 rfl (fun h7 => ?_) (fun h7 => ?_)
  · skip   -- 7 T
    refine s_on rfl rfl ?_
    refine s_pu (pu_move rfl) ?_
    refine s_on rfl rfl ?_
    refine s_pu (pu_move rfl) ?_
    refine s_on rfl rfl ?_
    refine s_ef (ef_fn size_nil rfl rfl (by repeat (first | exact Split.nil | (apply Split.cons; (repeat (first | with_reducible exact Take.here | apply Take.there)))))) ?_
    rintro v1 L1 ⟨rfl, rfl⟩
    refine swl_app ?_
    refine s_on rfl rfl ?_
    refine s_pu (pu_lss rfl rfl) ?_
    first | refine s_pu (pu_pick_t rfl rfl) ?_ | refine s_pu (pu_pick_f rfl rfl) ?_
    refine s_pu (pu_move rfl) ?_
    refine s_split 13 rfl (fun h13 => by have := of_decide_eq_true h13; have := of_decide_eq_true h7; omega) (fun h13 => ?_)
    refine s_off rfl rfl rfl ?_
    refine s_off rfl rfl rfl ?_
    refine s_off rfl rfl rfl ?_
    refine s_off rfl rfl rfl ?_
    refine s_off rfl rfl rfl ?_
    refine s_off rfl rfl rfl ?_
    refine s_off rfl rfl rfl ?_
    refine s_off rfl rfl rfl ?_
    refine s_off rfl rfl rfl ?_
    refine s_off rfl rfl rfl ?_
    refine s_off rfl rfl rfl ?_
    refine s_off rfl rfl rfl ?_
    refine s_off rfl rfl rfl ?_
    first | refine s_pu (pu_pick_t rfl rfl) ?_ | refine s_pu (pu_pick_f rfl rfl) ?_
    refine s_pu (pu_assign rfl) ?_
    refine swl_sub _ (.cons (t := 4) rfl .nil) ?_
    refine swl_nil ?_
    refine then_n ?_
    refine swp_ret ?_
    exact done_ret _ (.tmp rfl .nil) ⟨rfl, rfl⟩ (by repeat (first | exact Split.nil | (apply Split.cons; (repeat (first | with_reducible exact Take.here | apply Take.there)))))
  · skip   -- 7 F
    refine s_off rfl rfl rfl ?_
    refine s_off rfl rfl rfl ?_
    refine s_off rfl rfl rfl ?_
    refine s_off rfl rfl rfl ?_
    first | refine s_pu (pu_pick_t rfl rfl) ?_ | refine s_pu (pu_pick_f rfl rfl) ?_
    refine s_pu (pu_move rfl) ?_
    refine s_off rfl rfl rfl ?_
    refine s_off rfl rfl rfl ?_
    refine s_off rfl rfl rfl ?_
    refine s_off rfl rfl rfl ?_
    refine s_off rfl rfl rfl ?_
    refine s_off rfl rfl rfl ?_
    refine s_off rfl rfl rfl ?_
    refine s_off rfl rfl rfl ?_
    refine s_off rfl rfl rfl ?_
    refine s_off rfl rfl rfl ?_
    refine s_off rfl rfl rfl ?_
    refine s_off rfl rfl rfl ?_
    refine s_off rfl rfl rfl ?_
    first | refine s_pu (pu_pick_t rfl rfl) ?_ | refine s_pu (pu_pick_f rfl rfl) ?_
    refine s_pu (pu_assign rfl) ?_
    refine swl_sub _ (.cons (t := 4) rfl .nil) ?_
    refine swl_nil ?_
    refine then_n ?_
    refine swp_ret ?_
    exact done_ret _ (.tmp rfl .nil) ⟨rfl, rfl⟩ (by repeat (first | exact Split.nil | (apply Split.cons; (repeat (first | with_reducible exact Take.here | apply Take.there)))))
theorem word_o (p n : Nat) (v : Value) (ws : List (BitVec 64)) (i : Nat) (hi : i ≤ 1048576) :
    Spec Tryd.prog 94 [.pointer (some ⟨p, 0, none⟩), .int .i64 (i : Nat)] (opn p n v ws) (fun r L => r = wv (ws.getD i 0#64) ∧ L = opn p n v ws) := by
  refine Spec.of 23 Tryd.func94 rfl rfl rfl ?_
  refine swp_front (A := own 105 1 v ws.length (wcells ws)) (by repeat (first | with_reducible exact Take.here | apply Take.there)) ?_
  refine swp_fact (fun m h => own_form h) fun ⟨A, cap, hv⟩ => ?_
  subst hv
  refine swp_seq ?_
  refine swp_region ?_
  refine s_pu (pu_assign rfl) ?_
  refine swl_sub _ (.cons (t := 0) rfl (.cons (t := 1) rfl .nil)) ?_
  refine swl_nil ?_
  refine then_n ?_
  refine swp_seq ?_
  refine swp_seq ?_
  refine swp_region ?_
  refine s_pu (pu_move rfl) ?_
  refine s_pu (pu_ptr_eq_nil rfl rfl) ?_
  refine s_pu (pu_move rfl) ?_
  refine s_on rfl rfl ?_
  refine s_pu (pu_move rfl) ?_
  refine s_on rfl rfl ?_
  refine s_pu (pu_move rfl) ?_
  refine s_on rfl rfl ?_
  first | refine s_pu (pu_nilCheck rfl) ?_ | refine s_pu (pu_nilCheck_fn rfl) ?_ | refine s_pu (pu_nilCheck_if rfl) ?_
  refine s_on rfl rfl ?_
  first | refine s_pu (pu_fieldAddr0 rfl) ?_ | refine s_pu (pu_fieldAddr rfl) ?_
  refine s_on rfl rfl ?_
  refine s_rd (rd_load rfl rfl) ?_
  refine s_on rfl rfl ?_
  refine s_pu (pu_len rfl) ?_
  refine s_on rfl rfl ?_
  refine s_pu (pu_geq rfl rfl) ?_
  first | refine s_pu (pu_pick_t rfl rfl) ?_ | refine s_pu (pu_pick_f rfl rfl) ?_
  refine swl_sub _ (.cons (t := 0) rfl (.cons (t := 1) rfl (.cons (t := 15) rfl .nil))) ?_
  refine swl_nil ?_
  refine then_n ?_
  refine swp_cond (b := _) rfl (fun h15 => ?_) (fun h15 => ?_)
  · skip   -- 15 T
    have h15' := of_decide_eq_true h15
    refine swp_seq ?_
    refine swp_region ?_
    refine s_pu (pu_assign rfl) ?_
    refine swl_sub _ (.cons (t := 4) rfl .nil) ?_
    refine swl_nil ?_
    refine then_n ?_
    refine swp_ret ?_
    refine then_r ?_
    exact done_ret (opn p n _ ws) (.tmp rfl .nil) ⟨by rw [List.getD_eq_getElem?_getD, List.getElem?_eq_none (by omega)]; rfl, rfl⟩ (by repeat (first | exact Split.nil | (apply Split.cons; (repeat (first | with_reducible exact Take.here | apply Take.there)))))
  · skip   -- 15 F
    refine swp_skip ?_
    refine then_n ?_
    refine swp_seq ?_
    have h15' := of_decide_eq_false h15
    obtain ⟨w, hw⟩ : ∃ w, ws[i]? = some w := ⟨_, List.getElem?_eq_getElem (by omega)⟩
    refine swp_front (A := own 105 1 (.slice A ws.length cap) ws.length (wcells ws)) (by repeat (first | with_reducible exact Take.here | apply Take.there)) ?_
    refine swp_own (fun h0 l0 _ => by omega) (fun b cap' ex hv h1 h2 h3 h4 => ?_)
    cases hv
    refine swp_region ?_
    refine s_pu (pu_move rfl) ?_
    first | refine s_pu (pu_nilCheck rfl) ?_ | refine s_pu (pu_nilCheck_fn rfl) ?_ | refine s_pu (pu_nilCheck_if rfl) ?_
    first | refine s_pu (pu_fieldAddr0 rfl) ?_ | refine s_pu (pu_fieldAddr rfl) ?_
    refine s_rd (rd_load rfl rfl) ?_
    refine s_pu (pu_move rfl) ?_
    refine s_pu (pu_indexAddr i rfl rfl (by omega) (by omega) (by omega)) ?_
    refine s_rd (rd_load rfl (wcells_get hw)) ?_
    refine s_pu (pu_assign rfl) ?_
    refine swl_sub _ (.cons (t := 4) rfl .nil) ?_
    refine swl_nil ?_
    refine then_n ?_
    refine swp_ret ?_
    exact done_retE (opn p n _ ws) (.tmp rfl .nil) ⟨by rw [List.getD_eq_getElem?_getD, hw]; rfl, rfl⟩
      ((Split.ent' (K := [blk b 105 (wcells ws ++ ex), blk p 113 [.int .i64 (n : Nat), .slice (some ⟨b, 0, none⟩) ws.length cap]]) (by repeat (first | exact Split.nil | (apply Split.cons; (repeat (first | with_reducible exact Take.here | apply Take.there)))))).trans ((wown_close h1 h2 h4).trans Ent.swap))
theorem word_nil (i : Nat) : Spec Tryd.prog 94 [.pointer none, .int .i64 (i : Nat)] [] (fun r L => r = wv 0#64 ∧ L = []) := by
  refine Spec.of 23 Tryd.func94 rfl rfl rfl ?_
  refine swp_seq ?_
  refine swp_region ?_
  refine s_pu (pu_assign rfl) ?_
  refine swl_sub _ (.cons (t := 0) rfl (.cons (t := 1) rfl .nil)) ?_
  refine swl_nil ?_
  refine then_n ?_
  refine swp_seq ?_
  refine swp_seq ?_
  refine swp_region ?_
  refine s_pu (pu_move rfl) ?_
  refine s_pu (pu_ptr_eq_nil rfl rfl) ?_
  refine s_pu (pu_move rfl) ?_
  refine s_off rfl rfl rfl ?_
  refine s_off rfl rfl rfl ?_
  refine s_off rfl rfl rfl ?_
  refine s_off rfl rfl rfl ?_
  refine s_off rfl rfl rfl ?_
  refine s_off rfl rfl rfl ?_
  refine s_off rfl rfl rfl ?_
  first | refine s_pu (pu_pick_t rfl rfl) ?_ | refine s_pu (pu_pick_f rfl rfl) ?_
  refine swl_sub _ (.cons (t := 0) rfl (.cons (t := 1) rfl (.cons (t := 15) rfl .nil))) ?_
  refine swl_nil ?_
  refine then_n ?_
  refine swp_cond (b := _) rfl (fun h15 => ?_) (fun h15 => by cases h15)
  refine swp_seq ?_
  refine swp_region ?_
  refine s_pu (pu_assign rfl) ?_
  refine swl_sub _ (.cons (t := 4) rfl .nil) ?_
  refine swl_nil ?_
  refine then_n ?_
  refine swp_ret ?_
  refine then_r ?_
  exact done_ret _ (.tmp rfl .nil) ⟨rfl, rfl⟩ (by repeat (first | exact Split.nil | (apply Split.cons; (repeat (first | with_reducible exact Take.here | apply Take.there)))))

def clampM (k : Int) : Nat := (min (max k 0) 1048576).toNat
theorem new_m (k : Int) : Spec Tryd.prog 55 [.int .i64 k] [] (fun r L => ∃ p, r = .pointer (some ⟨p, 0, none⟩) ∧ L = [mset p (clampM k) (fun _ => false)]) := by
  have hc : min (max k 0) 1048576 = ((clampM k : Nat) : Int) := by unfold clampM; omega
  have hle : clampM k ≤ 1048576 := by unfold clampM; omega
  generalize clampM k = n at hc hle
  refine Spec.of 13 Tryd.func55 rfl rfl rfl ?_
  refine swp_seq ?_
  refine swp_region ?_
  refine s_pu (pu_assign rfl) ?_
  refine swl_sub _ (.cons (t := 0) rfl .nil) ?_
  refine swl_nil ?_
  refine then_n ?_
  refine swp_seq ?_
  refine swp_region ?_
  refine s_pu (pu_move rfl) ?_
  refine s_pu (pu_max2 rfl rfl) ?_
  refine s_pu (pu_min2 rfl rfl) ?_
  refine s_pu (pu_assign rfl) ?_
  refine swl_sub _ (.cons (t := 0) rfl .nil) ?_
  rw [hc]
  refine swl_nil ?_
  refine then_n ?_
  refine swp_seq ?_
  refine swp_region ?_
  refine s_pu (pu_move rfl) ?_
  refine s_pu (pu_move rfl) ?_
  first | refine s_pu (pu_add_in rfl rfl (by omega) (by omega)) ?_ | refine s_pu (pu_add rfl rfl) ?_
  refine s_pu (pu_quo_as (((n + 63) / 64 : Nat) : Int) rfl rfl (by omega) (by omega) (by omega) (by omega)) ?_
  refine s_ef (ef_make1 ((n + 63) / 64) rfl rfl rfl (by omega) (by simp only [maxLen]; omega)) ?_
  rintro b
  skip
  refine s_pu (pu_bld (qs := [(0, _), (1, _)]) rfl) ?_
  refine s_ef (ef_box rfl rfl) ?_
  intro b12
  refine s_pu (pu_assign rfl) ?_
  refine swl_sub _ (.cons (t := 2) rfl .nil) ?_
  refine swl_nil ?_
  refine then_n ?_
  refine swp_ret ?_
  refine done_retE [mset b12 n (fun _ => false)] (.tmp rfl .nil) ⟨b12, rfl, rfl⟩ ?_
  have hw : wcells (List.replicate ((n + 63) / 64) 0#64) = List.replicate ((n + 63) / 64) (Value.int .u64 0) := by
    apply List.ext_getElem?
    intro j
    rcases Nat.lt_or_ge j ((n + 63) / 64) with h | h
    · have := wcells_get (ws := List.replicate ((n + 63) / 64) 0#64) (ex := []) (i := j) (w := 0#64) (by simp [h])
      rw [List.append_nil] at this
      rw [this]; simp [h]
    · rw [List.getElem?_eq_none (by rw [wcells_len, List.length_replicate]; exact h), List.getElem?_eq_none (by rw [List.length_replicate]; exact h)]
  rw [← hw]
  have hwf : Wf n (List.replicate ((n + 63) / 64) 0#64) (fun _ => false) := ⟨by simp, hle, fun k => by
    unfold mem
    rw [List.getD_eq_getElem?_getD]
    rcases Nat.lt_or_ge (k / 64) ((n + 63) / 64) with h | h
    · simp [h]
    · simp [Nat.not_lt.2 h], fun _ _ => rfl⟩
  have hcl := wown_close (b := b) (cap := (n + 63) / 64) (ws := List.replicate ((n + 63) / 64) 0#64) (ex := []) (L := [blk b12 113 [.int .i64 (n : Nat), .slice (some ⟨b, 0, none⟩) ((n + 63) / 64) ((n + 63) / 64)]]) (by simp) (by simp only [maxLen]; omega) (by simp)
  rw [List.append_nil, List.length_replicate] at hcl
  have hmc := mset_close (p := b12) (v := .slice (some ⟨b, 0, none⟩) ((n + 63) / 64) ((n + 63) / 64)) (L := []) hwf
  rw [List.length_replicate] at hmc
  exact (Split.ent' (K := [blk b 105 (wcells (List.replicate ((n + 63) / 64) 0#64)), blk b12 113 [.int .i64 (n : Nat), .slice (some ⟨b, 0, none⟩) ((n + 63) / 64) ((n + 63) / 64)]]) (by repeat (first | exact Split.nil | (apply Split.cons; (repeat (first | with_reducible exact Take.here | apply Take.there)))))).trans (hcl.trans (Ent.swap.trans hmc))
end SX
namespace SX
open Go Go.Proofs

theorem one_shl (r i : Nat) (hi : i < 64) : ((1#64 : BitVec 64) <<< r).getLsbD i = decide (i = r) := by
  rw [BitVec.getLsbD_shiftLeft]
  by_cases h : i = r
  · subst h; simp [hi]
  · by_cases h2 : i < r
    · simp [h2, h]
    · have : i - r ≠ 0 := by omega
      simp [h2, h, this]
theorem mem_set {ws : List (BitVec 64)} {i : Nat} (w : BitVec 64) (hi : i < ws.length) (j : Nat) : mem (ws.set i w) j = if j / 64 = i then w.getLsbD (j % 64) else mem ws j := by
  unfold mem
  rw [List.getD_eq_getElem?_getD, List.getElem?_set]
  split
  · rename_i h; subst h; simp
  · rename_i h; rw [if_neg (Ne.symm h), List.getD_eq_getElem?_getD]
theorem mem_put {ws : List (BitVec 64)} {m : Nat} {w : BitVec 64} (hw : ws[m / 64]? = some w) (j : Nat) : mem (ws.set (m / 64) (w ||| (1#64 <<< (m % 64)))) j = (mem ws j || decide (j = m)) := by
  have hi : m / 64 < ws.length := (List.getElem?_eq_some_iff.1 hw).1
  rw [mem_set _ hi]
  split
  · rename_i h
    rw [BitVec.getLsbD_or, one_shl _ _ (Nat.mod_lt _ (by decide)), mem_at hw h]
    congr 1
    by_cases e : j = m
    · subst e; simp
    · have : j % 64 ≠ m % 64 := by omega
      simp [e, this]
  · rename_i h
    have : j ≠ m := fun e => h (by rw [e])
    simp [this]
theorem mem_drop {ws : List (BitVec 64)} {m : Nat} {w : BitVec 64} (hw : ws[m / 64]? = some w) (j : Nat) : mem (ws.set (m / 64) (w &&& ~~~(1#64 <<< (m % 64)))) j = (mem ws j && !decide (j = m)) := by
  have hi : m / 64 < ws.length := (List.getElem?_eq_some_iff.1 hw).1
  rw [mem_set _ hi]
  split
  · rename_i h
    have hj : j % 64 < 64 := Nat.mod_lt _ (by decide)
    rw [BitVec.getLsbD_and, BitVec.getLsbD_not, one_shl _ _ hj, mem_at hw h]
    by_cases e : j = m
    · subst e; simp
    · have : j % 64 ≠ m % 64 := by omega
      simp [e, this, hj]
  · rename_i h
    have : j ≠ m := fun e => h (by rw [e])
    simp [this]

theorem put_o (p n : Nat) (v : Value) (ws : List (BitVec 64)) (k : Int) (hl : ws.length = (n + 63) / 64) (hn : n ≤ 1048576) :
    Spec Tryd.prog 57 [.pointer (some ⟨p, 0, none⟩), .int .i64 k] (opn p n v ws) (fun r L => r = .bool (decide (0 ≤ k) && (decide (k < n) && !mem ws k.toNat)) ∧ ∃ ws', ws'.length = ws.length ∧ (∀ j, mem ws' j = (mem ws j || (decide (0 ≤ k ∧ k < n) && decide (j = k.toNat)))) ∧ L = opn p n v ws') := by
  refine Spec.of 31 Tryd.func57 rfl rfl rfl ?_
  refine swp_seq ?_
  refine swp_region ?_
  refine s_pu (pu_assign rfl) ?_
  refine swl_sub _ (.cons (t := 0) rfl (.cons (t := 1) rfl .nil)) ?_
  refine swl_nil ?_
  refine then_n ?_
  refine swp_seq ?_
  refine swp_seq ?_
  refine swp_region ?_
  refine s_pu (pu_move rfl) ?_
  refine s_pu (pu_lss rfl rfl) ?_
  refine s_pu (pu_move rfl) ?_
  refine s_split 7 rfl (fun h7 => ?_) (fun h7 => ?_)
  · skip   -- 7 T
    refine s_off rfl rfl rfl ?_
    refine s_off rfl rfl rfl ?_
    refine s_off rfl rfl rfl ?_
    refine s_off rfl rfl rfl ?_
    first | refine s_pu (pu_pick_t rfl rfl) ?_ | refine s_pu (pu_pick_f rfl rfl) ?_
    refine s_pu (pu_move rfl) ?_
    refine s_off rfl rfl rfl ?_
    refine s_off rfl rfl rfl ?_
    refine s_off rfl rfl rfl ?_
    first | refine s_pu (pu_pick_t rfl rfl) ?_ | refine s_pu (pu_pick_f rfl rfl) ?_
    refine swl_sub _ (.cons (t := 0) rfl (.cons (t := 1) rfl (.cons (t := 17) rfl .nil))) ?_
    refine swl_nil ?_
    refine then_n ?_
    refine swp_cond (b := _) rfl (fun h17 => ?_) (fun h17 => by cases h17)
    refine swp_seq ?_
    refine swp_region ?_
    refine s_pu (pu_assign rfl) ?_
    refine swl_sub _ (.cons (t := 4) rfl .nil) ?_
    refine swl_nil ?_
    refine then_n ?_
    refine swp_ret ?_
    refine then_r ?_
    have h7' := of_decide_eq_true h7
    exact done_ret (opn p n v ws) (.tmp rfl .nil) ⟨by simp [resV, Int.not_le.2 h7'], ws, rfl, fun j => by simp [Int.not_le.2 h7'], rfl⟩ (by repeat (first | exact Split.nil | (apply Split.cons; (repeat (first | with_reducible exact Take.here | apply Take.there)))))
  · skip   -- 7 F
    refine s_on rfl rfl ?_
    refine s_pu (pu_move rfl) ?_
    refine s_on rfl rfl ?_
    refine s_pu (pu_move rfl) ?_
    refine s_on rfl rfl ?_
    refine s_ef (ef_fn (size_b p n v) rfl rfl (by repeat (first | exact Split.nil | (apply Split.cons; (repeat (first | with_reducible exact Take.here | apply Take.there)))))) ?_
    rintro v1 L1 ⟨rfl, rfl⟩
    refine swl_app ?_
    refine s_on rfl rfl ?_
    refine s_pu (pu_geq rfl rfl) ?_
    first | refine s_pu (pu_pick_t rfl rfl) ?_ | refine s_pu (pu_pick_f rfl rfl) ?_
    refine s_pu (pu_move rfl) ?_
    refine s_split 13 rfl (fun h13 => ?_) (fun h13 => ?_)
    · skip   -- 13 T
      refine s_off rfl rfl rfl ?_
      refine s_off rfl rfl rfl ?_
      refine s_off rfl rfl rfl ?_
      first | refine s_pu (pu_pick_t rfl rfl) ?_ | refine s_pu (pu_pick_f rfl rfl) ?_
      refine swl_sub _ (.cons (t := 0) rfl (.cons (t := 1) rfl (.cons (t := 17) rfl .nil))) ?_
      refine swl_nil ?_
      refine then_n ?_
      refine swp_cond (b := _) rfl (fun h17 => ?_) (fun h17 => by cases h17)
      refine swp_seq ?_
      refine swp_region ?_
      refine s_pu (pu_assign rfl) ?_
      refine swl_sub _ (.cons (t := 4) rfl .nil) ?_
      refine swl_nil ?_
      refine then_n ?_
      refine swp_ret ?_
      refine then_r ?_
      have h13' := of_decide_eq_true h13
      exact done_ret (opn p n v ws) (.tmp rfl .nil) ⟨by simp [resV, Int.not_lt.2 h13'], ws, rfl, fun j => by simp [Int.not_lt.2 h13'], rfl⟩ (by repeat (first | exact Split.nil | (apply Split.cons; (repeat (first | with_reducible exact Take.here | apply Take.there)))))
    · skip   -- 13 F
      refine s_on rfl rfl ?_
      refine s_pu (pu_move rfl) ?_
      refine s_on rfl rfl ?_
      refine s_pu (pu_move rfl) ?_
      refine s_on rfl rfl ?_
      refine s_ef (ef_fn (has_o p n v ws k hl hn) rfl rfl (by repeat (first | exact Split.nil | (apply Split.cons; (repeat (first | with_reducible exact Take.here | apply Take.there)))))) ?_
      rintro v1 L1 ⟨rfl, rfl⟩
      refine swl_app ?_
      first | refine s_pu (pu_pick_t rfl rfl) ?_ | refine s_pu (pu_pick_f rfl rfl) ?_
      refine swl_sub _ (.cons (t := 0) rfl (.cons (t := 1) rfl (.cons (t := 17) rfl .nil))) ?_
      refine swl_nil ?_
      refine then_n ?_
      refine swp_cond (b := _) rfl (fun h17 => ?_) (fun h17 => ?_)
      · skip   -- 17 T
        refine swp_seq ?_
        refine swp_region ?_
        refine s_pu (pu_assign rfl) ?_
        refine swl_sub _ (.cons (t := 4) rfl .nil) ?_
        refine swl_nil ?_
        refine then_n ?_
        refine swp_ret ?_
        refine then_r ?_
        have h7' := of_decide_eq_false h7
        have h13' := of_decide_eq_false h13
        have h17' : mem ws k.toNat = true := by simp only [Bool.and_eq_true] at h17; exact h17.2.2
        exact done_ret (opn p n v ws) (.tmp rfl .nil) ⟨by simp [resV, h17'], ws, rfl, fun j => by
          by_cases e : j = k.toNat
          · subst e; simp [h17']
          · simp [e], rfl⟩ (by repeat (first | exact Split.nil | (apply Split.cons; (repeat (first | with_reducible exact Take.here | apply Take.there)))))
      · skip   -- 17 F
        refine swp_skip ?_
        refine then_n ?_
        refine swp_seq ?_
        have h7' := of_decide_eq_false h7
        have h13' := of_decide_eq_false h13
        obtain ⟨m, rfl⟩ : ∃ m : Nat, k = m := ⟨k.toNat, by omega⟩
        have hmi : m / 64 < ws.length := by omega
        obtain ⟨w, hw⟩ : ∃ w, ws[m / 64]? = some w := ⟨_, List.getElem?_eq_getElem hmi⟩
        refine swp_front (A := own 105 1 v ws.length (wcells ws)) (by repeat (first | with_reducible exact Take.here | apply Take.there)) ?_
        refine swp_own (fun h0 l0 _ => by omega) (fun b cap ex hv h1 h2 h3 h4 => ?_)
        subst hv
        refine swp_draw [3, 7] _ [] (by simp only [List.append_nil]; exact Ent.refl _) (by kernel_rfl) ?_
        refine d_pu 0 rfl (pu_move rfl) (by kernel_rfl) (by kernel_rfl) (by kernel_rfl) ?_
        first | refine d_pu 1 rfl (pu_nilCheck rfl) (by kernel_rfl) (by kernel_rfl) (by kernel_rfl) ?_ | refine d_pu 1 rfl (pu_nilCheck_fn rfl) (by kernel_rfl) (by kernel_rfl) (by kernel_rfl) ?_ | refine d_pu 1 rfl (pu_nilCheck_if rfl) (by kernel_rfl) (by kernel_rfl) (by kernel_rfl) ?_
        first | refine d_pu 2 rfl (pu_fieldAddr0 rfl) (by kernel_rfl) (by kernel_rfl) (by kernel_rfl) ?_ | refine d_pu 2 rfl (pu_fieldAddr rfl) (by kernel_rfl) (by kernel_rfl) (by kernel_rfl) ?_
        refine d_rd 3 rfl (rd_load rfl rfl) rfl (by kernel_rfl) (by kernel_rfl) (by kernel_rfl) ?_
        refine d_pu 4 rfl (pu_move rfl) (by kernel_rfl) (by kernel_rfl) (by kernel_rfl) ?_
        refine d_pu 5 rfl (pu_quo_as ((m / 64 : Nat) : Int) rfl rfl (by omega) (by omega) (by omega) (by omega)) (by kernel_rfl) (by kernel_rfl) (by kernel_rfl) ?_
        refine d_pu 6 rfl (pu_indexAddr (m / 64) rfl rfl (by omega) (by omega) (by omega)) (by kernel_rfl) (by kernel_rfl) (by kernel_rfl) ?_
        refine d_rd 7 rfl (rd_load rfl (wcells_get hw)) rfl (by kernel_rfl) (by kernel_rfl) (by kernel_rfl) ?_
        refine d_pu 8 rfl (pu_move rfl) (by kernel_rfl) (by kernel_rfl) (by kernel_rfl) ?_
        refine d_pu 9 rfl (pu_rem_as ((m % 64 : Nat) : Int) rfl rfl (by omega) (by omega) (by omega)) (by kernel_rfl) (by kernel_rfl) (by kernel_rfl) ?_
        refine d_pu 10 rfl (pu_shl_w (a := 1#64) (m % 64) rfl rfl (by omega)) (by kernel_rfl) (by kernel_rfl) (by kernel_rfl) ?_
        refine d_pu 11 rfl (pu_or_w (a := w) rfl rfl) (by kernel_rfl) (by kernel_rfl) (by kernel_rfl) ?_
        refine d_pu 12 rfl (pu_indexAddr (m / 64) rfl rfl (by omega) (by omega) (by omega)) (by kernel_rfl) (by kernel_rfl) (by kernel_rfl) ?_
        first | refine d_fin0t 13 rfl (by kernel_rfl) (by kernel_rfl) (ef_storeP rfl rfl rfl (by rw [List.length_append, wcells_len]; omega)) ?_ | refine d_fin0f 13 rfl (by kernel_rfl) (by kernel_rfl) (ef_storeP rfl rfl rfl (by rw [List.length_append, wcells_len]; omega)) ?_
        refine d_sub _ .nil ?_
        first | refine d_nilt (by kernel_rfl) ?_ | refine d_nilf (by kernel_rfl) ?_
        refine then_n ?_
        refine swp_seq ?_
        refine swp_ent (Split.ent' (K := [blk b 105 ((wcells ws ++ ex).set (m / 64) (wv (w ||| (1#64 <<< (m % 64))))), blk p 113 [.int .i64 (n : Nat), .slice (some ⟨b, 0, none⟩) ws.length cap]]) (by repeat (first | exact Split.nil | (apply Split.cons; (repeat (first | with_reducible exact Take.here | apply Take.there)))))) ?_
        rw [wcells_set hmi]
        refine swp_region ?_
        refine s_pu (pu_assign rfl) ?_
        refine swl_sub _ (.cons (t := 4) rfl .nil) ?_
        refine swl_nil ?_
        refine then_n ?_
        refine swp_ret ?_
        have hm17 : mem ws m = false := by
          have h : (decide ((0 : Int) ≤ m) && (decide ((m : Int) < n) && mem ws (m : Int).toNat)) = false := h17
          rw [decide_eq_true (by omega), decide_eq_true (by omega), Bool.true_and, Bool.true_and, Int.toNat_natCast] at h; exact h
        have hls : (ws.set (m / 64) (w ||| (1#64 <<< (m % 64)))).length = ws.length := List.length_set
        refine done_retE (opn p n (.slice (some ⟨b, 0, none⟩) ws.length cap) (ws.set (m / 64) (w ||| (1#64 <<< (m % 64))))) (.tmp rfl .nil) ⟨?_, _, hls, fun j => ?_, rfl⟩ ?_
        · rw [Int.toNat_natCast, decide_eq_true (show (0 : Int) ≤ m by omega), decide_eq_true (show (m : Int) < n by omega), hm17]; rfl
        · rw [mem_put hw, Int.toNat_natCast, decide_eq_true (show (0 : Int) ≤ m ∧ (m : Int) < n by omega), Bool.true_and]
        · have hc := wown_close (b := b) (cap := cap) (ws := ws.set (m / 64) (w ||| (1#64 <<< (m % 64)))) (ex := ex) (L := [blk p 113 [.int .i64 (n : Nat), .slice (some ⟨b, 0, none⟩) ws.length cap]]) (by omega) h2 (by rw [hls]; exact h4)
          rw [hls] at hc
          show Ent _ [blk p 113 [.int .i64 (n : Nat), .slice (some ⟨b, 0, none⟩) ws.length cap], own 105 1 (.slice (some ⟨b, 0, none⟩) ws.length cap) (ws.set (m / 64) (w ||| (1#64 <<< (m % 64)))).length (wcells (ws.set (m / 64) (w ||| (1#64 <<< (m % 64)))))]
          rw [hls]
          exact hc.trans Ent.swap

theorem drop_o (p n : Nat) (v : Value) (ws : List (BitVec 64)) (k : Int) (hl : ws.length = (n + 63) / 64) (hn : n ≤ 1048576) :
    Spec Tryd.prog 66 [.pointer (some ⟨p, 0, none⟩), .int .i64 k] (opn p n v ws) (fun r L => r = .bool (decide (0 ≤ k) && (decide (k < n) && mem ws k.toNat)) ∧ ∃ ws', ws'.length = ws.length ∧ (∀ j, mem ws' j = (mem ws j && !(decide (0 ≤ k ∧ k < n) && decide (j = k.toNat)))) ∧ L = opn p n v ws') := by
  refine Spec.of 22 Tryd.func66 rfl rfl rfl ?_
  refine swp_seq ?_
  refine swp_region ?_
  refine s_pu (pu_assign rfl) ?_
  refine swl_sub _ (.cons (t := 0) rfl (.cons (t := 1) rfl .nil)) ?_
  refine swl_nil ?_
  refine then_n ?_
  refine swp_seq ?_
  refine swp_seq ?_
  refine swp_region ?_
  refine s_pu (pu_move rfl) ?_
  refine s_pu (pu_move rfl) ?_
  refine s_ef (ef_fn (has_o p n v ws k hl hn) rfl rfl (by repeat (first | exact Split.nil | (apply Split.cons; (repeat (first | with_reducible exact Take.here | apply Take.there)))))) ?_
  rintro v1 L1 ⟨rfl, rfl⟩
  refine swl_app ?_
  refine s_pu (pu_not rfl) ?_
  refine swl_sub _ (.cons (t := 0) rfl (.cons (t := 1) rfl (.cons (t := 8) rfl .nil))) ?_
  refine swl_nil ?_
  refine then_n ?_
  refine swp_cond (b := _) rfl (fun h8 => ?_) (fun h8 => ?_)
  · skip   -- 8 T
    refine swp_seq ?_
    refine swp_region ?_
    refine s_pu (pu_assign rfl) ?_
    refine swl_sub _ (.cons (t := 4) rfl .nil) ?_
    refine swl_nil ?_
    refine then_n ?_
    refine swp_ret ?_
    refine then_r ?_
    have h8' := not_t h8
    exact done_ret (opn p n v ws) (.tmp rfl .nil) ⟨by rw [h8']; rfl, ws, rfl, fun j => by
      by_cases e : j = k.toNat
      · subst e
        by_cases hk : 0 ≤ k ∧ k < n
        · rw [decide_eq_true hk.1, decide_eq_true hk.2, Bool.true_and, Bool.true_and] at h8'; simp [h8']
        · simp [hk]
      · simp [e], rfl⟩ (by repeat (first | exact Split.nil | (apply Split.cons; (repeat (first | with_reducible exact Take.here | apply Take.there)))))
  · skip   -- 8 F
    refine swp_skip ?_
    refine then_n ?_
    refine swp_seq ?_
    have h8' := not_f h8
    simp only [Bool.and_eq_true, decide_eq_true_eq] at h8'
    obtain ⟨m, rfl⟩ : ∃ m : Nat, k = m := ⟨k.toNat, by omega⟩
    have hmi : m / 64 < ws.length := by omega
    obtain ⟨w, hw⟩ : ∃ w, ws[m / 64]? = some w := ⟨_, List.getElem?_eq_getElem hmi⟩
    refine swp_front (A := own 105 1 v ws.length (wcells ws)) (by repeat (first | with_reducible exact Take.here | apply Take.there)) ?_
    refine swp_own (fun h0 l0 _ => by omega) (fun b cap ex hv h1 h2 h3 h4 => ?_)
    subst hv
    refine swp_draw [3, 7] _ [] (by simp only [List.append_nil]; exact Ent.refl _) (by kernel_rfl) ?_
    refine d_pu 0 rfl (pu_move rfl) (by kernel_rfl) (by kernel_rfl) (by kernel_rfl) ?_
    first | refine d_pu 1 rfl (pu_nilCheck rfl) (by kernel_rfl) (by kernel_rfl) (by kernel_rfl) ?_ | refine d_pu 1 rfl (pu_nilCheck_fn rfl) (by kernel_rfl) (by kernel_rfl) (by kernel_rfl) ?_ | refine d_pu 1 rfl (pu_nilCheck_if rfl) (by kernel_rfl) (by kernel_rfl) (by kernel_rfl) ?_
    first | refine d_pu 2 rfl (pu_fieldAddr0 rfl) (by kernel_rfl) (by kernel_rfl) (by kernel_rfl) ?_ | refine d_pu 2 rfl (pu_fieldAddr rfl) (by kernel_rfl) (by kernel_rfl) (by kernel_rfl) ?_
    refine d_rd 3 rfl (rd_load rfl rfl) rfl (by kernel_rfl) (by kernel_rfl) (by kernel_rfl) ?_
    refine d_pu 4 rfl (pu_move rfl) (by kernel_rfl) (by kernel_rfl) (by kernel_rfl) ?_
    refine d_pu 5 rfl (pu_quo_as ((m / 64 : Nat) : Int) rfl rfl (by omega) (by omega) (by omega) (by omega)) (by kernel_rfl) (by kernel_rfl) (by kernel_rfl) ?_
    refine d_pu 6 rfl (pu_indexAddr (m / 64) rfl rfl (by omega) (by omega) (by omega)) (by kernel_rfl) (by kernel_rfl) (by kernel_rfl) ?_
    refine d_rd 7 rfl (rd_load rfl (wcells_get hw)) rfl (by kernel_rfl) (by kernel_rfl) (by kernel_rfl) ?_
    refine d_pu 8 rfl (pu_move rfl) (by kernel_rfl) (by kernel_rfl) (by kernel_rfl) ?_
    refine d_pu 9 rfl (pu_rem_as ((m % 64 : Nat) : Int) rfl rfl (by omega) (by omega) (by omega)) (by kernel_rfl) (by kernel_rfl) (by kernel_rfl) ?_
    refine d_pu 10 rfl (pu_shl_w (a := 1#64) (m % 64) rfl rfl (by omega)) (by kernel_rfl) (by kernel_rfl) (by kernel_rfl) ?_
    refine d_pu 11 rfl (pu_andNot_w (a := w) rfl rfl) (by kernel_rfl) (by kernel_rfl) (by kernel_rfl) ?_
    refine d_pu 12 rfl (pu_indexAddr (m / 64) rfl rfl (by omega) (by omega) (by omega)) (by kernel_rfl) (by kernel_rfl) (by kernel_rfl) ?_
    first | refine d_fin0t 13 rfl (by kernel_rfl) (by kernel_rfl) (ef_storeP rfl rfl rfl (by rw [List.length_append, wcells_len]; omega)) ?_ | refine d_fin0f 13 rfl (by kernel_rfl) (by kernel_rfl) (ef_storeP rfl rfl rfl (by rw [List.length_append, wcells_len]; omega)) ?_
    refine d_sub _ .nil ?_
    first | refine d_nilt (by kernel_rfl) ?_ | refine d_nilf (by kernel_rfl) ?_
    refine then_n ?_
    refine swp_seq ?_
    refine swp_ent (Split.ent' (K := [blk b 105 ((wcells ws ++ ex).set (m / 64) (wv (w &&& ~~~(1#64 <<< (m % 64))))), blk p 113 [.int .i64 (n : Nat), .slice (some ⟨b, 0, none⟩) ws.length cap]]) (by repeat (first | exact Split.nil | (apply Split.cons; (repeat (first | with_reducible exact Take.here | apply Take.there)))))) ?_
    rw [wcells_set hmi]
    refine swp_region ?_
    refine s_pu (pu_assign rfl) ?_
    refine swl_sub _ (.cons (t := 4) rfl .nil) ?_
    refine swl_nil ?_
    refine then_n ?_
    refine swp_ret ?_
    have hls : (ws.set (m / 64) (w &&& ~~~(1#64 <<< (m % 64)))).length = ws.length := List.length_set
    refine done_retE (opn p n (.slice (some ⟨b, 0, none⟩) ws.length cap) (ws.set (m / 64) (w &&& ~~~(1#64 <<< (m % 64))))) (.tmp rfl .nil) ⟨?_, _, hls, fun j => ?_, rfl⟩ ?_
    · rw [decide_eq_true h8'.1, decide_eq_true h8'.2.1, h8'.2.2]; rfl
    · rw [mem_drop hw, Int.toNat_natCast, decide_eq_true (show (0 : Int) ≤ m ∧ (m : Int) < n from ⟨h8'.1, h8'.2.1⟩), Bool.true_and]
    · have hc := wown_close (b := b) (cap := cap) (ws := ws.set (m / 64) (w &&& ~~~(1#64 <<< (m % 64)))) (ex := ex) (L := [blk p 113 [.int .i64 (n : Nat), .slice (some ⟨b, 0, none⟩) ws.length cap]]) (by omega) h2 (by rw [hls]; exact h4)
      rw [hls] at hc
      show Ent _ [blk p 113 [.int .i64 (n : Nat), .slice (some ⟨b, 0, none⟩) ws.length cap], own 105 1 (.slice (some ⟨b, 0, none⟩) ws.length cap) (ws.set (m / 64) (w &&& ~~~(1#64 <<< (m % 64)))).length (wcells (ws.set (m / 64) (w &&& ~~~(1#64 <<< (m % 64)))))]
      rw [hls]
      exact hc.trans Ent.swap
theorem put_nil (k : Int) : Spec Tryd.prog 57 [.pointer none, .int .i64 k] [] (fun r L => r = .bool false ∧ L = []) := by
  refine Spec.of 31 Tryd.func57 rfl rfl rfl ?_
  refine swp_seq ?_
  refine swp_region ?_
  refine s_pu (pu_assign rfl) ?_
  refine swl_sub _ (.cons (t := 0) rfl (.cons (t := 1) rfl .nil)) ?_
  refine swl_nil ?_
  refine then_n ?_
  refine swp_seq ?_
  refine swp_seq ?_
  refine swp_region ?_
  refine s_pu (pu_move rfl) ?_
  refine s_pu (pu_lss rfl rfl) ?_
  refine s_pu (pu_move rfl) ?_
  refine s_split 7 rfl (fun h7 => ?_) (fun h7 => ?_)
  · skip   -- 7 T
    refine s_off rfl rfl rfl ?_
    refine s_off rfl rfl rfl ?_
    refine s_off rfl rfl rfl ?_
    refine s_off rfl rfl rfl ?_
    first | refine s_pu (pu_pick_t rfl rfl) ?_ | refine s_pu (pu_pick_f rfl rfl) ?_
    refine s_pu (pu_move rfl) ?_
    refine s_off rfl rfl rfl ?_
    refine s_off rfl rfl rfl ?_
    refine s_off rfl rfl rfl ?_
    first | refine s_pu (pu_pick_t rfl rfl) ?_ | refine s_pu (pu_pick_f rfl rfl) ?_
    refine swl_sub _ (.cons (t := 0) rfl (.cons (t := 1) rfl (.cons (t := 17) rfl .nil))) ?_
    refine swl_nil ?_
    refine then_n ?_
    refine swp_cond (b := _) rfl (fun h17 => ?_) (fun h17 => by cases h17)
    refine swp_seq ?_
    refine swp_region ?_
    refine s_pu (pu_assign rfl) ?_
    refine swl_sub _ (.cons (t := 4) rfl .nil) ?_
    refine swl_nil ?_
    refine then_n ?_
    refine swp_ret ?_
    refine then_r ?_
    exact done_ret [] (.tmp rfl .nil) ⟨rfl, rfl⟩ (by repeat (first | exact Split.nil | (apply Split.cons; (repeat (first | with_reducible exact Take.here | apply Take.there)))))
  · skip   -- 7 F
    refine s_on rfl rfl ?_
    refine s_pu (pu_move rfl) ?_
    refine s_on rfl rfl ?_
    refine s_pu (pu_move rfl) ?_
    refine s_on rfl rfl ?_
    refine s_ef (ef_fn size_nil rfl rfl (by repeat (first | exact Split.nil | (apply Split.cons; (repeat (first | with_reducible exact Take.here | apply Take.there)))))) ?_
    rintro v1 L1 ⟨rfl, rfl⟩
    refine swl_app ?_
    refine s_on rfl rfl ?_
    refine s_pu (pu_geq rfl rfl) ?_
    first | refine s_pu (pu_pick_t rfl rfl) ?_ | refine s_pu (pu_pick_f rfl rfl) ?_
    refine s_pu (pu_move rfl) ?_
    refine s_split 13 rfl (fun h13 => ?_) (fun h13 => by have h1 := of_decide_eq_false h13; have h2 := of_decide_eq_false h7; omega)
    refine s_off rfl rfl rfl ?_
    refine s_off rfl rfl rfl ?_
    refine s_off rfl rfl rfl ?_
    first | refine s_pu (pu_pick_t rfl rfl) ?_ | refine s_pu (pu_pick_f rfl rfl) ?_
    refine swl_sub _ (.cons (t := 0) rfl (.cons (t := 1) rfl (.cons (t := 17) rfl .nil))) ?_
    refine swl_nil ?_
    refine then_n ?_
    refine swp_cond (b := _) rfl (fun h17 => ?_) (fun h17 => by cases h17)
    refine swp_seq ?_
    refine swp_region ?_
    refine s_pu (pu_assign rfl) ?_
    refine swl_sub _ (.cons (t := 4) rfl .nil) ?_
    refine swl_nil ?_
    refine then_n ?_
    refine swp_ret ?_
    refine then_r ?_
    exact done_ret [] (.tmp rfl .nil) ⟨rfl, rfl⟩ (by repeat (first | exact Split.nil | (apply Split.cons; (repeat (first | with_reducible exact Take.here | apply Take.there)))))
theorem drop_nil (k : Int) : Spec Tryd.prog 66 [.pointer none, .int .i64 k] [] (fun r L => r = .bool false ∧ L = []) := by
  refine Spec.of 22 Tryd.func66 rfl rfl rfl ?_
  refine swp_seq ?_
  refine swp_region ?_
  refine s_pu (pu_assign rfl) ?_
  refine swl_sub _ (.cons (t := 0) rfl (.cons (t := 1) rfl .nil)) ?_
  refine swl_nil ?_
  refine then_n ?_
  refine swp_seq ?_
  refine swp_seq ?_
  refine swp_region ?_
  refine s_pu (pu_move rfl) ?_
  refine s_pu (pu_move rfl) ?_
  refine s_ef (ef_fn (has_nil k) rfl rfl (by repeat (first | exact Split.nil | (apply Split.cons; (repeat (first | with_reducible exact Take.here | apply Take.there)))))) ?_
  rintro v1 L1 ⟨rfl, rfl⟩
  refine swl_app ?_
  refine s_pu (pu_not rfl) ?_
  refine swl_sub _ (.cons (t := 0) rfl (.cons (t := 1) rfl (.cons (t := 8) rfl .nil))) ?_
  refine swl_nil ?_
  refine then_n ?_
  refine swp_cond (b := _) rfl (fun h8 => ?_) (fun h8 => by cases h8)
  refine swp_seq ?_
  refine swp_region ?_
  refine s_pu (pu_assign rfl) ?_
  refine swl_sub _ (.cons (t := 4) rfl .nil) ?_
  refine swl_nil ?_
  refine then_n ?_
  refine swp_ret ?_
  refine then_r ?_
  exact done_ret [] (.tmp rfl .nil) ⟨rfl, rfl⟩ (by repeat (first | exact Split.nil | (apply Split.cons; (repeat (first | with_reducible exact Take.here | apply Take.there)))))
end SX
namespace SX
open Go Go.Proofs

abbrev opr (p n : Nat) (v : Value) (ws : List (BitVec 64)) (μ : PH) : List Assn := [blk p 113 [.int .i64 (n : Nat), v], own 105 1 v ws.length (wcells ws), ro μ]
def IsNext (S : Nat → Bool) (k r : Int) : Prop := (r = -1 ∧ ∀ j : Nat, k ≤ j → S j = false) ∨ ∃ j : Nat, r = j ∧ k ≤ j ∧ S j = true ∧ ∀ i : Nat, k ≤ i → i < j → S i = false
def IsLast (S : Nat → Bool) (k r : Int) : Prop := (r = -1 ∧ ∀ j : Nat, (j : Int) ≤ k → S j = false) ∨ ∃ j : Nat, r = j ∧ (j : Int) ≤ k ∧ S j = true ∧ ∀ i : Nat, j < i → (i : Int) ≤ k → S i = false
theorem mem_ge {ws : List (BitVec 64)} {k : Nat} (h : 64 * ws.length ≤ k) : mem ws k = false := by
  unfold mem
  rw [List.getD_eq_getElem?_getD, List.getElem?_eq_none (by omega)]
  simp
theorem w_ne {w : BitVec 64} (h : (!decide ((w.toNat : Int) = 0)) = true) : w ≠ 0#64 := fun e => by subst e; simp at h
theorem w_eq {w : BitVec 64} (h : (!decide ((w.toNat : Int) = 0)) = false) : w = 0#64 := by
  have := of_decide_eq_true (not_f h)
  exact BitVec.eq_of_toNat_eq (by simpa using this)

set_option maxHeartbeats 1000000 in
theorem next_o (μ : PH) (p n : Nat) (v : Value) (ws : List (BitVec 64)) (k : Int) (hT : RowAt μ 0 0 tabV) (hl : ws.length = (n + 63) / 64) (hn : n ≤ 1048576) (hS : ∀ j, n ≤ j → mem ws j = false) :
    Spec Tryd.prog 80 [.pointer (some ⟨p, 0, none⟩), .int .i64 k] (opr p n v ws μ) (fun r L => ∃ x, r = .int .i64 x ∧ IsNext (mem ws) k x ∧ L = opr p n v ws μ) := by
  obtain ⟨m, hm⟩ : ∃ m : Nat, max k 0 = m := ⟨(max k 0).toNat, by omega⟩
  refine Spec.of 52 Tryd.func80 rfl rfl rfl ?_
  refine swp_seq ?_
  refine swp_region ?_
  refine s_pu (pu_assign rfl) ?_
  refine swl_sub _ (.cons (t := 0) rfl (.cons (t := 1) rfl .nil)) ?_
  refine swl_nil ?_
  refine then_n ?_
  refine swp_seq ?_
  refine swp_region ?_
  refine s_pu (pu_move rfl) ?_
  refine s_pu (pu_max2 rfl rfl) ?_
  refine s_pu (pu_assign rfl) ?_
  refine swl_sub _ (.cons (t := 0) rfl (.cons (t := 1) rfl .nil)) ?_
  rw [hm]
  refine swl_nil ?_
  refine then_n ?_
  refine swp_seq ?_
  refine swp_seq ?_
  refine swp_region ?_
  refine s_pu (pu_move rfl) ?_
  refine s_pu (pu_move rfl) ?_
  refine s_ef (ef_fn (size_b p n v) rfl rfl (by repeat (first | exact Split.nil | (apply Split.cons; (repeat (first | with_reducible exact Take.here | apply Take.there)))))) ?_
  rintro v1 L1 ⟨rfl, rfl⟩
  refine swl_app ?_
  refine s_pu (pu_geq rfl rfl) ?_
  refine swl_sub _ (.cons (t := 0) rfl (.cons (t := 1) rfl (.cons (t := 12) rfl .nil))) ?_
  refine swl_nil ?_
  refine then_n ?_
  refine swp_cond (b := _) rfl (fun h12 => ?_) (fun h12 => ?_)
  · skip   -- 12 T
    refine swp_seq ?_
    refine swp_region ?_
    refine s_pu (pu_assign rfl) ?_
    refine swl_sub _ (.cons (t := 4) rfl .nil) ?_
    refine swl_nil ?_
    refine then_n ?_
    refine swp_ret ?_
    refine then_r ?_
    have h12' := of_decide_eq_true h12
    exact done_ret (opr p n v ws μ) (.tmp rfl .nil) ⟨-1, rfl, .inl ⟨rfl, fun j hj => hS j (by omega)⟩, rfl⟩ (by repeat (first | exact Split.nil | (apply Split.cons; (repeat (first | with_reducible exact Take.here | apply Take.there)))))
  · skip   -- 12 F
    refine swp_skip ?_
    refine then_n ?_
    refine swp_seq ?_
    have h12' := of_decide_eq_false h12
    have hmi : m / 64 < ws.length := by omega
    obtain ⟨w0, hw0⟩ : ∃ w, ws[m / 64]? = some w := ⟨_, List.getElem?_eq_getElem hmi⟩
    refine swp_front (A := own 105 1 v ws.length (wcells ws)) (by repeat (first | with_reducible exact Take.here | apply Take.there)) ?_
    refine swp_own (fun h0 l0 _ => by omega) (fun b cap ex hv h1 h2 h3 h4 => ?_)
    subst hv
    refine swp_draw [5, 9] _ [] (by simp only [List.append_nil]; exact Ent.refl _) (by kernel_rfl) ?_
    refine d_pu 0 rfl (pu_move rfl) (by kernel_rfl) (by kernel_rfl) (by kernel_rfl) ?_
    refine d_pu 1 rfl (pu_quo_as ((m / 64 : Nat) : Int) rfl rfl (by omega) (by omega) (by omega) (by omega)) (by kernel_rfl) (by kernel_rfl) (by kernel_rfl) ?_
    refine d_pu 2 rfl (pu_move rfl) (by kernel_rfl) (by kernel_rfl) (by kernel_rfl) ?_
    first | refine d_pu 3 rfl (pu_nilCheck rfl) (by kernel_rfl) (by kernel_rfl) (by kernel_rfl) ?_ | refine d_pu 3 rfl (pu_nilCheck_fn rfl) (by kernel_rfl) (by kernel_rfl) (by kernel_rfl) ?_ | refine d_pu 3 rfl (pu_nilCheck_if rfl) (by kernel_rfl) (by kernel_rfl) (by kernel_rfl) ?_
    first | refine d_pu 4 rfl (pu_fieldAddr0 rfl) (by kernel_rfl) (by kernel_rfl) (by kernel_rfl) ?_ | refine d_pu 4 rfl (pu_fieldAddr rfl) (by kernel_rfl) (by kernel_rfl) (by kernel_rfl) ?_
    refine d_rd 5 rfl (rd_load rfl rfl) rfl (by kernel_rfl) (by kernel_rfl) (by kernel_rfl) ?_
    refine d_pu 6 rfl (pu_move rfl) (by kernel_rfl) (by kernel_rfl) (by kernel_rfl) ?_
    refine d_pu 7 rfl (pu_quo_as ((m / 64 : Nat) : Int) rfl rfl (by omega) (by omega) (by omega) (by omega)) (by kernel_rfl) (by kernel_rfl) (by kernel_rfl) ?_
    refine d_pu 8 rfl (pu_indexAddr (m / 64) rfl rfl (by omega) (by omega) (by omega)) (by kernel_rfl) (by kernel_rfl) (by kernel_rfl) ?_
    refine d_rd 9 rfl (rd_load rfl (wcells_get hw0)) rfl (by kernel_rfl) (by kernel_rfl) (by kernel_rfl) ?_
    refine d_pu 10 rfl (pu_move rfl) (by kernel_rfl) (by kernel_rfl) (by kernel_rfl) ?_
    refine d_pu 11 rfl (pu_rem_as ((m % 64 : Nat) : Int) rfl rfl (by omega) (by omega) (by omega)) (by kernel_rfl) (by kernel_rfl) (by kernel_rfl) ?_
    refine d_pu 12 rfl (pu_shr_w (a := w0) (m % 64) rfl rfl (by omega)) (by kernel_rfl) (by kernel_rfl) (by kernel_rfl) ?_
    refine d_pu 13 rfl (pu_move rfl) (by kernel_rfl) (by kernel_rfl) (by kernel_rfl) ?_
    refine d_pu 14 rfl (pu_rem_as ((m % 64 : Nat) : Int) rfl rfl (by omega) (by omega) (by omega)) (by kernel_rfl) (by kernel_rfl) (by kernel_rfl) ?_
    refine d_pu 15 rfl (pu_shl_w (a := w0 >>> (m % 64)) (m % 64) rfl rfl (by omega)) (by kernel_rfl) (by kernel_rfl) (by kernel_rfl) ?_
    refine d_pu 16 rfl (pu_assign rfl) (by kernel_rfl) (by kernel_rfl) (by kernel_rfl) ?_
    refine d_pu 17 rfl (pu_assign rfl) (by kernel_rfl) (by kernel_rfl) (by kernel_rfl) ?_
    refine d_sub _ (.cons (t := 0) rfl (.cons (t := 5) rfl (.cons (t := 6) rfl .nil))) ?_
    first | refine d_nilt (by kernel_rfl) ?_ | refine d_nilf (by kernel_rfl) ?_
    refine then_n ?_
    refine swp_block ?_
    refine swp_loop (ι := Nat × BitVec 64) (fun x env L => env = [(0, .pointer (some ⟨p, 0, none⟩)), (5, .int .i64 (x.1 : Nat)), (6, wv x.2)] ∧ L = [blk b 105 (wcells ws ++ ex), blk p 113 [.int .i64 (n : Nat), .slice (some ⟨b, 0, none⟩) ws.length cap], ro μ] ∧
      m / 64 ≤ x.1 ∧ x.1 < ws.length ∧ (∀ j, m ≤ j → j < 64 * x.1 → mem ws j = false) ∧ (∀ r, r < 64 → x.2.getLsbD r = (mem ws (64 * x.1 + r) && decide (m ≤ 64 * x.1 + r)))) (fun x => ws.length - x.1) (m / 64, (w0 >>> (m % 64)) <<< (m % 64)) ⟨rfl, rfl, Nat.le_refl _, hmi, fun j h1 h2 => by simp only at h2; omega, fun r hr => ?_⟩ ?_
    · show ((w0 >>> (m % 64)) <<< (m % 64)).getLsbD r = _
      rw [BitVec.getLsbD_shiftLeft, BitVec.getLsbD_ushiftRight, mem_at hw0 (k := 64 * (m / 64) + r) (by omega)]
      have e1 : (64 * (m / 64) + r) % 64 = r := by omega
      rw [e1]
      by_cases hrs : r < m % 64
      · have : ¬ m ≤ 64 * (m / 64) + r := by omega
        simp [hrs, this]
      · have : m ≤ 64 * (m / 64) + r := by omega
        have e2 : m % 64 + (r - m % 64) = r := by omega
        simp [hrs, this, hr, e2]
    rintro ⟨i, w⟩ env L ⟨rfl, rfl, him, hi, hlo, hbits⟩
    simp only [] at him hi hlo hbits
    dsimp only
    refine swp_seq ?_
    refine swp_block ?_
    refine swp_seq ?_
    refine swp_seq ?_
    refine swp_region ?_
    refine s_pu (pu_move rfl) ?_
    refine s_pu (pu_neq rfl rfl) ?_
    refine swl_sub _ (.cons (t := 0) rfl (.cons (t := 5) rfl (.cons (t := 6) rfl (.cons (t := 37) rfl .nil)))) ?_
    refine swl_nil ?_
    refine then_n ?_
    refine swp_cond (b := _) rfl (fun h37 => ?_) (fun h37 => ?_)
    · skip   -- 37 T
      have hw := w_ne h37
      obtain ⟨hc1, hc2, hc3⟩ := ctz_spec hw
      refine swp_seq ?_
      refine swp_region ?_
      refine s_pu (pu_move rfl) ?_
      refine s_pu (pu_mul_as ((64 * i : Nat) : Int) rfl rfl (by omega) (by omega) (by omega)) ?_
      refine s_pu (pu_move rfl) ?_
      refine s_ef (ef_fn (tz_spec μ w hT hw) rfl rfl (by repeat (first | exact Split.nil | (apply Split.cons; (repeat (first | with_reducible exact Take.here | apply Take.there)))))) ?_
      rintro v1 L1 ⟨rfl, rfl⟩
      refine swl_app ?_
      refine s_pu (pu_add_as ((64 * i + ctz w : Nat) : Int) rfl rfl (by omega) (by omega) (by omega)) ?_
      refine s_pu (pu_assign rfl) ?_
      refine swl_sub _ (.cons (t := 4) rfl .nil) ?_
      refine swl_nil ?_
      refine then_n ?_
      refine swp_ret ?_
      refine then_r ?_
      refine block_r ?_
      refine then_r ?_
      refine then_r ?_
      refine block_r ?_
      have hb := hbits _ hc1
      rw [hc2] at hb
      have hb1 := (Bool.and_eq_true_iff.1 hb.symm)
      have hb2 := of_decide_eq_true hb1.2
      refine done_retE (opr p n _ ws μ) (.tmp rfl .nil) ⟨_, rfl, .inr ⟨64 * i + ctz w, rfl, by omega, hb1.1, fun j h1 h2 => ?_⟩, rfl⟩
        ((Split.ent' (K := [blk b 105 (wcells ws ++ ex), blk p 113 [.int .i64 (n : Nat), .slice (some ⟨b, 0, none⟩) ws.length cap], ro μ]) (by repeat (first | exact Split.nil | (apply Split.cons; (repeat (first | with_reducible exact Take.here | apply Take.there)))))).trans ((wown_close h1 h2 h4).trans Ent.swap))
      rcases Nat.lt_or_ge j (64 * i) with h | h
      · exact hlo j (by omega) h
      · have hj := hbits (j - 64 * i) (by omega)
        rw [hc3 _ (by omega), show 64 * i + (j - 64 * i) = j by omega, decide_eq_true (show m ≤ j by omega), Bool.and_true] at hj
        exact hj.symm
    · skip   -- 37 F
      have hw := w_eq h37
      have hlo2 : ∀ j, m ≤ j → j < 64 * (i + 1) → mem ws j = false := fun j h1 h2 => by
        rcases Nat.lt_or_ge j (64 * i) with h | h
        · exact hlo j h1 h
        · have hj := hbits (j - 64 * i) (by omega)
          rw [hw, show 64 * i + (j - 64 * i) = j by omega, decide_eq_true h1, Bool.and_true] at hj
          rw [← hj]; simp
      refine swp_skip ?_
      refine then_n ?_
      refine swp_seq ?_
      refine swp_region ?_
      refine s_pu (pu_move rfl) ?_
      refine s_pu (pu_add_as ((i + 1 : Nat) : Int) rfl rfl (by omega) (by omega) (by omega)) ?_
      refine s_pu (pu_assign rfl) ?_
      refine swl_sub _ (.cons (t := 0) rfl (.cons (t := 5) rfl .nil)) ?_
      refine swl_nil ?_
      refine then_n ?_
      refine swp_seq ?_
      refine swp_region ?_
      refine s_pu (pu_move rfl) ?_
      refine s_pu (pu_move rfl) ?_
      first | refine s_pu (pu_nilCheck rfl) ?_ | refine s_pu (pu_nilCheck_fn rfl) ?_ | refine s_pu (pu_nilCheck_if rfl) ?_
      first | refine s_pu (pu_fieldAddr0 rfl) ?_ | refine s_pu (pu_fieldAddr rfl) ?_
      refine s_rd (rd_load rfl rfl) ?_
      refine s_pu (pu_len rfl) ?_
      refine s_pu (pu_eql rfl rfl) ?_
      refine swl_sub _ (.cons (t := 0) rfl (.cons (t := 5) rfl (.cons (t := 51) rfl .nil))) ?_
      refine swl_nil ?_
      refine then_n ?_
      refine swp_cond (b := _) rfl (fun h51 => ?_) (fun h51 => ?_)
      · skip   -- 51 T
        refine swp_seq ?_
        refine swp_region ?_
        refine s_pu (pu_assign rfl) ?_
        refine swl_sub _ (.cons (t := 4) rfl .nil) ?_
        refine swl_nil ?_
        refine then_n ?_
        refine swp_ret ?_
        refine block_r ?_
        refine then_r ?_
        refine then_r ?_
        refine block_r ?_
        have h51' := of_decide_eq_true h51
        exact done_retE (opr p n _ ws μ) (.tmp rfl .nil) ⟨_, rfl, .inl ⟨rfl, fun j hj => by
            rcases Nat.lt_or_ge j (64 * (i + 1)) with h | h
            · exact hlo2 j (by omega) h
            · exact mem_ge (by omega)⟩, rfl⟩
          ((Split.ent' (K := [blk b 105 (wcells ws ++ ex), blk p 113 [.int .i64 (n : Nat), .slice (some ⟨b, 0, none⟩) ws.length cap], ro μ]) (by repeat (first | exact Split.nil | (apply Split.cons; (repeat (first | with_reducible exact Take.here | apply Take.there)))))).trans ((wown_close h1 h2 h4).trans Ent.swap))
      · skip   -- 51 F
        have h51' := of_decide_eq_false h51
        have hi1 : i + 1 < ws.length := by omega
        obtain ⟨w1, hw1⟩ : ∃ w, ws[i + 1]? = some w := ⟨_, List.getElem?_eq_getElem hi1⟩
        refine swp_skip ?_
        refine block_n ?_
        refine then_n ?_
        refine swp_region ?_
        refine s_pu (pu_move rfl) ?_
        first | refine s_pu (pu_nilCheck rfl) ?_ | refine s_pu (pu_nilCheck_fn rfl) ?_ | refine s_pu (pu_nilCheck_if rfl) ?_
        first | refine s_pu (pu_fieldAddr0 rfl) ?_ | refine s_pu (pu_fieldAddr rfl) ?_
        refine s_rd (rd_load rfl rfl) ?_
        refine s_pu (pu_move rfl) ?_
        refine s_pu (pu_indexAddr (i + 1) rfl rfl (by omega) (by omega) (by omega)) ?_
        refine s_rd (rd_load rfl (wcells_get hw1)) ?_
        refine s_pu (pu_assign rfl) ?_
        refine swl_sub _ (.cons (t := 0) rfl (.cons (t := 5) rfl (.cons (t := 6) rfl .nil))) ?_
        refine swl_nil ?_
        refine then_n ⟨(i + 1, w1), ⟨rfl, rfl, by show m / 64 ≤ i + 1; omega, hi1, hlo2, fun r hr => ?_⟩, by show ws.length - (i + 1) < ws.length - i; omega⟩
        show w1.getLsbD r = (mem ws (64 * (i + 1) + r) && decide (m ≤ 64 * (i + 1) + r))
        rw [mem_at hw1 (k := 64 * (i + 1) + r) (by omega), show (64 * (i + 1) + r) % 64 = r by omega]
        have hmle : m ≤ 64 * (i + 1) + r := by
          rcases Nat.lt_or_ge (64 * (i + 1) + r) m with h | h
          · exact absurd h (by omega)
          · exact h
        rw [decide_eq_true hmle, Bool.and_true]
theorem next_nil (k : Int) : Spec Tryd.prog 80 [.pointer none, .int .i64 k] [] (fun r L => r = .int .i64 (-1) ∧ L = []) := by
  refine Spec.of 52 Tryd.func80 rfl rfl rfl ?_
  refine swp_seq ?_
  refine swp_region ?_
  refine s_pu (pu_assign rfl) ?_
  refine swl_sub _ (.cons (t := 0) rfl (.cons (t := 1) rfl .nil)) ?_
  refine swl_nil ?_
  refine then_n ?_
  refine swp_seq ?_
  refine swp_region ?_
  refine s_pu (pu_move rfl) ?_
  refine s_pu (pu_max2 rfl rfl) ?_
  refine s_pu (pu_assign rfl) ?_
  refine swl_sub _ (.cons (t := 0) rfl (.cons (t := 1) rfl .nil)) ?_
  refine swl_nil ?_
  refine then_n ?_
  refine swp_seq ?_
  refine swp_seq ?_
  refine swp_region ?_
  refine s_pu (pu_move rfl) ?_
  refine s_pu (pu_move rfl) ?_
  refine s_ef (ef_fn size_nil rfl rfl (by repeat (first | exact Split.nil | (apply Split.cons; (repeat (first | with_reducible exact Take.here | apply Take.there)))))) ?_
  rintro v1 L1 ⟨rfl, rfl⟩
  refine swl_app ?_
  refine s_pu (pu_geq rfl rfl) ?_
  refine swl_sub _ (.cons (t := 0) rfl (.cons (t := 1) rfl (.cons (t := 12) rfl .nil))) ?_
  refine swl_nil ?_
  refine then_n ?_
  refine swp_cond (b := _) rfl (fun h12 => ?_) (fun h12 => by have := of_decide_eq_false h12; omega)
  refine swp_seq ?_
  refine swp_region ?_
  refine s_pu (pu_assign rfl) ?_
  refine swl_sub _ (.cons (t := 4) rfl .nil) ?_
  refine swl_nil ?_
  refine then_n ?_
  refine swp_ret ?_
  refine then_r ?_
  exact done_ret [] (.tmp rfl .nil) ⟨rfl, rfl⟩ (by repeat (first | exact Split.nil | (apply Split.cons; (repeat (first | with_reducible exact Take.here | apply Take.there)))))

end SX
namespace SX
open Go Go.Proofs

theorem low_mask (r i : Nat) (hr : r < 64) : (((1#64 : BitVec 64) <<< r) - 1#64).getLsbD i = decide (i < r) := by
  have hp : 2 ^ r < 2 ^ 64 := Nat.pow_lt_pow_right (by decide) hr
  have h1 : ((1#64 : BitVec 64) <<< r).toNat = 2 ^ r := by
    rw [BitVec.toNat_shiftLeft, Nat.shiftLeft_eq, show (1#64 : BitVec 64).toNat = 1 from rfl, Nat.one_mul]
    exact Nat.mod_eq_of_lt hp
  have hpos := Nat.two_pow_pos r
  have e : (((1#64 : BitVec 64) <<< r) - 1#64).toNat = 2 ^ r - 1 := by
    rw [BitVec.toNat_sub, h1, show (1#64 : BitVec 64).toNat = 1 from rfl]
    omega
  show (((1#64 : BitVec 64) <<< r) - 1#64).toNat.testBit i = _
  rw [e, Nat.testBit_two_pow_sub_one]
theorem getD_of {ws : List (BitVec 64)} {i : Nat} {w : BitVec 64} (h : ws[i]? = some w) : ws.getD i 0#64 = w := by rw [List.getD_eq_getElem?_getD, h]; rfl

/-- a word of the set itself, while its words lie open -/
theorem word_b (p n b cap : Nat) (ws : List (BitVec 64)) (ex : List Value) (i : Nat) (w : BitVec 64) (hw : ws[i]? = some w) :
    Spec Tryd.prog 94 [.pointer (some ⟨p, 0, none⟩), .int .i64 (i : Nat)] [blk b 105 (wcells ws ++ ex), blk p 113 [.int .i64 (n : Nat), .slice (some ⟨b, 0, none⟩) ws.length cap]]
      (fun r L => r = wv w ∧ L = [blk b 105 (wcells ws ++ ex), blk p 113 [.int .i64 (n : Nat), .slice (some ⟨b, 0, none⟩) ws.length cap]]) := by
  have hi : i < ws.length := (List.getElem?_eq_some_iff.1 hw).1
  refine Spec.of 23 Tryd.func94 rfl rfl rfl ?_
  refine swp_seq ?_
  refine swp_region ?_
  refine s_pu (pu_assign rfl) ?_
  refine swl_sub _ (.cons (t := 0) rfl (.cons (t := 1) rfl .nil)) ?_
  refine swl_nil ?_
  refine then_n ?_
  refine swp_seq ?_
  refine swp_seq ?_
  refine swp_region ?_
  refine s_pu (pu_move rfl) ?_
  refine s_pu (pu_ptr_eq_nil rfl rfl) ?_
  refine s_pu (pu_move rfl) ?_
  refine s_on rfl rfl ?_
  refine s_pu (pu_move rfl) ?_
  refine s_on rfl rfl ?_
  refine s_pu (pu_move rfl) ?_
  refine s_on rfl rfl ?_
  first | refine s_pu (pu_nilCheck rfl) ?_ | refine s_pu (pu_nilCheck_fn rfl) ?_ | refine s_pu (pu_nilCheck_if rfl) ?_
  refine s_on rfl rfl ?_
  first | refine s_pu (pu_fieldAddr0 rfl) ?_ | refine s_pu (pu_fieldAddr rfl) ?_
  refine s_on rfl rfl ?_
  refine s_rd (rd_load rfl rfl) ?_
  refine s_on rfl rfl ?_
  refine s_pu (pu_len rfl) ?_
  refine s_on rfl rfl ?_
  refine s_pu (pu_geq rfl rfl) ?_
  first | refine s_pu (pu_pick_t rfl rfl) ?_ | refine s_pu (pu_pick_f rfl rfl) ?_
  refine swl_sub _ (.cons (t := 0) rfl (.cons (t := 1) rfl (.cons (t := 15) rfl .nil))) ?_
  refine swl_nil ?_
  refine then_n ?_
  refine swp_cond (b := _) rfl (fun h15 => by have := of_decide_eq_true h15; omega) (fun h15 => ?_)
  refine swp_skip ?_
  refine then_n ?_
  refine swp_seq ?_
  refine swp_region ?_
  refine s_pu (pu_move rfl) ?_
  first | refine s_pu (pu_nilCheck rfl) ?_ | refine s_pu (pu_nilCheck_fn rfl) ?_ | refine s_pu (pu_nilCheck_if rfl) ?_
  first | refine s_pu (pu_fieldAddr0 rfl) ?_ | refine s_pu (pu_fieldAddr rfl) ?_
  refine s_rd (rd_load rfl rfl) ?_
  refine s_pu (pu_move rfl) ?_
  refine s_pu (pu_indexAddr i rfl rfl (by omega) (by omega) (by omega)) ?_
  refine s_rd (rd_load rfl (wcells_get hw)) ?_
  refine s_pu (pu_assign rfl) ?_
  refine swl_sub _ (.cons (t := 4) rfl .nil) ?_
  refine swl_nil ?_
  refine then_n ?_
  refine swp_ret ?_
  exact done_ret _ (.tmp rfl .nil) ⟨rfl, rfl⟩ (by repeat (first | exact Split.nil | (apply Split.cons; (repeat (first | with_reducible exact Take.here | apply Take.there)))))

set_option maxHeartbeats 1000000 in
theorem each_b (p n b cap : Nat) (ws : List (BitVec 64)) (ex : List Value) (ov : Value) (fid : Nat) [Body Tryd.prog fid] (g : BitVec 64 → BitVec 64 → BitVec 64) (o : Nat → BitVec 64) (X : Assn)
    (hl : ws.length = (n + 63) / 64) (hn : n ≤ 1048576) (hf : ∀ x y, Spec Tryd.prog fid [wv x, wv y] [] (fun r L => r = wv (g x y) ∧ L = []))
    (ho : ∀ (cur : List (BitVec 64)) (i : Nat), cur.length = ws.length → i < ws.length → cur[i]? = ws[i]? →
      Spec Tryd.prog 94 [ov, .int .i64 (i : Nat)] [blk b 105 (wcells cur ++ ex), blk p 113 [.int .i64 (n : Nat), .slice (some ⟨b, 0, none⟩) ws.length cap], X]
        (fun r L => r = wv (o i) ∧ L = [blk b 105 (wcells cur ++ ex), blk p 113 [.int .i64 (n : Nat), .slice (some ⟨b, 0, none⟩) ws.length cap], X])) :
    Spec Tryd.prog 81 [.pointer (some ⟨p, 0, none⟩), ov, .func (.func fid) #[] #[]] [blk b 105 (wcells ws ++ ex), blk p 113 [.int .i64 (n : Nat), .slice (some ⟨b, 0, none⟩) ws.length cap], X]
      (fun r L => r = .tuple #[] ∧ ∃ ws', ws'.length = ws.length ∧ (∀ k, mem ws' k = (decide (k < n) && (g (ws.getD (k / 64) 0#64) (o (k / 64))).getLsbD (k % 64))) ∧
        L = [blk b 105 (wcells ws' ++ ex), blk p 113 [.int .i64 (n : Nat), .slice (some ⟨b, 0, none⟩) ws.length cap], X]) := by
  refine Spec.of 58 Tryd.func81 rfl rfl rfl ?_
  refine swp_seq ?_
  refine swp_seq ?_
  refine swp_region ?_
  refine s_pu (pu_move rfl) ?_
  refine s_pu (pu_ptr_eq_nil rfl rfl) ?_
  refine swl_sub _ (.cons (t := 0) rfl (.cons (t := 1) rfl (.cons (t := 2) rfl (.cons (t := 10) rfl .nil)))) ?_
  refine swl_nil ?_
  refine then_n ?_
  refine swp_cond (b := _) rfl (fun h10 => by cases h10) (fun h10 => ?_)
  refine swp_skip ?_
  refine then_n ?_
  refine swp_seq ?_
  refine swp_seq ?_
  refine swp_region ?_
  refine s_pu (pu_move rfl) ?_
  first | refine s_pu (pu_nilCheck rfl) ?_ | refine s_pu (pu_nilCheck_fn rfl) ?_ | refine s_pu (pu_nilCheck_if rfl) ?_
  first | refine s_pu (pu_fieldAddr0 rfl) ?_ | refine s_pu (pu_fieldAddr rfl) ?_
  refine s_rd (rd_load rfl rfl) ?_
  refine s_pu (pu_len rfl) ?_
  refine s_pu (pu_move rfl) ?_
  refine swl_sub _ (.cons (t := 0) rfl (.cons (t := 1) rfl (.cons (t := 2) rfl (.cons (t := 14) rfl (.cons (t := 15) rfl (.cons (t := 16) rfl .nil)))))) ?_
  refine swl_nil ?_
  refine then_n ?_
  refine swp_block ?_
  refine swp_loop (ι := Nat × List (BitVec 64)) (fun k env L => env = [(0, .pointer (some ⟨p, 0, none⟩)), (1, ov), (2, .func (.func fid) #[] #[]), (14, .slice (some ⟨b, 0, none⟩) ws.length cap), (15, .int .i64 (ws.length : Nat)), (16, .int .i64 (k.1 : Nat))] ∧
    L = [blk b 105 (wcells k.2 ++ ex), blk p 113 [.int .i64 (n : Nat), .slice (some ⟨b, 0, none⟩) ws.length cap], X] ∧ k.1 ≤ ws.length ∧ k.2.length = ws.length ∧ (∀ j, j < k.1 → k.2.getD j 0#64 = g (ws.getD j 0#64) (o j)) ∧ (∀ j, k.1 ≤ j → k.2[j]? = ws[j]?)) (fun k => ws.length - k.1) (0, ws)
    ⟨rfl, rfl, Nat.zero_le _, rfl, fun j h => absurd h (Nat.not_lt_zero _), fun j _ => rfl⟩ ?_
  rintro ⟨i, cur⟩ env L ⟨rfl, rfl, hi, hcl, hlow, hup⟩
  simp only [] at hi hcl hlow hup
  dsimp only
  refine swp_seq ?_
  refine swp_region ?_
  refine s_pu (pu_lss rfl rfl) ?_
  refine swl_sub _ (.cons (t := 0) rfl (.cons (t := 1) rfl (.cons (t := 2) rfl (.cons (t := 14) rfl (.cons (t := 15) rfl (.cons (t := 16) rfl (.cons (t := 17) rfl .nil))))))) ?_
  refine swl_nil ?_
  refine then_n ?_
  refine swp_seq ?_
  refine swp_cond (b := _) rfl (fun h17 => ?_) (fun h17 => ?_)
  · skip   -- 17 T
    have h17' : i < ws.length := by have := of_decide_eq_true h17; omega
    obtain ⟨w, hw⟩ : ∃ w, ws[i]? = some w := ⟨_, List.getElem?_eq_getElem h17'⟩
    have hcw : cur[i]? = some w := by rw [hup i (Nat.le_refl _)]; exact hw
    refine swp_skip ?_
    refine then_n ?_
    refine swp_seq ?_
    refine swp_block ?_
    refine swp_seq ?_
    refine swp_region ?_
    refine s_pu (pu_move rfl) ?_
    refine s_pu (pu_indexAddr i rfl rfl (by omega) (by omega) (by omega)) ?_
    refine s_rd (rd_load rfl (wcells_get hcw)) ?_
    refine s_pu (pu_assign rfl) ?_
    refine s_pu (pu_assign rfl) ?_
    refine swl_sub _ (.cons (t := 0) rfl (.cons (t := 1) rfl (.cons (t := 2) rfl (.cons (t := 6) rfl (.cons (t := 7) rfl (.cons (t := 14) rfl (.cons (t := 15) rfl (.cons (t := 16) rfl .nil)))))))) ?_
    refine swl_nil ?_
    refine then_n ?_
    refine swp_draw [3] _ [] (by simp only [List.append_nil]; exact Ent.refl _) (by kernel_rfl) ?_
    refine d_pu 0 rfl (pu_move rfl) (by kernel_rfl) (by kernel_rfl) (by kernel_rfl) ?_
    first | refine d_pu 1 rfl (pu_nilCheck rfl) (by kernel_rfl) (by kernel_rfl) (by kernel_rfl) ?_ | refine d_pu 1 rfl (pu_nilCheck_fn rfl) (by kernel_rfl) (by kernel_rfl) (by kernel_rfl) ?_ | refine d_pu 1 rfl (pu_nilCheck_if rfl) (by kernel_rfl) (by kernel_rfl) (by kernel_rfl) ?_
    first | refine d_pu 2 rfl (pu_fieldAddr0 rfl) (by kernel_rfl) (by kernel_rfl) (by kernel_rfl) ?_ | refine d_pu 2 rfl (pu_fieldAddr rfl) (by kernel_rfl) (by kernel_rfl) (by kernel_rfl) ?_
    refine d_rd 3 rfl (rd_load rfl rfl) rfl (by kernel_rfl) (by kernel_rfl) (by kernel_rfl) ?_
    refine d_pu 4 rfl (pu_move rfl) (by kernel_rfl) (by kernel_rfl) (by kernel_rfl) ?_
    refine d_pu 5 rfl (pu_move rfl) (by kernel_rfl) (by kernel_rfl) (by kernel_rfl) ?_
    refine d_pu 6 rfl (pu_move rfl) (by kernel_rfl) (by kernel_rfl) (by kernel_rfl) ?_
    refine d_pu 7 rfl (pu_move rfl) (by kernel_rfl) (by kernel_rfl) (by kernel_rfl) ?_
    refine d_pu 8 rfl (pu_move rfl) (by kernel_rfl) (by kernel_rfl) (by kernel_rfl) ?_
    refine d_eft 9 rfl (by kernel_rfl) (ef_fn (ho cur i hcl h17' (hup i (Nat.le_refl _))) rfl rfl (by repeat (first | exact Split.nil | (apply Split.cons; (repeat (first | with_reducible exact Take.here | apply Take.there)))))) ?_
    rintro v1 L1 ⟨rfl, rfl⟩
    refine ⟨_, ent_appC (Split.ent (by repeat (first | exact Split.nil | (apply Split.cons; (repeat (first | with_reducible exact Take.here | apply Take.there)))))), ?_⟩
    refine d_eft 10 rfl (by kernel_rfl) (ef_fn (hf w (o i)) rfl rfl (by repeat (first | exact Split.nil | (apply Split.cons; (repeat (first | with_reducible exact Take.here | apply Take.there)))))) ?_
    rintro v1 L1 ⟨rfl, rfl⟩
    refine ⟨_, ent_appC (Split.ent (by repeat (first | exact Split.nil | (apply Split.cons; (repeat (first | with_reducible exact Take.here | apply Take.there)))))), ?_⟩
    refine d_pu 11 rfl (pu_indexAddr i rfl rfl (by omega) (by omega) (by omega)) (by kernel_rfl) (by kernel_rfl) (by kernel_rfl) ?_
    first | refine d_fin0t 12 rfl (by kernel_rfl) (by kernel_rfl) (ef_storeP rfl rfl rfl (by rw [List.length_append, wcells_len]; omega)) ?_ | refine d_fin0f 12 rfl (by kernel_rfl) (by kernel_rfl) (ef_storeP rfl rfl rfl (by rw [List.length_append, wcells_len]; omega)) ?_
    refine d_sub _ (.cons (t := 0) rfl (.cons (t := 1) rfl (.cons (t := 2) rfl (.cons (t := 14) rfl (.cons (t := 15) rfl (.cons (t := 16) rfl .nil)))))) ?_
    first | refine d_nilt (by kernel_rfl) ?_ | refine d_nilf (by kernel_rfl) ?_
    refine block_n ?_
    refine then_n ?_
    refine swp_region ?_
    refine s_pu (pu_add_as ((i + 1 : Nat) : Int) rfl rfl (by omega) (by omega) (by omega)) ?_
    refine s_pu (pu_move rfl) ?_
    refine swl_sub _ (.cons (t := 0) rfl (.cons (t := 1) rfl (.cons (t := 2) rfl (.cons (t := 14) rfl (.cons (t := 15) rfl (.cons (t := 16) rfl .nil)))))) ?_
    rw [wcells_set (by omega)]
    refine swl_nil ?_
    refine then_n ⟨(i + 1, cur.set i (g w (o i))), ⟨rfl, rfl, h17', by simp [hcl], fun j hj => ?_, fun j hj => ?_⟩, by show ws.length - (i + 1) < ws.length - i; omega⟩
    · show (cur.set i (g w (o i))).getD j 0#64 = _
      by_cases hji : j = i
      · subst hji
        rw [getD_of hw, List.getD_eq_getElem?_getD, List.getElem?_set_self (by omega)]; rfl
      · rw [List.getD_eq_getElem?_getD, List.getElem?_set_ne (Ne.symm hji), ← List.getD_eq_getElem?_getD]
        have hj' : j < i + 1 := hj
        exact hlow j (by omega)
    · have hj' : i + 1 ≤ j := hj
      show (cur.set i (g w (o i)))[j]? = _
      rw [List.getElem?_set_ne (by omega)]; exact hup j (by omega)
  · skip   -- 17 F
    have hin : i = ws.length := by have := of_decide_eq_false h17; omega
    subst hin
    refine swp_exit ?_
    refine then_x ?_
    refine then_x ?_
    refine block_hit rfl ?_
    refine then_n ?_
    refine swp_seq ?_
    refine swp_region ?_
    refine s_pu (pu_move rfl) ?_
    first | refine s_pu (pu_nilCheck rfl) ?_ | refine s_pu (pu_nilCheck_fn rfl) ?_ | refine s_pu (pu_nilCheck_if rfl) ?_
    first | refine s_pu (pu_fieldAddr0 rfl) ?_ | refine s_pu (pu_fieldAddr rfl) ?_
    refine s_rd (rd_load rfl rfl) ?_
    refine s_pu (pu_rem_as ((n % 64 : Nat) : Int) rfl rfl (by omega) (by omega) (by omega)) ?_
    refine s_pu (pu_assign rfl) ?_
    refine swl_sub _ (.cons (t := 0) rfl (.cons (t := 8) rfl .nil)) ?_
    refine swl_nil ?_
    refine then_n ?_
    refine swp_seq ?_
    refine swp_region ?_
    refine s_pu (pu_move rfl) ?_
    refine s_pu (pu_neq rfl rfl) ?_
    refine swl_sub _ (.cons (t := 0) rfl (.cons (t := 8) rfl (.cons (t := 40) rfl .nil))) ?_
    refine swl_nil ?_
    refine then_n ?_
    refine swp_cond (b := _) rfl (fun h40 => ?_) (fun h40 => ?_)
    · skip   -- 40 T
      have h40' : n % 64 ≠ 0 := fun e => by simp [e] at h40
      have hi1 : ws.length - 1 < cur.length := by omega
      obtain ⟨w, hw⟩ : ∃ w, cur[ws.length - 1]? = some w := ⟨_, List.getElem?_eq_getElem hi1⟩
      refine swp_draw [3, 7, 11] _ [] (by simp only [List.append_nil]; exact Ent.refl _) (by kernel_rfl) ?_
      refine d_pu 0 rfl (pu_move rfl) (by kernel_rfl) (by kernel_rfl) (by kernel_rfl) ?_
      first | refine d_pu 1 rfl (pu_nilCheck rfl) (by kernel_rfl) (by kernel_rfl) (by kernel_rfl) ?_ | refine d_pu 1 rfl (pu_nilCheck_fn rfl) (by kernel_rfl) (by kernel_rfl) (by kernel_rfl) ?_ | refine d_pu 1 rfl (pu_nilCheck_if rfl) (by kernel_rfl) (by kernel_rfl) (by kernel_rfl) ?_
      first | refine d_pu 2 rfl (pu_fieldAddr0 rfl) (by kernel_rfl) (by kernel_rfl) (by kernel_rfl) ?_ | refine d_pu 2 rfl (pu_fieldAddr rfl) (by kernel_rfl) (by kernel_rfl) (by kernel_rfl) ?_
      refine d_rd 3 rfl (rd_load rfl rfl) rfl (by kernel_rfl) (by kernel_rfl) (by kernel_rfl) ?_
      refine d_pu 4 rfl (pu_move rfl) (by kernel_rfl) (by kernel_rfl) (by kernel_rfl) ?_
      first | refine d_pu 5 rfl (pu_nilCheck rfl) (by kernel_rfl) (by kernel_rfl) (by kernel_rfl) ?_ | refine d_pu 5 rfl (pu_nilCheck_fn rfl) (by kernel_rfl) (by kernel_rfl) (by kernel_rfl) ?_ | refine d_pu 5 rfl (pu_nilCheck_if rfl) (by kernel_rfl) (by kernel_rfl) (by kernel_rfl) ?_
      first | refine d_pu 6 rfl (pu_fieldAddr0 rfl) (by kernel_rfl) (by kernel_rfl) (by kernel_rfl) ?_ | refine d_pu 6 rfl (pu_fieldAddr rfl) (by kernel_rfl) (by kernel_rfl) (by kernel_rfl) ?_
      refine d_rd 7 rfl (rd_load rfl rfl) rfl (by kernel_rfl) (by kernel_rfl) (by kernel_rfl) ?_
      refine d_pu 8 rfl (pu_len rfl) (by kernel_rfl) (by kernel_rfl) (by kernel_rfl) ?_
      refine d_pu 9 rfl (pu_sub_as ((ws.length - 1 : Nat) : Int) rfl rfl (by omega) (by omega) (by omega)) (by kernel_rfl) (by kernel_rfl) (by kernel_rfl) ?_
      refine d_pu 10 rfl (pu_indexAddr (ws.length - 1) rfl rfl (by omega) (by omega) (by omega)) (by kernel_rfl) (by kernel_rfl) (by kernel_rfl) ?_
      refine d_rd 11 rfl (rd_load rfl (wcells_get hw)) rfl (by kernel_rfl) (by kernel_rfl) (by kernel_rfl) ?_
      refine d_pu 12 rfl (pu_move rfl) (by kernel_rfl) (by kernel_rfl) (by kernel_rfl) ?_
      refine d_pu 13 rfl (pu_shl_w (a := 1#64) (n % 64) rfl rfl (by omega)) (by kernel_rfl) (by kernel_rfl) (by kernel_rfl) ?_
      refine d_pu 14 rfl (pu_sub_w (a := 1#64 <<< (n % 64)) (b := 1#64) rfl rfl) (by kernel_rfl) (by kernel_rfl) (by kernel_rfl) ?_
      refine d_pu 15 rfl (pu_and_w (a := w) (b := (1#64 <<< (n % 64)) - 1#64) rfl rfl) (by kernel_rfl) (by kernel_rfl) (by kernel_rfl) ?_
      refine d_pu 16 rfl (pu_indexAddr (ws.length - 1) rfl rfl (by omega) (by omega) (by omega)) (by kernel_rfl) (by kernel_rfl) (by kernel_rfl) ?_
      first | refine d_fin0t 17 rfl (by kernel_rfl) (by kernel_rfl) (ef_storeP rfl rfl rfl (by rw [List.length_append, wcells_len]; omega)) ?_ | refine d_fin0f 17 rfl (by kernel_rfl) (by kernel_rfl) (ef_storeP rfl rfl rfl (by rw [List.length_append, wcells_len]; omega)) ?_
      refine d_sub _ .nil ?_
      first | refine d_nilt (by kernel_rfl) ?_ | refine d_nilf (by kernel_rfl) ?_
      rw [wcells_set hi1]
      refine done_end _ .nil ⟨rfl, cur.set (ws.length - 1) (w &&& ((1#64 <<< (n % 64)) - 1#64)), by simp [hcl], fun k => ?_, rfl⟩ (by repeat (first | exact Split.nil | (apply Split.cons; (repeat (first | with_reducible exact Take.here | apply Take.there)))))
      rw [mem_set _ hi1]
      split
      · rename_i h
        rw [BitVec.getLsbD_and, low_mask _ _ (Nat.mod_lt _ (by decide)), ← getD_of hw, hlow _ (by omega), h, Bool.and_comm]
        congr 1
        by_cases hk : k < n
        · rw [decide_eq_true hk, decide_eq_true (by omega)]
        · rw [decide_eq_false hk, decide_eq_false (by omega)]
      · rename_i h
        rcases Nat.lt_or_ge (k / 64) ws.length with h5 | h5
        · rw [decide_eq_true (show k < n by omega), Bool.true_and]
          unfold mem
          rw [hlow _ h5]
        · rw [decide_eq_false (show ¬ k < n by omega), Bool.false_and]
          exact mem_ge (by omega)
    · skip   -- 40 F
      refine swp_skip ?_
      have h40' : n % 64 = 0 := by
        have := of_decide_eq_true (not_f h40)
        omega
      refine done_end _ .nil ⟨rfl, cur, hcl, fun k => ?_, rfl⟩ (by repeat (first | exact Split.nil | (apply Split.cons; (repeat (first | with_reducible exact Take.here | apply Take.there)))))
      rcases Nat.lt_or_ge (k / 64) ws.length with h5 | h5
      · rw [decide_eq_true (show k < n by omega), Bool.true_and]
        unfold mem
        rw [hlow _ h5]
      · rw [decide_eq_false (show ¬ k < n by omega), Bool.false_and]
        exact mem_ge (by omega)
theorem each_0 (p : Nat) (ov : Value) (fid : Nat) : Spec Tryd.prog 81 [.pointer (some ⟨p, 0, none⟩), ov, .func (.func fid) #[] #[]] [blk p 113 [.int .i64 0, .slice none 0 0]] (fun r L => r = .tuple #[] ∧ L = [blk p 113 [.int .i64 0, .slice none 0 0]]) := by
  refine Spec.of 58 Tryd.func81 rfl rfl rfl ?_
  refine swp_seq ?_
  refine swp_seq ?_
  refine swp_region ?_
  refine s_pu (pu_move rfl) ?_
  refine s_pu (pu_ptr_eq_nil rfl rfl) ?_
  refine swl_sub _ (.cons (t := 0) rfl (.cons (t := 1) rfl (.cons (t := 2) rfl (.cons (t := 10) rfl .nil)))) ?_
  refine swl_nil ?_
  refine then_n ?_
  refine swp_cond (b := _) rfl (fun h10 => by cases h10) (fun h10 => ?_)
  refine swp_skip ?_
  refine then_n ?_
  refine swp_seq ?_
  refine swp_seq ?_
  refine swp_region ?_
  refine s_pu (pu_move rfl) ?_
  first | refine s_pu (pu_nilCheck rfl) ?_ | refine s_pu (pu_nilCheck_fn rfl) ?_ | refine s_pu (pu_nilCheck_if rfl) ?_
  first | refine s_pu (pu_fieldAddr0 rfl) ?_ | refine s_pu (pu_fieldAddr rfl) ?_
  refine s_rd (rd_load rfl rfl) ?_
  refine s_pu (pu_len rfl) ?_
  refine s_pu (pu_move rfl) ?_
  refine swl_sub _ (.cons (t := 0) rfl (.cons (t := 1) rfl (.cons (t := 2) rfl (.cons (t := 14) rfl (.cons (t := 15) rfl (.cons (t := 16) rfl .nil)))))) ?_
  refine swl_nil ?_
  refine then_n ?_
  refine swp_block ?_
  refine swp_loop (ι := Unit) (fun _ env L => env = [(0, .pointer (some ⟨p, 0, none⟩)), (1, ov), (2, .func (.func fid) #[] #[]), (14, .slice none 0 0), (15, .int .i64 0), (16, .int .i64 0)] ∧ L = [blk p 113 [.int .i64 0, .slice none 0 0]]) (fun _ => 0) () ⟨rfl, rfl⟩ ?_
  rintro _ env L ⟨rfl, rfl⟩
  refine swp_seq ?_
  refine swp_region ?_
  refine s_pu (pu_lss rfl rfl) ?_
  refine swl_sub _ (.cons (t := 0) rfl (.cons (t := 1) rfl (.cons (t := 2) rfl (.cons (t := 14) rfl (.cons (t := 15) rfl (.cons (t := 16) rfl (.cons (t := 17) rfl .nil))))))) ?_
  refine swl_nil ?_
  refine then_n ?_
  refine swp_seq ?_
  refine swp_cond (b := _) rfl (fun h17 => by have := of_decide_eq_true h17; omega) (fun h17 => ?_)
  refine swp_exit ?_
  refine then_x ?_
  refine then_x ?_
  refine block_hit rfl ?_
  refine then_n ?_
  refine swp_seq ?_
  refine swp_region ?_
  refine s_pu (pu_move rfl) ?_
  first | refine s_pu (pu_nilCheck rfl) ?_ | refine s_pu (pu_nilCheck_fn rfl) ?_ | refine s_pu (pu_nilCheck_if rfl) ?_
  first | refine s_pu (pu_fieldAddr0 rfl) ?_ | refine s_pu (pu_fieldAddr rfl) ?_
  refine s_rd (rd_load rfl rfl) ?_
  refine s_pu (pu_rem_as 0 rfl rfl (by omega) (by omega) (by omega)) ?_
  refine s_pu (pu_assign rfl) ?_
  refine swl_sub _ (.cons (t := 0) rfl (.cons (t := 8) rfl .nil)) ?_
  refine swl_nil ?_
  refine then_n ?_
  refine swp_seq ?_
  refine swp_region ?_
  refine s_pu (pu_move rfl) ?_
  refine s_pu (pu_neq rfl rfl) ?_
  refine swl_sub _ (.cons (t := 0) rfl (.cons (t := 8) rfl (.cons (t := 40) rfl .nil))) ?_
  refine swl_nil ?_
  refine then_n ?_
  refine swp_cond (b := _) rfl (fun h40 => absurd h40 (by decide)) (fun h40 => ?_)
  refine swp_skip ?_
  exact done_end _ .nil ⟨rfl, rfl⟩ (by repeat (first | exact Split.nil | (apply Split.cons; (repeat (first | with_reducible exact Take.here | apply Take.there)))))
theorem each_nil (ov fv : Value) : Spec Tryd.prog 81 [.pointer none, ov, fv] [] (fun r L => r = .tuple #[] ∧ L = []) := by
  refine Spec.of 58 Tryd.func81 rfl rfl rfl ?_
  refine swp_seq ?_
  refine swp_seq ?_
  refine swp_region ?_
  refine s_pu (pu_move rfl) ?_
  refine s_pu (pu_ptr_eq_nil rfl rfl) ?_
  refine swl_sub _ (.cons (t := 0) rfl (.cons (t := 1) rfl (.cons (t := 2) rfl (.cons (t := 10) rfl .nil)))) ?_
  refine swl_nil ?_
  refine then_n ?_
  refine swp_cond (b := _) rfl (fun h10 => ?_) (fun h10 => by cases h10)
  refine swp_ret ?_
  refine then_r ?_
  exact done_ret _ .nil ⟨rfl, rfl⟩ (by repeat (first | exact Split.nil | (apply Split.cons; (repeat (first | with_reducible exact Take.here | apply Take.there)))))
theorem or1 (x y : BitVec 64) : Spec Tryd.prog 88 [wv x, wv y] [] (fun r L => r = wv (x ||| y) ∧ L = []) := by
  refine Spec.of 8 Tryd.func88 rfl rfl rfl ?_
  refine swp_seq ?_
  refine swp_region ?_
  refine s_pu (pu_assign rfl) ?_
  refine swl_sub _ (.cons (t := 0) rfl (.cons (t := 1) rfl .nil)) ?_
  refine swl_nil ?_
  refine then_n ?_
  refine swp_seq ?_
  refine swp_region ?_
  refine s_pu (pu_move rfl) ?_
  refine s_pu (pu_move rfl) ?_
  refine s_pu (pu_or_w rfl rfl) ?_
  refine s_pu (pu_assign rfl) ?_
  refine swl_sub _ (.cons (t := 4) rfl .nil) ?_
  refine swl_nil ?_
  refine then_n ?_
  refine swp_ret ?_
  exact done_ret _ (.tmp rfl .nil) ⟨rfl, rfl⟩ (by repeat (first | exact Split.nil | (apply Split.cons; (repeat (first | with_reducible exact Take.here | apply Take.there)))))
theorem and1 (x y : BitVec 64) : Spec Tryd.prog 83 [wv x, wv y] [] (fun r L => r = wv (x &&& y) ∧ L = []) := by
  refine Spec.of 8 Tryd.func83 rfl rfl rfl ?_
  refine swp_seq ?_
  refine swp_region ?_
  refine s_pu (pu_assign rfl) ?_
  refine swl_sub _ (.cons (t := 0) rfl (.cons (t := 1) rfl .nil)) ?_
  refine swl_nil ?_
  refine then_n ?_
  refine swp_seq ?_
  refine swp_region ?_
  refine s_pu (pu_move rfl) ?_
  refine s_pu (pu_move rfl) ?_
  refine s_pu (pu_and_w rfl rfl) ?_
  refine s_pu (pu_assign rfl) ?_
  refine swl_sub _ (.cons (t := 4) rfl .nil) ?_
  refine swl_nil ?_
  refine then_n ?_
  refine swp_ret ?_
  exact done_ret _ (.tmp rfl .nil) ⟨rfl, rfl⟩ (by repeat (first | exact Split.nil | (apply Split.cons; (repeat (first | with_reducible exact Take.here | apply Take.there)))))
theorem less1 (x y : BitVec 64) : Spec Tryd.prog 82 [wv x, wv y] [] (fun r L => r = wv (x &&& ~~~y) ∧ L = []) := by
  refine Spec.of 8 Tryd.func82 rfl rfl rfl ?_
  refine swp_seq ?_
  refine swp_region ?_
  refine s_pu (pu_assign rfl) ?_
  refine swl_sub _ (.cons (t := 0) rfl (.cons (t := 1) rfl .nil)) ?_
  refine swl_nil ?_
  refine then_n ?_
  refine swp_seq ?_
  refine swp_region ?_
  refine s_pu (pu_move rfl) ?_
  refine s_pu (pu_move rfl) ?_
  refine s_pu (pu_andNot_w rfl rfl) ?_
  refine s_pu (pu_assign rfl) ?_
  refine swl_sub _ (.cons (t := 4) rfl .nil) ?_
  refine swl_nil ?_
  refine then_n ?_
  refine swp_ret ?_
  exact done_ret _ (.tmp rfl .nil) ⟨rfl, rfl⟩ (by repeat (first | exact Split.nil | (apply Split.cons; (repeat (first | with_reducible exact Take.here | apply Take.there)))))
end SX
namespace SX
open Go Go.Proofs

def numsI (l : List Nat) : List Int := l.map fun k : Nat => (k : Int)
def elsTo (j : Nat) (S : Nat → Bool) : List Int := numsI ((List.range j).filter S)
theorem elsTo_skip {S : Nat → Bool} {k : Nat} : ∀ {j : Nat}, k ≤ j → (∀ i, k ≤ i → i < j → S i = false) → elsTo j S = elsTo k S
  | 0, h, _ => by have : k = 0 := by omega
                  subst this; rfl
  | j + 1, h, hS => by
    rcases Nat.lt_or_ge j k with h1 | h1
    · have : k = j + 1 := by omega
      subst this; rfl
    · have e : elsTo (j + 1) S = elsTo j S := by
        unfold elsTo
        rw [List.range_succ, List.filter_append]
        simp [hS j h1 (by omega)]
      rw [e]
      exact elsTo_skip h1 (fun i a b => hS i a (by omega))
theorem elsTo_succ {S : Nat → Bool} {j : Nat} (h : S j = true) : elsTo (j + 1) S = elsTo j S ++ [(j : Int)] := by
  unfold elsTo numsI
  rw [List.range_succ, List.filter_append]
  simp [h]
theorem elsTo_len (j : Nat) (S : Nat → Bool) : (elsTo j S).length ≤ j := by
  unfold elsTo numsI
  rw [List.length_map]
  exact Nat.le_trans (List.length_filter_le _ _) (by simp)

set_option maxHeartbeats 1000000 in
theorem list_o (μ : PH) (p n : Nat) (v : Value) (ws : List (BitVec 64)) (hT : RowAt μ 0 0 tabV) (hl : ws.length = (n + 63) / 64) (hn : n ≤ 1048576) (hS : ∀ j, n ≤ j → mem ws j = false) :
    Spec Tryd.prog 54 [.pointer (some ⟨p, 0, none⟩)] (opr p n v ws μ) (fun r L => L = [own 3 1 r (elsTo n (mem ws)).length ((elsTo n (mem ws)).flatMap (icsk .i64)), blk p 113 [.int .i64 (n : Nat), v], own 105 1 v ws.length (wcells ws), ro μ]) := by
  have inv : ∀ (k : Nat) (x : Int), k ≤ n → IsNext (mem ws) (k : Int) x → (x = -1 ∧ elsTo k (mem ws) = elsTo n (mem ws)) ∨ ∃ j : Nat, x = j ∧ k ≤ j ∧ j < n ∧ mem ws j = true ∧ elsTo k (mem ws) = elsTo j (mem ws) := by
    rintro k x hk (⟨rfl, h⟩ | ⟨j, rfl, h1, h2, h3⟩)
    · exact .inl ⟨rfl, (elsTo_skip hk (fun i a _ => h i (by omega))).symm⟩
    · refine .inr ⟨j, rfl, by omega, ?_, h2, (elsTo_skip (by omega) (fun i a b => h3 i (by omega) b)).symm⟩
      rcases Nat.lt_or_ge j n with h4 | h4
      · exact h4
      · rw [hS j h4] at h2; cases h2
  refine Spec.of 18 Tryd.func54 rfl rfl rfl ?_
  refine swp_seq ?_
  refine swp_region ?_
  refine s_pu (pu_assign rfl) ?_
  refine swl_sub _ (.cons (t := 0) rfl .nil) ?_
  refine swl_nil ?_
  refine then_n ?_
  refine swp_seq ?_
  refine swp_region ?_
  refine s_pu (pu_assign rfl) ?_
  refine swl_sub _ (.cons (t := 0) rfl (.cons (t := 3) rfl .nil)) ?_
  refine swl_ent (own_nil_ent (e := 3) (n := 1)) ?_
  refine swl_nil ?_
  refine then_n ?_
  refine swp_seq ?_
  refine swp_seq ?_
  refine swp_region ?_
  refine s_pu (pu_move rfl) ?_
  refine s_ef (ef_fn (next_o μ p n v ws 0 hT hl hn hS) rfl rfl (by repeat (first | exact Split.nil | (apply Split.cons; (repeat (first | with_reducible exact Take.here | apply Take.there)))))) ?_
  rintro v1 L1 ⟨x, rfl, hx, rfl⟩
  refine swl_app ?_
  refine s_pu (pu_assign rfl) ?_
  refine swl_sub _ (.cons (t := 0) rfl (.cons (t := 3) rfl (.cons (t := 4) rfl .nil))) ?_
  refine swl_ent (Split.ent' (K := [own 3 1 (.slice none 0 0) 0 [], blk p 113 [.int .i64 (n : Nat), v], own 105 1 v ws.length (wcells ws), ro μ]) (by repeat (first | exact Split.nil | (apply Split.cons; (repeat (first | with_reducible exact Take.here | apply Take.there)))))) ?_
  refine swl_nil ?_
  refine then_n ?_
  refine swp_block ?_
  refine swp_loop (ι := Value × Int × Nat) (fun k env L => env = [(0, .pointer (some ⟨p, 0, none⟩)), (3, k.1), (4, .int .i64 k.2.1)] ∧ L = [own 3 1 k.1 (elsTo k.2.2 (mem ws)).length ((elsTo k.2.2 (mem ws)).flatMap (icsk .i64)), blk p 113 [.int .i64 (n : Nat), v], own 105 1 v ws.length (wcells ws), ro μ] ∧
    ((k.2.1 = -1 ∧ k.2.2 = n) ∨ (k.2.1 = k.2.2 ∧ k.2.2 < n ∧ mem ws k.2.2 = true))) (fun k => if k.2.1 < 0 then 0 else n + 1 - k.2.2) (.slice none 0 0, x, if x < 0 then n else x.toNat) ⟨rfl, ?_, ?_⟩ ?_
  · rcases inv 0 x (Nat.zero_le _) hx with ⟨rfl, h⟩ | ⟨j, rfl, _, _, _, h⟩
    · show [own 3 1 (.slice none 0 0) 0 [], _, _, _] = [own 3 1 (.slice none 0 0) (elsTo n (mem ws)).length ((elsTo n (mem ws)).flatMap (icsk .i64)), _, _, _]
      rw [← h]; rfl
    · have hj : ¬ ((j : Int) < 0) := by omega
      simp only [hj, if_false, Int.toNat_natCast]
      rw [← h]; rfl
  · rcases inv 0 x (Nat.zero_le _) hx with ⟨rfl, h⟩ | ⟨j, rfl, _, h2, h3, h⟩
    · exact .inl ⟨rfl, rfl⟩
    · have hj : ¬ ((j : Int) < 0) := by omega
      simp only [hj, if_false, Int.toNat_natCast]
      exact .inr ⟨trivial, h2, h3⟩
  rintro ⟨v3, x, j⟩ env L ⟨rfl, rfl, hx⟩
  simp only [] at hx
  dsimp only
  refine swp_seq ?_
  refine swp_seq ?_
  refine swp_region ?_
  refine s_pu (pu_move rfl) ?_
  refine s_pu (pu_geq rfl rfl) ?_
  refine swl_sub _ (.cons (t := 0) rfl (.cons (t := 3) rfl (.cons (t := 4) rfl (.cons (t := 8) rfl .nil)))) ?_
  refine swl_nil ?_
  refine then_n ?_
  refine swp_cond (b := _) rfl (fun h8 => ?_) (fun h8 => ?_)
  · skip   -- 8 T
    have h8' := of_decide_eq_true h8
    obtain ⟨rfl, hjn, hj⟩ : x = (j : Int) ∧ j < n ∧ mem ws j = true := by
      rcases hx with ⟨h, _⟩ | h
      · omega
      · exact h
    have hle := elsTo_len j (mem ws)
    refine swp_skip ?_
    refine then_n ?_
    refine swp_seq ?_
    refine swp_block ?_
    refine swp_region ?_
    refine s_pu (pu_move rfl) ?_
    refine s_pu (pu_move rfl) ?_
    refine s_ef (ef_bldS (qs := [(0, _)]) rfl rfl rfl) ?_
    intro b15
    refine s_ef (ef_append_lit (l := (elsTo j (mem ws)).length) (m := 1) rfl rfl (by repeat (first | exact Split.nil | (apply Split.cons; (repeat (first | with_reducible exact Take.here | apply Take.there))))) (by simp only [maxLen]; omega) (by omega)) ?_
    rintro v' hv'
    skip
    refine s_pu (pu_assign rfl) ?_
    refine swl_sub _ (.cons (t := 0) rfl (.cons (t := 3) rfl (.cons (t := 4) rfl .nil))) ?_
    have e1 : (elsTo j (mem ws)).length + 1 = (elsTo (j + 1) (mem ws)).length := by rw [elsTo_succ hj, List.length_append]; rfl
    have e2 : (elsTo j (mem ws)).flatMap (icsk .i64) ++ [.int .i64 (j : Nat)] = (elsTo (j + 1) (mem ws)).flatMap (icsk .i64) := by rw [elsTo_succ hj, List.flatMap_append]; rfl
    rw [e1, e2]
    refine swl_nil ?_
    refine block_n ?_
    refine then_n ?_
    refine swp_region ?_
    refine s_pu (pu_move rfl) ?_
    refine s_pu (pu_move rfl) ?_
    refine s_pu (pu_add_as ((j + 1 : Nat) : Int) rfl rfl (by omega) (by omega) (by omega)) ?_
    refine s_ef (ef_fn (next_o μ p n v ws ((j + 1 : Nat) : Int) hT hl hn hS) rfl rfl (by repeat (first | exact Split.nil | (apply Split.cons; (repeat (first | with_reducible exact Take.here | apply Take.there)))))) ?_
    rintro v1 L1 ⟨x, rfl, hx2, rfl⟩
    refine swl_app ?_
    refine s_pu (pu_assign rfl) ?_
    refine swl_sub _ (.cons (t := 0) rfl (.cons (t := 3) rfl (.cons (t := 4) rfl .nil))) ?_
    refine swl_ent (Split.ent' (K := [own 3 1 v' (elsTo (j + 1) (mem ws)).length ((elsTo (j + 1) (mem ws)).flatMap (icsk .i64)), blk p 113 [.int .i64 (n : Nat), v], own 105 1 v ws.length (wcells ws), ro μ]) (by repeat (first | exact Split.nil | (apply Split.cons; (repeat (first | with_reducible exact Take.here | apply Take.there)))))) ?_
    refine swl_nil ?_
    rcases inv (j + 1) x hjn hx2 with ⟨rfl, h⟩ | ⟨i, rfl, h0, h2, h3, h⟩
    · rw [h]
      exact then_n ⟨(v', -1, n), ⟨rfl, rfl, .inl ⟨rfl, rfl⟩⟩, by
        show (if (-1 : Int) < 0 then 0 else n + 1 - n) < (if (j : Int) < 0 then 0 else n + 1 - j)
        rw [if_pos (by decide), if_neg (by omega)]; omega⟩
    · rw [h]
      exact then_n ⟨(v', (i : Int), i), ⟨rfl, rfl, .inr ⟨rfl, h2, h3⟩⟩, by
        show (if (i : Int) < 0 then 0 else n + 1 - i) < (if (j : Int) < 0 then 0 else n + 1 - j)
        rw [if_neg (by omega), if_neg (by omega)]; omega⟩
  · skip   -- 8 F
    have h8' := of_decide_eq_false h8
    obtain ⟨rfl, rfl⟩ : x = -1 ∧ j = n := by
      rcases hx with h | ⟨h, _⟩
      · exact h
      · omega
    refine swp_exit ?_
    refine then_x ?_
    refine then_x ?_
    refine block_hit rfl ?_
    refine then_n ?_
    refine swp_seq ?_
    refine swp_region ?_
    refine s_pu (pu_move rfl) ?_
    refine s_pu (pu_assign rfl) ?_
    refine swl_sub _ (.cons (t := 2) rfl .nil) ?_
    refine swl_nil ?_
    refine then_n ?_
    refine swp_ret ?_
    exact done_ret [own 3 1 v3 (elsTo j (mem ws)).length ((elsTo j (mem ws)).flatMap (icsk .i64)), blk p 113 [.int .i64 (j : Nat), v], own 105 1 v ws.length (wcells ws), ro μ] (.tmp rfl .nil) rfl (by repeat (first | exact Split.nil | (apply Split.cons; (repeat (first | with_reducible exact Take.here | apply Take.there)))))
theorem list_nil : Spec Tryd.prog 54 [.pointer none] [] (fun r L => r = .slice none 0 0 ∧ L = []) := by
  refine Spec.of 18 Tryd.func54 rfl rfl rfl ?_
  refine swp_seq ?_
  refine swp_region ?_
  refine s_pu (pu_assign rfl) ?_
  refine swl_sub _ (.cons (t := 0) rfl .nil) ?_
  refine swl_nil ?_
  refine then_n ?_
  refine swp_seq ?_
  refine swp_region ?_
  refine s_pu (pu_assign rfl) ?_
  refine swl_sub _ (.cons (t := 0) rfl (.cons (t := 3) rfl .nil)) ?_
  refine swl_nil ?_
  refine then_n ?_
  refine swp_seq ?_
  refine swp_seq ?_
  refine swp_region ?_
  refine s_pu (pu_move rfl) ?_
  refine s_ef (ef_fn (next_nil 0) rfl rfl (by repeat (first | exact Split.nil | (apply Split.cons; (repeat (first | with_reducible exact Take.here | apply Take.there)))))) ?_
  rintro v1 L1 ⟨rfl, rfl⟩
  refine swl_app ?_
  refine s_pu (pu_assign rfl) ?_
  refine swl_sub _ (.cons (t := 0) rfl (.cons (t := 3) rfl (.cons (t := 4) rfl .nil))) ?_
  refine swl_nil ?_
  refine then_n ?_
  refine swp_block ?_
  refine swp_loop (ι := Unit) (fun _ env L => env = [(0, .pointer none), (3, .slice none 0 0), (4, .int .i64 (-1))] ∧ L = []) (fun _ => 0) () ⟨rfl, rfl⟩ ?_
  rintro _ env L ⟨rfl, rfl⟩
  refine swp_seq ?_
  refine swp_seq ?_
  refine swp_region ?_
  refine s_pu (pu_move rfl) ?_
  refine s_pu (pu_geq rfl rfl) ?_
  refine swl_sub _ (.cons (t := 0) rfl (.cons (t := 3) rfl (.cons (t := 4) rfl (.cons (t := 8) rfl .nil)))) ?_
  refine swl_nil ?_
  refine then_n ?_
  refine swp_cond (b := _) rfl (fun h8 => absurd h8 (by decide)) (fun h8 => ?_)
  refine swp_exit ?_
  refine then_x ?_
  refine then_x ?_
  refine block_hit rfl ?_
  refine then_n ?_
  refine swp_seq ?_
  refine swp_region ?_
  refine s_pu (pu_move rfl) ?_
  refine s_pu (pu_assign rfl) ?_
  refine swl_sub _ (.cons (t := 2) rfl .nil) ?_
  refine swl_nil ?_
  refine then_n ?_
  refine swp_ret ?_
  exact done_ret _ (.tmp rfl .nil) ⟨rfl, rfl⟩ (by repeat (first | exact Split.nil | (apply Split.cons; (repeat (first | with_reducible exact Take.here | apply Take.there)))))

theorem count_step {ws : List (BitVec 64)} {i : Nat} {w : BitVec 64} (hw : ws[i]? = some w) : ((List.range (64 * (i + 1))).filter (mem ws)).length = ((List.range (64 * i)).filter (mem ws)).length + popc w := by
  rw [show 64 * (i + 1) = 64 * i + 64 by omega, List.range_add, List.filter_append, List.length_append]
  congr 1
  unfold popc
  rw [List.filter_map, List.length_map]
  congr 1
  apply List.filter_congr
  intro r hr
  have := List.mem_range.1 hr
  show mem ws (64 * i + r) = _
  rw [mem_at hw (by omega)]
  congr 1; omega
theorem popc_le (w : BitVec 64) : popc w ≤ 64 := Nat.le_trans (List.length_filter_le _ _) (by simp)
end SX
namespace SX
open Go Go.Proofs

theorem mset_elim {f : FuncId} {args : List Value} {pre : List Assn} {post : Value → List Assn → Prop} {p n : Nat} {S : Nat → Bool} (h : ∀ v ws, Wf n ws S → Spec Tryd.prog f args (blk p 113 [.int .i64 (n : Nat), v] :: own 105 1 v ws.length (wcells ws) :: pre) post) : Spec Tryd.prog f args (mset p n S :: pre) post :=
  Spec.exA' fun x => h x.1.1 x.1.2 x.2
theorem has_eq {n : Nat} {ws : List (BitVec 64)} {S : Nat → Bool} (hw : Wf n ws S) (k : Int) : (decide (0 ≤ k) && (decide (k < n) && mem ws k.toNat)) = (decide (0 ≤ k) && S k.toNat) := by
  rw [hw.2.2.1]
  by_cases h0 : 0 ≤ k
  · by_cases h : k < n
    · simp [h]
    · rw [hw.2.2.2 k.toNat (by omega)]; simp
  · simp [h0]
theorem has_m (p n : Nat) (S : Nat → Bool) (k : Int) : Spec Tryd.prog 58 [.pointer (some ⟨p, 0, none⟩), .int .i64 k] [mset p n S] (fun r L => r = .bool (decide (0 ≤ k) && S k.toNat) ∧ L = [mset p n S]) := by
  refine mset_elim fun v ws hw => ?_
  refine Spec.ent3 (has_o p n v ws k hw.1 hw.2.1) ?_
  rintro r L ⟨rfl, rfl⟩
  exact ⟨_, mset_close hw, by rw [has_eq hw], rfl⟩
theorem size_m (p n : Nat) (S : Nat → Bool) : Spec Tryd.prog 72 [.pointer (some ⟨p, 0, none⟩)] [mset p n S] (fun r L => r = .int .i64 (n : Nat) ∧ L = [mset p n S]) := by
  refine mset_elim fun v ws hw => ?_
  intro E w hh
  refine ((size_b p n v).frame (R := [own 105 1 v ws.length (wcells ws)]) hh).mono ?_
  rintro e w' ⟨r, L, he, ⟨hr, rfl⟩, h'⟩
  exact ⟨r, _, he, ⟨hr, rfl⟩, h'.ent (mset_close hw)⟩
theorem put_m (p n : Nat) (S : Nat → Bool) (k : Int) : Spec Tryd.prog 57 [.pointer (some ⟨p, 0, none⟩), .int .i64 k] [mset p n S] (fun r L => r = .bool (decide (0 ≤ k) && (decide (k < n) && !S k.toNat)) ∧ L = [mset p n (fun j => S j || (decide (0 ≤ k ∧ k < n) && decide (j = k.toNat)))]) := by
  refine mset_elim fun v ws hw => ?_
  refine Spec.ent3 (put_o p n v ws k hw.1 hw.2.1) ?_
  rintro r L ⟨rfl, ws', h1, h2, rfl⟩
  refine ⟨_, mset_close (ws := ws') ⟨by rw [h1]; exact hw.1, hw.2.1, fun j => by rw [h2, hw.2.2.1], fun j hj => ?_⟩, by rw [hw.2.2.1], rfl⟩
  rw [hw.2.2.2 j hj, Bool.false_or]
  by_cases h : 0 ≤ k ∧ k < n
  · rw [decide_eq_false (show ¬ j = k.toNat by omega), Bool.and_false]
  · simp [h]
theorem drop_m (p n : Nat) (S : Nat → Bool) (k : Int) : Spec Tryd.prog 66 [.pointer (some ⟨p, 0, none⟩), .int .i64 k] [mset p n S] (fun r L => r = .bool (decide (0 ≤ k) && S k.toNat) ∧ L = [mset p n (fun j => S j && !(decide (0 ≤ k) && decide (j = k.toNat)))]) := by
  refine mset_elim fun v ws hw => ?_
  refine Spec.ent3 (drop_o p n v ws k hw.1 hw.2.1) ?_
  rintro r L ⟨rfl, ws', h1, h2, rfl⟩
  have hkn : ∀ j, j = k.toNat → 0 ≤ k → S j = true → k < n := fun j e h0 hs => by
    rcases Int.lt_or_le k n with h | h
    · exact h
    · rw [hw.2.2.2 j (by omega)] at hs; cases hs
  refine ⟨_, mset_close (ws := ws') ⟨by rw [h1]; exact hw.1, hw.2.1, fun j => ?_, fun j hj => by rw [hw.2.2.2 j hj]; rfl⟩, ?_, rfl⟩
  · rw [h2, hw.2.2.1]
    cases hs : S j with
    | false => rfl
    | true =>
      by_cases e : j = k.toNat
      · by_cases h0 : 0 ≤ k
        · simp [e, h0, hkn j e h0 hs]
        · simp [h0]
      · simp [e]
  · rw [has_eq hw]
theorem next_m (μ : PH) (p n : Nat) (S : Nat → Bool) (k : Int) (hT : RowAt μ 0 0 tabV) : Spec Tryd.prog 80 [.pointer (some ⟨p, 0, none⟩), .int .i64 k] [mset p n S, ro μ] (fun r L => ∃ x, r = .int .i64 x ∧ IsNext S k x ∧ L = [mset p n S, ro μ]) := by
  refine mset_elim fun v ws hw => ?_
  have hS : mem ws = S := funext hw.2.2.1
  refine Spec.ent3 (next_o μ p n v ws k hT hw.1 hw.2.1 (fun j hj => by rw [hS]; exact hw.2.2.2 j hj)) ?_
  rintro r L ⟨x, rfl, hx, rfl⟩
  rw [hS] at hx
  exact ⟨_, mset_close hw, x, rfl, hx, rfl⟩
theorem list_m (μ : PH) (p n : Nat) (S : Nat → Bool) (hT : RowAt μ 0 0 tabV) : Spec Tryd.prog 54 [.pointer (some ⟨p, 0, none⟩)] [mset p n S, ro μ] (fun r L => L = [own 3 1 r (elsTo n S).length ((elsTo n S).flatMap (icsk .i64)), mset p n S, ro μ]) := by
  refine mset_elim fun v ws hw => ?_
  have hS : mem ws = S := funext hw.2.2.1
  refine Spec.ent3 (list_o μ p n v ws hT hw.1 hw.2.1 (fun j hj => by rw [hS]; exact hw.2.2.2 j hj)) ?_
  rintro r L rfl
  rw [hS]
  exact ⟨_, Ent.cons (mset_close hw), rfl⟩
/-- one of three: what each does with the other set's words -/
theorem each_m (p n : Nat) (S : Nat → Bool) (ov : Value) (fid : Nat) [Body Tryd.prog fid] (g : BitVec 64 → BitVec 64 → BitVec 64) (gb : Bool → Bool → Bool) (o : Nat → BitVec 64) (X : Assn) (hf : ∀ x y, Spec Tryd.prog fid [wv x, wv y] [] (fun r L => r = wv (g x y) ∧ L = []))
    (hg : ∀ x y i, i < 64 → (g x y).getLsbD i = gb (x.getLsbD i) (y.getLsbD i)) (ho : ∀ i, i ≤ 1048576 → Spec Tryd.prog 94 [ov, .int .i64 (i : Nat)] [X] (fun r L => r = wv (o i) ∧ L = [X])) :
    Spec Tryd.prog 81 [.pointer (some ⟨p, 0, none⟩), ov, .func (.func fid) #[] #[]] [mset p n S, X] (fun r L => r = .tuple #[] ∧ L = [mset p n (fun k => decide (k < n) && gb (S k) ((o (k / 64)).getLsbD (k % 64))), X]) := by
  refine mset_elim fun v ws hw => ?_
  have hS : mem ws = S := funext hw.2.2.1
  refine Spec.pre ?_ (Ent.swap (L := [X]))
  refine Spec.own_cases (fun hv l0 _ => ?_) (fun b cap ex hv h1 h2 h3 h4 => ?_)
  · subst hv
    have hn0 : n = 0 := by have := hw.1; omega
    subst hn0
    intro E w hh
    refine ((each_0 p ov fid).frame (R := [X]) hh).mono ?_
    rintro e w' ⟨r, L, he, ⟨hr, rfl⟩, h'⟩
    have hws : ws = [] := List.eq_nil_of_length_eq_zero l0
    refine ⟨r, _, he, ⟨hr, rfl⟩, h'.ent ?_⟩
    refine Ent.trans ?_ (mset_close (v := .slice none 0 0) (ws := []) ⟨rfl, by decide, fun k => by simp [mem], fun _ _ => by simp⟩)
    exact Ent.cons own_nil_ent
  · subst hv
    refine Spec.ent3 (each_b p n b cap ws ex ov fid g o X hw.1 hw.2.1 hf (fun cur i _ hi _ => ?_)) ?_
    · have h := ho i (by have := hw.1; have := hw.2.1; omega)
      intro E w hh
      have hh2 : H E w ([X] ++ [blk b 105 (wcells cur ++ ex), blk p 113 [.int .i64 (n : Nat), .slice (some ⟨b, 0, none⟩) ws.length cap]]) := hh.ent (Split.ent' (by repeat (first | exact Split.nil | (apply Split.cons; (repeat (first | with_reducible exact Take.here | apply Take.there))))))
      refine (h.frame hh2).mono ?_
      rintro e w' ⟨r, L, he, ⟨hr, rfl⟩, h'⟩
      exact ⟨r, _, he, ⟨hr, rfl⟩, h'.ent (Ent.perm (List.perm_append_comm (l₁ := [X])))⟩
    · rintro r L ⟨rfl, ws', h5, h6, rfl⟩
      have hc := wown_close (b := b) (cap := cap) (ws := ws') (ex := ex) (L := [blk p 113 [.int .i64 (n : Nat), .slice (some ⟨b, 0, none⟩) ws.length cap], X]) (by omega) h2 (by rw [h5]; exact h4)
      have hwf : Wf n ws' (fun k => decide (k < n) && gb (S k) ((o (k / 64)).getLsbD (k % 64))) := by
        refine ⟨by rw [h5]; exact hw.1, hw.2.1, fun k => ?_, fun k hk => by show (decide (k < n) && _) = false; rw [decide_eq_false (by omega)]; rfl⟩
        rw [h6, hg _ _ _ (Nat.mod_lt _ (by decide)), ← hS]
        rfl
      have hm := mset_close (p := p) (v := .slice (some ⟨b, 0, none⟩) ws.length cap) (L := [X]) hwf
      rw [h5] at hc hm
      exact ⟨_, hc.trans (Ent.swap.trans hm), rfl, rfl⟩
theorem Spec.starred {P : Program} {f : FuncId} {args : List Value} {K : List Assn} {φ : Value → Prop} (h : Spec P f args K (fun r L => φ r ∧ L = K)) (R : List Assn) : Spec P f args [star (K ++ R)] (fun r L => φ r ∧ L = [star (K ++ R)]) := by
  intro E w hh
  have h2 : H E w (K ++ R) := by
    have := hh.ent (star_ent (K := K ++ R) (L := []))
    rwa [List.append_nil] at this
  refine (h.frame h2).mono ?_
  rintro e w' ⟨r, L, he, ⟨hr, rfl⟩, h'⟩
  exact ⟨r, _, he, ⟨hr, rfl⟩, h'.ent star_close1⟩

theorem or_x (p n : Nat) (S : Nat → Bool) (ov : Value) (o : Nat → BitVec 64) (X : Assn) (ho : ∀ i, i ≤ 1048576 → Spec Tryd.prog 94 [ov, .int .i64 (i : Nat)] [X] (fun r L => r = wv (o i) ∧ L = [X])) :
    Spec Tryd.prog 73 [.pointer (some ⟨p, 0, none⟩), ov] [mset p n S, X] (fun r L => r = .tuple #[] ∧ L = [mset p n (fun k => decide (k < n) && (S k || (o (k / 64)).getLsbD (k % 64))), X]) := by
  refine Spec.of 7 Tryd.func73 rfl rfl rfl ?_
  refine swp_region ?_
  refine s_pu (pu_move rfl) ?_
  refine s_pu (pu_move rfl) ?_
  refine s_ef (ef_fn (each_m p n S ov 88 (fun x y => x ||| y) (fun a b => (a || b)) o X or1 (fun x y i hi => by simp [BitVec.getLsbD_or]) ho) rfl rfl (by repeat (first | exact Split.nil | (apply Split.cons; (repeat (first | with_reducible exact Take.here | apply Take.there)))))) ?_
  rintro v1 L1 ⟨rfl, rfl⟩
  refine swl_app ?_
  refine swl_sub _ .nil ?_
  refine swl_nil ?_
  exact done_end _ .nil ⟨rfl, rfl⟩ (by repeat (first | exact Split.nil | (apply Split.cons; (repeat (first | with_reducible exact Take.here | apply Take.there)))))
theorem or_m (p n q m : Nat) (S T : Nat → Bool) : Spec Tryd.prog 73 [.pointer (some ⟨p, 0, none⟩), .pointer (some ⟨q, 0, none⟩)] [mset p n S, mset q m T] (fun r L => r = .tuple #[] ∧ L = [mset p n (fun k => decide (k < n) && (S k || T k)), mset q m T]) := by
  refine Spec.pre ?_ Ent.swap
  refine mset_elim fun v ws hw => ?_
  refine Spec.pre ?_ (Ent.trans (L2 := star (opn q m v ws) :: [mset p n S]) (star_close (K := opn q m v ws)) Ent.swap)
  refine Spec.ent3 (or_x p n S _ (fun i => ws.getD i 0#64) (star (opn q m v ws)) (fun i hi => by have := Spec.starred (word_o q m v ws i hi) []; rwa [List.append_nil] at this)) ?_
  rintro r L ⟨rfl, rfl⟩
  refine ⟨_, ?_, rfl, rfl⟩
  have e : (fun k => decide (k < n) && (S k || (ws.getD (k / 64) 0#64).getLsbD (k % 64))) = fun k => decide (k < n) && (S k || T k) := by
    funext k
    have := hw.2.2.1 k
    unfold mem at this
    rw [this]
  rw [e]
  exact Ent.cons ((star_ent (L := [])).trans (mset_close hw))
theorem or_none (p n : Nat) (S : Nat → Bool) : Spec Tryd.prog 73 [.pointer (some ⟨p, 0, none⟩), .pointer none] [mset p n S] (fun r L => r = .tuple #[] ∧ L = [mset p n (fun k => decide (k < n) && (S k || false))]) := by
  refine Spec.pre (pre := [mset p n S, star []]) ?_ (fun m h => by
    obtain ⟨m1, m2, a, _, c, d, e⟩ := h
    exact ⟨m1, m2, a, ⟨fun _ => none, fun _ => none, trivial, trivial, by simp, by simp, by simp⟩, c, d, e⟩)
  refine Spec.ent3 (or_x p n S _ (fun _ => 0#64) (star []) (fun i _ => by
    have := Spec.starred (word_nil i) []
    exact this)) ?_
  rintro r L ⟨rfl, rfl⟩
  refine ⟨_, Ent.one, rfl, ?_⟩
  congr 2
  funext k
  simp
theorem or_nil (ov : Value) : Spec Tryd.prog 73 [.pointer none, ov] [] (fun r L => r = .tuple #[] ∧ L = []) := by
  refine Spec.of 7 Tryd.func73 rfl rfl rfl ?_
  refine swp_region ?_
  refine s_pu (pu_move rfl) ?_
  refine s_pu (pu_move rfl) ?_
  refine s_ef (ef_fn (each_nil ov _) rfl rfl (by repeat (first | exact Split.nil | (apply Split.cons; (repeat (first | with_reducible exact Take.here | apply Take.there)))))) ?_
  rintro v1 L1 ⟨rfl, rfl⟩
  refine swl_app ?_
  refine swl_sub _ .nil ?_
  refine swl_nil ?_
  exact done_end _ .nil ⟨rfl, rfl⟩ (by repeat (first | exact Split.nil | (apply Split.cons; (repeat (first | with_reducible exact Take.here | apply Take.there)))))

theorem and_x (p n : Nat) (S : Nat → Bool) (ov : Value) (o : Nat → BitVec 64) (X : Assn) (ho : ∀ i, i ≤ 1048576 → Spec Tryd.prog 94 [ov, .int .i64 (i : Nat)] [X] (fun r L => r = wv (o i) ∧ L = [X])) :
    Spec Tryd.prog 63 [.pointer (some ⟨p, 0, none⟩), ov] [mset p n S, X] (fun r L => r = .tuple #[] ∧ L = [mset p n (fun k => decide (k < n) && (S k && (o (k / 64)).getLsbD (k % 64))), X]) := by
  refine Spec.of 7 Tryd.func63 rfl rfl rfl ?_
  refine swp_region ?_
  refine s_pu (pu_move rfl) ?_
  refine s_pu (pu_move rfl) ?_
  refine s_ef (ef_fn (each_m p n S ov 83 (fun x y => x &&& y) (fun a b => (a && b)) o X and1 (fun x y i hi => by simp [BitVec.getLsbD_and]) ho) rfl rfl (by repeat (first | exact Split.nil | (apply Split.cons; (repeat (first | with_reducible exact Take.here | apply Take.there)))))) ?_
  rintro v1 L1 ⟨rfl, rfl⟩
  refine swl_app ?_
  refine swl_sub _ .nil ?_
  refine swl_nil ?_
  exact done_end _ .nil ⟨rfl, rfl⟩ (by repeat (first | exact Split.nil | (apply Split.cons; (repeat (first | with_reducible exact Take.here | apply Take.there)))))
theorem and_m (p n q m : Nat) (S T : Nat → Bool) : Spec Tryd.prog 63 [.pointer (some ⟨p, 0, none⟩), .pointer (some ⟨q, 0, none⟩)] [mset p n S, mset q m T] (fun r L => r = .tuple #[] ∧ L = [mset p n (fun k => decide (k < n) && (S k && T k)), mset q m T]) := by
  refine Spec.pre ?_ Ent.swap
  refine mset_elim fun v ws hw => ?_
  refine Spec.pre ?_ (Ent.trans (L2 := star (opn q m v ws) :: [mset p n S]) (star_close (K := opn q m v ws)) Ent.swap)
  refine Spec.ent3 (and_x p n S _ (fun i => ws.getD i 0#64) (star (opn q m v ws)) (fun i hi => by have := Spec.starred (word_o q m v ws i hi) []; rwa [List.append_nil] at this)) ?_
  rintro r L ⟨rfl, rfl⟩
  refine ⟨_, ?_, rfl, rfl⟩
  have e : (fun k => decide (k < n) && (S k && (ws.getD (k / 64) 0#64).getLsbD (k % 64))) = fun k => decide (k < n) && (S k && T k) := by
    funext k
    have := hw.2.2.1 k
    unfold mem at this
    rw [this]
  rw [e]
  exact Ent.cons ((star_ent (L := [])).trans (mset_close hw))
theorem and_none (p n : Nat) (S : Nat → Bool) : Spec Tryd.prog 63 [.pointer (some ⟨p, 0, none⟩), .pointer none] [mset p n S] (fun r L => r = .tuple #[] ∧ L = [mset p n (fun k => decide (k < n) && (S k && false))]) := by
  refine Spec.pre (pre := [mset p n S, star []]) ?_ (fun m h => by
    obtain ⟨m1, m2, a, _, c, d, e⟩ := h
    exact ⟨m1, m2, a, ⟨fun _ => none, fun _ => none, trivial, trivial, by simp, by simp, by simp⟩, c, d, e⟩)
  refine Spec.ent3 (and_x p n S _ (fun _ => 0#64) (star []) (fun i _ => by
    have := Spec.starred (word_nil i) []
    exact this)) ?_
  rintro r L ⟨rfl, rfl⟩
  refine ⟨_, Ent.one, rfl, ?_⟩
  congr 2
  funext k
  simp
theorem and_nil (ov : Value) : Spec Tryd.prog 63 [.pointer none, ov] [] (fun r L => r = .tuple #[] ∧ L = []) := by
  refine Spec.of 7 Tryd.func63 rfl rfl rfl ?_
  refine swp_region ?_
  refine s_pu (pu_move rfl) ?_
  refine s_pu (pu_move rfl) ?_
  refine s_ef (ef_fn (each_nil ov _) rfl rfl (by repeat (first | exact Split.nil | (apply Split.cons; (repeat (first | with_reducible exact Take.here | apply Take.there)))))) ?_
  rintro v1 L1 ⟨rfl, rfl⟩
  refine swl_app ?_
  refine swl_sub _ .nil ?_
  refine swl_nil ?_
  exact done_end _ .nil ⟨rfl, rfl⟩ (by repeat (first | exact Split.nil | (apply Split.cons; (repeat (first | with_reducible exact Take.here | apply Take.there)))))

theorem less_x (p n : Nat) (S : Nat → Bool) (ov : Value) (o : Nat → BitVec 64) (X : Assn) (ho : ∀ i, i ≤ 1048576 → Spec Tryd.prog 94 [ov, .int .i64 (i : Nat)] [X] (fun r L => r = wv (o i) ∧ L = [X])) :
    Spec Tryd.prog 59 [.pointer (some ⟨p, 0, none⟩), ov] [mset p n S, X] (fun r L => r = .tuple #[] ∧ L = [mset p n (fun k => decide (k < n) && (S k && !(o (k / 64)).getLsbD (k % 64))), X]) := by
  refine Spec.of 7 Tryd.func59 rfl rfl rfl ?_
  refine swp_region ?_
  refine s_pu (pu_move rfl) ?_
  refine s_pu (pu_move rfl) ?_
  refine s_ef (ef_fn (each_m p n S ov 82 (fun x y => x &&& ~~~y) (fun a b => (a && !b)) o X less1 (fun x y i hi => by simp [hi]) ho) rfl rfl (by repeat (first | exact Split.nil | (apply Split.cons; (repeat (first | with_reducible exact Take.here | apply Take.there)))))) ?_
  rintro v1 L1 ⟨rfl, rfl⟩
  refine swl_app ?_
  refine swl_sub _ .nil ?_
  refine swl_nil ?_
  exact done_end _ .nil ⟨rfl, rfl⟩ (by repeat (first | exact Split.nil | (apply Split.cons; (repeat (first | with_reducible exact Take.here | apply Take.there)))))
theorem less_m (p n q m : Nat) (S T : Nat → Bool) : Spec Tryd.prog 59 [.pointer (some ⟨p, 0, none⟩), .pointer (some ⟨q, 0, none⟩)] [mset p n S, mset q m T] (fun r L => r = .tuple #[] ∧ L = [mset p n (fun k => decide (k < n) && (S k && !T k)), mset q m T]) := by
  refine Spec.pre ?_ Ent.swap
  refine mset_elim fun v ws hw => ?_
  refine Spec.pre ?_ (Ent.trans (L2 := star (opn q m v ws) :: [mset p n S]) (star_close (K := opn q m v ws)) Ent.swap)
  refine Spec.ent3 (less_x p n S _ (fun i => ws.getD i 0#64) (star (opn q m v ws)) (fun i hi => by have := Spec.starred (word_o q m v ws i hi) []; rwa [List.append_nil] at this)) ?_
  rintro r L ⟨rfl, rfl⟩
  refine ⟨_, ?_, rfl, rfl⟩
  have e : (fun k => decide (k < n) && (S k && !(ws.getD (k / 64) 0#64).getLsbD (k % 64))) = fun k => decide (k < n) && (S k && !T k) := by
    funext k
    have := hw.2.2.1 k
    unfold mem at this
    rw [this]
  rw [e]
  exact Ent.cons ((star_ent (L := [])).trans (mset_close hw))
theorem less_none (p n : Nat) (S : Nat → Bool) : Spec Tryd.prog 59 [.pointer (some ⟨p, 0, none⟩), .pointer none] [mset p n S] (fun r L => r = .tuple #[] ∧ L = [mset p n (fun k => decide (k < n) && (S k && !false))]) := by
  refine Spec.pre (pre := [mset p n S, star []]) ?_ (fun m h => by
    obtain ⟨m1, m2, a, _, c, d, e⟩ := h
    exact ⟨m1, m2, a, ⟨fun _ => none, fun _ => none, trivial, trivial, by simp, by simp, by simp⟩, c, d, e⟩)
  refine Spec.ent3 (less_x p n S _ (fun _ => 0#64) (star []) (fun i _ => by
    have := Spec.starred (word_nil i) []
    exact this)) ?_
  rintro r L ⟨rfl, rfl⟩
  refine ⟨_, Ent.one, rfl, ?_⟩
  congr 2
  funext k
  simp
theorem less_nil (ov : Value) : Spec Tryd.prog 59 [.pointer none, ov] [] (fun r L => r = .tuple #[] ∧ L = []) := by
  refine Spec.of 7 Tryd.func59 rfl rfl rfl ?_
  refine swp_region ?_
  refine s_pu (pu_move rfl) ?_
  refine s_pu (pu_move rfl) ?_
  refine s_ef (ef_fn (each_nil ov _) rfl rfl (by repeat (first | exact Split.nil | (apply Split.cons; (repeat (first | with_reducible exact Take.here | apply Take.there)))))) ?_
  rintro v1 L1 ⟨rfl, rfl⟩
  refine swl_app ?_
  refine swl_sub _ .nil ?_
  refine swl_nil ?_
  exact done_end _ .nil ⟨rfl, rfl⟩ (by repeat (first | exact Split.nil | (apply Split.cons; (repeat (first | with_reducible exact Take.here | apply Take.there)))))
end SX
namespace SX
open Go Go.Proofs

theorem wcells_one (ws : List (BitVec 64)) : (wcells ws).all Value.oneCell' = true := by
  unfold wcells; rw [List.all_flatMap]; simp [ucs, Value.oneCell']
theorem uclone_nil : Spec Tryd.prog 84 [.slice none 0 0] [] (fun v L => v = .slice none 0 0 ∧ L = []) := by
  refine Spec.of 8 Tryd.func84 rfl rfl rfl ?_
  refine swp_seq ?_
  refine swp_region ?_
  refine s_pu (pu_assign rfl) ?_
  refine swl_sub _ (.cons (t := 0) rfl .nil) ?_
  refine swl_nil ?_
  refine then_n ?_
  refine swp_seq ?_
  refine swp_seq ?_
  refine swp_region ?_
  refine s_pu (pu_move rfl) ?_
  refine s_pu (pu_sl_eq_nil rfl rfl) ?_
  refine swl_sub _ (.cons (t := 0) rfl (.cons (t := 4) rfl .nil)) ?_
  refine swl_nil ?_
  refine then_n ?_
  refine swp_cond (b := _) rfl (fun h4 => ?_) (fun h4 => by cases h4)
  refine swp_seq ?_
  refine swp_region ?_
  refine s_pu (pu_assign rfl) ?_
  refine swl_sub _ (.cons (t := 2) rfl .nil) ?_
  refine swl_nil ?_
  refine then_n ?_
  refine swp_ret ?_
  refine then_r ?_
  exact done_ret [] (.tmp rfl .nil) ⟨rfl, rfl⟩ (by repeat (first | exact Split.nil | (apply Split.cons; (repeat (first | with_reducible exact Take.here | apply Take.there)))))
theorem uclone_blk (g cap : Nat) (es : List (BitVec 64)) (ex : List Value) (hb : es.length ≤ 1099511627776) :
    Spec Tryd.prog 84 [.slice (some ⟨g, 0, none⟩) es.length cap] [blk g 105 (wcells es ++ ex)] (fun v L => (∃ A c, v = .slice A es.length c) ∧ L = [own 105 1 v es.length (wcells es), blk g 105 (wcells es ++ ex)]) := by
  refine Spec.of 8 Tryd.func84 rfl rfl rfl ?_
  refine swp_seq ?_
  refine swp_region ?_
  refine s_pu (pu_assign rfl) ?_
  refine swl_sub _ (.cons (t := 0) rfl .nil) ?_
  refine swl_nil ?_
  refine then_n ?_
  refine swp_seq ?_
  refine swp_seq ?_
  refine swp_region ?_
  refine s_pu (pu_move rfl) ?_
  refine s_pu (pu_sl_eq_nil rfl rfl) ?_
  refine swl_sub _ (.cons (t := 0) rfl (.cons (t := 4) rfl .nil)) ?_
  refine swl_nil ?_
  refine then_n ?_
  refine swp_cond (b := _) rfl (fun h4 => by cases h4) (fun h4 => ?_)
  refine swp_skip ?_
  refine then_n ?_
  refine swp_seq ?_
  refine swp_region ?_
  refine s_ef (ef_bldS (qs := []) rfl rfl rfl) ?_
  intro b5
  refine s_pu (pu_move rfl) ?_
  refine swl_ent (own_close (n := 1) (l := 0) (cap := 0) (xs := []) (ex := []) rfl rfl (Nat.le_refl _) (by simp [maxLen])) ?_
  refine s_ef (ef_append_of (news := wcells es) rfl rfl (by repeat (first | exact Split.nil | (apply Split.cons; (repeat (first | with_reducible exact Take.here | apply Take.there))))) (by rw [wcells_len, Nat.mul_one]) (fun j u hj => by rw [Nat.zero_add, List.getElem?_append_left (List.getElem?_eq_some_iff.1 hj).1]; exact hj) (wcells_one es) (by simp only [maxLen]; omega) (by omega)) ?_
  rintro v' -
  rw [Nat.zero_add, List.nil_append]
  refine swl_fact (fun m h => own_form h) fun hform => ?_
  refine s_pu (pu_assign rfl) ?_
  refine swl_sub _ (.cons (t := 2) rfl .nil) ?_
  refine swl_nil ?_
  refine then_n ?_
  refine swp_ret ?_
  exact done_ret [own 105 1 v' es.length (wcells es), blk g 105 (wcells es ++ ex)] (.tmp rfl .nil) ⟨hform, rfl⟩ (by repeat (first | exact Split.nil | (apply Split.cons; (repeat (first | with_reducible exact Take.here | apply Take.there)))))
theorem uclone_own (v : Value) (es : List (BitVec 64)) (hb : es.length ≤ 1099511627776) :
    Spec Tryd.prog 84 [v] [own 105 1 v es.length (wcells es)] (fun v' L => (∃ A c, v' = .slice A es.length c) ∧ L = [own 105 1 v' es.length (wcells es), own 105 1 v es.length (wcells es)]) := by
  refine Spec.own_cases (fun hv l0 x0 => ?_) (fun g cap ex hv o1 o2 o3 o4 => ?_)
  · subst hv
    refine Spec.ent3 uclone_nil ?_
    rintro v L ⟨rfl, rfl⟩
    have he : es = [] := List.eq_nil_of_length_eq_zero l0
    subst he
    exact ⟨_, own_nil_ent.trans (Ent.cons own_nil_ent), ⟨_, _, rfl⟩, rfl⟩
  · subst hv
    refine Spec.ent3 (uclone_blk g cap es ex hb) ?_
    rintro v L ⟨hf, rfl⟩
    exact ⟨_, Ent.cons (own_close o3 o4 o1 o2), hf, rfl⟩
theorem copy_m (p n : Nat) (S : Nat → Bool) : Spec Tryd.prog 64 [.pointer (some ⟨p, 0, none⟩)] [mset p n S] (fun r L => ∃ q, r = .pointer (some ⟨q, 0, none⟩) ∧ L = [mset q n S, mset p n S]) := by
  refine mset_elim fun v ws hw => ?_
  have hws : ws.length ≤ 1048576 := by have := hw.1; have := hw.2.1; omega
  refine Spec.of 16 Tryd.func64 rfl rfl rfl ?_
  refine swp_front (A := own 105 1 v ws.length (wcells ws)) (by repeat (first | with_reducible exact Take.here | apply Take.there)) ?_
  refine swp_fact (fun m h => own_form h) fun ⟨A, cap, hv⟩ => ?_
  subst hv
  refine swp_seq ?_
  refine swp_region ?_
  refine s_pu (pu_assign rfl) ?_
  refine swl_sub _ (.cons (t := 0) rfl .nil) ?_
  refine swl_nil ?_
  refine then_n ?_
  refine swp_seq ?_
  refine swp_seq ?_
  refine swp_region ?_
  refine s_pu (pu_move rfl) ?_
  refine s_pu (pu_ptr_eq_nil rfl rfl) ?_
  refine swl_sub _ (.cons (t := 0) rfl (.cons (t := 4) rfl .nil)) ?_
  refine swl_nil ?_
  refine then_n ?_
  refine swp_cond (b := _) rfl (fun h4 => by cases h4) (fun h4 => ?_)
  refine swp_skip ?_
  refine then_n ?_
  refine swp_seq ?_
  refine swp_draw [3, 7] _ [] (by simp only [List.append_nil]; exact Ent.refl _) (by kernel_rfl) ?_
  refine d_pu 0 rfl (pu_move rfl) (by kernel_rfl) (by kernel_rfl) (by kernel_rfl) ?_
  first | refine d_pu 1 rfl (pu_nilCheck rfl) (by kernel_rfl) (by kernel_rfl) (by kernel_rfl) ?_ | refine d_pu 1 rfl (pu_nilCheck_fn rfl) (by kernel_rfl) (by kernel_rfl) (by kernel_rfl) ?_ | refine d_pu 1 rfl (pu_nilCheck_if rfl) (by kernel_rfl) (by kernel_rfl) (by kernel_rfl) ?_
  first | refine d_pu 2 rfl (pu_fieldAddr0 rfl) (by kernel_rfl) (by kernel_rfl) (by kernel_rfl) ?_ | refine d_pu 2 rfl (pu_fieldAddr rfl) (by kernel_rfl) (by kernel_rfl) (by kernel_rfl) ?_
  refine d_rd 3 rfl (rd_load rfl rfl) rfl (by kernel_rfl) (by kernel_rfl) (by kernel_rfl) ?_
  refine d_pu 4 rfl (pu_move rfl) (by kernel_rfl) (by kernel_rfl) (by kernel_rfl) ?_
  first | refine d_pu 5 rfl (pu_nilCheck rfl) (by kernel_rfl) (by kernel_rfl) (by kernel_rfl) ?_ | refine d_pu 5 rfl (pu_nilCheck_fn rfl) (by kernel_rfl) (by kernel_rfl) (by kernel_rfl) ?_ | refine d_pu 5 rfl (pu_nilCheck_if rfl) (by kernel_rfl) (by kernel_rfl) (by kernel_rfl) ?_
  first | refine d_pu 6 rfl (pu_fieldAddr0 rfl) (by kernel_rfl) (by kernel_rfl) (by kernel_rfl) ?_ | refine d_pu 6 rfl (pu_fieldAddr rfl) (by kernel_rfl) (by kernel_rfl) (by kernel_rfl) ?_
  refine d_rd 7 rfl (rd_load rfl rfl) rfl (by kernel_rfl) (by kernel_rfl) (by kernel_rfl) ?_
  refine d_eft 8 rfl (by kernel_rfl) (ef_fn (uclone_own _ ws (by omega)) rfl rfl (by repeat (first | exact Split.nil | (apply Split.cons; (repeat (first | with_reducible exact Take.here | apply Take.there)))))) ?_
  rintro v1 L1 ⟨⟨A', cap', rfl⟩, rfl⟩
  refine ⟨_, ent_appC (Split.ent (by repeat (first | exact Split.nil | (apply Split.cons; (repeat (first | with_reducible exact Take.here | apply Take.there)))))), ?_⟩
  refine d_pu 9 rfl (pu_bld (qs := [(0, _), (1, _)]) rfl) (by kernel_rfl) (by kernel_rfl) (by kernel_rfl) ?_
  first | refine d_fint 10 rfl (by kernel_rfl) (by kernel_rfl) (ef_box rfl rfl) ?_ | refine d_finf 10 rfl (by kernel_rfl) (by kernel_rfl) (ef_box rfl rfl) ?_
  intro b15
  refine d_pu 11 rfl (pu_assign rfl) (by kernel_rfl) (by kernel_rfl) (by kernel_rfl) ?_
  refine d_sub _ (.cons (t := 2) rfl .nil) ?_
  first | refine d_nilt (by kernel_rfl) ?_ | refine d_nilf (by kernel_rfl) ?_
  refine then_n ?_
  refine swp_ret ?_
  refine done_retE [mset b15 n S, mset p n S] (.tmp rfl .nil) ⟨_, rfl, rfl⟩ ?_
  exact (Split.ent' (K := [blk b15 113 [.int .i64 (n : Nat), .slice A' ws.length cap'], own 105 1 (.slice A' ws.length cap') ws.length (wcells ws), blk p 113 [.int .i64 (n : Nat), .slice A ws.length cap], own 105 1 (.slice A ws.length cap) ws.length (wcells ws)]) (by repeat (first | exact Split.nil | (apply Split.cons; (repeat (first | with_reducible exact Take.here | apply Take.there)))))).trans ((mset_close hw).trans (Ent.cons (mset_close hw)))
theorem copy_nil : Spec Tryd.prog 64 [.pointer none] [] (fun r L => r = .pointer none ∧ L = []) := by
  refine Spec.of 16 Tryd.func64 rfl rfl rfl ?_
  refine swp_seq ?_
  refine swp_region ?_
  refine s_pu (pu_assign rfl) ?_
  refine swl_sub _ (.cons (t := 0) rfl .nil) ?_
  refine swl_nil ?_
  refine then_n ?_
  refine swp_seq ?_
  refine swp_seq ?_
  refine swp_region ?_
  refine s_pu (pu_move rfl) ?_
  refine s_pu (pu_ptr_eq_nil rfl rfl) ?_
  refine swl_sub _ (.cons (t := 0) rfl (.cons (t := 4) rfl .nil)) ?_
  refine swl_nil ?_
  refine then_n ?_
  refine swp_cond (b := _) rfl (fun h4 => ?_) (fun h4 => by cases h4)
  refine swp_seq ?_
  refine swp_region ?_
  refine s_pu (pu_assign rfl) ?_
  refine swl_sub _ (.cons (t := 2) rfl .nil) ?_
  refine swl_nil ?_
  refine then_n ?_
  refine swp_ret ?_
  refine then_r ?_
  exact done_ret [] (.tmp rfl .nil) ⟨rfl, rfl⟩ (by repeat (first | exact Split.nil | (apply Split.cons; (repeat (first | with_reducible exact Take.here | apply Take.there)))))

/-- what can be asked of a set, nil or not, that X holds -/
structure View (ov : Value) (X : Assn) (n : Nat) (o : Nat → BitVec 64) : Prop where
  size : Spec Tryd.prog 72 [ov] [X] (fun r L => r = .int .i64 (n : Nat) ∧ L = [X])
  word : ∀ i, i ≤ 1048576 → Spec Tryd.prog 94 [ov, .int .i64 (i : Nat)] [X] (fun r L => r = wv (o i) ∧ L = [X])
theorem spec_any {f : FuncId} {args : List Value} {u : Value} (h : Spec Tryd.prog f args [] (fun r L => r = u ∧ L = [])) (X : Assn) : Spec Tryd.prog f args [X] (fun r L => r = u ∧ L = [X]) := fun E w hw => by
  refine (h.frame (R := [X]) hw).mono ?_
  rintro e w' ⟨r, L, he, ⟨hr, rfl⟩, h'⟩
  exact ⟨r, _, he, ⟨hr, rfl⟩, h'⟩
theorem view_nil (X : Assn) : View (.pointer none) X 0 (fun _ => 0#64) := ⟨spec_any size_nil X, fun i _ => spec_any (word_nil i) X⟩
theorem words_eq {n1 n2 : Nat} {ws us : List (BitVec 64)} {S T : Nat → Bool} (h1 : ∀ k, (ws.getD (k / 64) 0#64).getLsbD (k % 64) = S k) (h2 : ∀ k, (us.getD (k / 64) 0#64).getLsbD (k % 64) = T k) (z1 : ∀ k, n1 ≤ k → S k = false) (z2 : ∀ k, n2 ≤ k → T k = false) :
    (∀ i, i < (max n1 n2 + 63) / 64 → ws.getD i 0#64 = us.getD i 0#64) ↔ ∀ k, S k = T k := by
  constructor
  · intro h k
    by_cases hk : k / 64 < (max n1 n2 + 63) / 64
    · rw [← h1, ← h2, h _ hk]
    · rw [z1 k (by omega), z2 k (by omega)]
  · intro h i _
    apply BitVec.eq_of_getLsbD_eq
    intro r hr
    have e1 := h1 (64 * i + r)
    have e2 := h2 (64 * i + r)
    rw [show (64 * i + r) / 64 = i by omega, show (64 * i + r) % 64 = r by omega] at e1 e2
    rw [e1, e2, h]
theorem view_a (p n : Nat) (v : Value) (ws : List (BitVec 64)) (R : List Assn) : View (.pointer (some ⟨p, 0, none⟩)) (star (opn p n v ws ++ R)) n (fun i => ws.getD i 0#64) := by
  refine ⟨?_, fun i hi => Spec.starred (word_o p n v ws i hi) R⟩
  have := Spec.starred (size_b p n v) (own 105 1 v ws.length (wcells ws) :: R)
  exact this
theorem each_self (p n : Nat) (S : Nat → Bool) (fid : Nat) [Body Tryd.prog fid] (g : BitVec 64 → BitVec 64 → BitVec 64) (gb : Bool → Bool → Bool) (hf : ∀ x y, Spec Tryd.prog fid [wv x, wv y] [] (fun r L => r = wv (g x y) ∧ L = []))
    (hg : ∀ x y i, i < 64 → (g x y).getLsbD i = gb (x.getLsbD i) (y.getLsbD i)) :
    Spec Tryd.prog 81 [.pointer (some ⟨p, 0, none⟩), .pointer (some ⟨p, 0, none⟩), .func (.func fid) #[] #[]] [mset p n S] (fun r L => r = .tuple #[] ∧ L = [mset p n (fun k => decide (k < n) && gb (S k) (S k))]) := by
  refine mset_elim fun v ws hw => ?_
  have hS : mem ws = S := funext hw.2.2.1
  refine Spec.pre ?_ (Ent.swap (L := []))
  refine Spec.own_cases (fun hv l0 _ => ?_) (fun b cap ex hv h1 h2 h3 h4 => ?_)
  · subst hv
    have hn0 : n = 0 := by have := hw.1; omega
    subst hn0
    refine Spec.ent3 (each_0 p _ fid) ?_
    rintro r L ⟨rfl, rfl⟩
    refine ⟨_, Ent.trans ?_ (mset_close (v := .slice none 0 0) (ws := []) ⟨rfl, by decide, fun k => by simp [mem], fun _ _ => by simp⟩), rfl, rfl⟩
    exact Ent.cons own_nil_ent
  · subst hv
    refine Spec.pre (pre := [blk b 105 (wcells ws ++ ex), blk p 113 [.int .i64 (n : Nat), .slice (some ⟨b, 0, none⟩) ws.length cap], star []]) ?_ (Ent.cons (Ent.cons (fun m h => ⟨fun _ => none, m, trivial, trivial, fun _ => .inl rfl, fun _ _ h => by (cases h), fun _ _ h => h⟩)))
    refine Spec.ent3 (each_b p n b cap ws ex _ fid g (fun i => ws.getD i 0#64) (star []) hw.1 hw.2.1 hf (fun cur i hcl hi hci => ?_)) ?_
    · have hwi : cur[i]? = some (ws.getD i 0#64) := by rw [hci, List.getD_eq_getElem?_getD, List.getElem?_eq_getElem hi]; rfl
      have h := word_b p n b cap cur ex i _ hwi
      rw [hcl] at h
      intro E w hh
      refine (h.frame (R := [star []]) hh).mono ?_
      rintro e w' ⟨r, L, he, ⟨hr, rfl⟩, h'⟩
      exact ⟨r, _, he, ⟨hr, rfl⟩, h'⟩
    · rintro r L ⟨rfl, ws', h5, h6, rfl⟩
      have hc := wown_close (b := b) (cap := cap) (ws := ws') (ex := ex) (L := [blk p 113 [.int .i64 (n : Nat), .slice (some ⟨b, 0, none⟩) ws.length cap], star []]) (by omega) h2 (by rw [h5]; exact h4)
      have hwf : Wf n ws' (fun k => decide (k < n) && gb (S k) (S k)) := by
        refine ⟨by rw [h5]; exact hw.1, hw.2.1, fun k => ?_, fun k hk => by show (decide (k < n) && _) = false; rw [decide_eq_false (by omega)]; rfl⟩
        rw [h6, hg _ _ _ (Nat.mod_lt _ (by decide)), ← hS]
        rfl
      have hm := mset_close (p := p) (v := .slice (some ⟨b, 0, none⟩) ws.length cap) (L := [star []]) hwf
      rw [h5] at hc hm
      exact ⟨_, (hc.trans (Ent.swap.trans hm)).trans Ent.one, rfl, rfl⟩

theorem or_self (p n : Nat) (S : Nat → Bool) : Spec Tryd.prog 73 [.pointer (some ⟨p, 0, none⟩), .pointer (some ⟨p, 0, none⟩)] [mset p n S] (fun r L => r = .tuple #[] ∧ L = [mset p n (fun k => decide (k < n) && (S k || S k))]) := by
  refine Spec.of 7 Tryd.func73 rfl rfl rfl ?_
  refine swp_region ?_
  refine s_pu (pu_move rfl) ?_
  refine s_pu (pu_move rfl) ?_
  refine s_ef (ef_fn (each_self p n S 88 (fun x y => x ||| y) (fun a b => (a || b)) or1 (fun x y i hi => by simp [BitVec.getLsbD_or])) rfl rfl (by repeat (first | exact Split.nil | (apply Split.cons; (repeat (first | with_reducible exact Take.here | apply Take.there)))))) ?_
  rintro v1 L1 ⟨rfl, rfl⟩
  refine swl_app ?_
  refine swl_sub _ .nil ?_
  refine swl_nil ?_
  exact done_end _ .nil ⟨rfl, rfl⟩ (by repeat (first | exact Split.nil | (apply Split.cons; (repeat (first | with_reducible exact Take.here | apply Take.there)))))

theorem and_self (p n : Nat) (S : Nat → Bool) : Spec Tryd.prog 63 [.pointer (some ⟨p, 0, none⟩), .pointer (some ⟨p, 0, none⟩)] [mset p n S] (fun r L => r = .tuple #[] ∧ L = [mset p n (fun k => decide (k < n) && (S k && S k))]) := by
  refine Spec.of 7 Tryd.func63 rfl rfl rfl ?_
  refine swp_region ?_
  refine s_pu (pu_move rfl) ?_
  refine s_pu (pu_move rfl) ?_
  refine s_ef (ef_fn (each_self p n S 83 (fun x y => x &&& y) (fun a b => (a && b)) and1 (fun x y i hi => by simp [BitVec.getLsbD_and])) rfl rfl (by repeat (first | exact Split.nil | (apply Split.cons; (repeat (first | with_reducible exact Take.here | apply Take.there)))))) ?_
  rintro v1 L1 ⟨rfl, rfl⟩
  refine swl_app ?_
  refine swl_sub _ .nil ?_
  refine swl_nil ?_
  exact done_end _ .nil ⟨rfl, rfl⟩ (by repeat (first | exact Split.nil | (apply Split.cons; (repeat (first | with_reducible exact Take.here | apply Take.there)))))

theorem less_self (p n : Nat) (S : Nat → Bool) : Spec Tryd.prog 59 [.pointer (some ⟨p, 0, none⟩), .pointer (some ⟨p, 0, none⟩)] [mset p n S] (fun r L => r = .tuple #[] ∧ L = [mset p n (fun k => decide (k < n) && (S k && !S k))]) := by
  refine Spec.of 7 Tryd.func59 rfl rfl rfl ?_
  refine swp_region ?_
  refine s_pu (pu_move rfl) ?_
  refine s_pu (pu_move rfl) ?_
  refine s_ef (ef_fn (each_self p n S 82 (fun x y => x &&& ~~~y) (fun a b => (a && !b)) less1 (fun x y i hi => by simp [hi])) rfl rfl (by repeat (first | exact Split.nil | (apply Split.cons; (repeat (first | with_reducible exact Take.here | apply Take.there)))))) ?_
  rintro v1 L1 ⟨rfl, rfl⟩
  refine swl_app ?_
  refine swl_sub _ .nil ?_
  refine swl_nil ?_
  exact done_end _ .nil ⟨rfl, rfl⟩ (by repeat (first | exact Split.nil | (apply Split.cons; (repeat (first | with_reducible exact Take.here | apply Take.there)))))
end SX
namespace SX.Wq
open Go Go.Proofs SX
abbrev WI : Type := Int
abbrev wiV (x : WI) : Value := .int .i64 x
def wiZ : WI := 0
/-- the greatest first -/
def ltW (a b : WI) : Bool := decide (b < a)
theorem ltW_ord : Hp.Ord ltW := ⟨fun a b h => by
  have h' : @LT.lt Int _ b a := of_decide_eq_true h
  exact decide_eq_false (show ¬ @LT.lt Int _ a b by omega), fun a b c h1 h2 => by
  have h1' : ¬ @LT.lt Int _ a b := of_decide_eq_false h1
  have h2' : ¬ @LT.lt Int _ b c := of_decide_eq_false h2
  exact decide_eq_false (show ¬ @LT.lt Int _ a c by omega)⟩
theorem before_w (a b : WI) : Spec Tryd.prog 117 [wiV a, wiV b] [] (fun v L => v = .bool (ltW a b) ∧ L = []) := by
  refine Spec.of 8 Tryd.func117 rfl rfl rfl ?_
  refine swp_seq ?_
  refine swp_region ?_
  refine s_pu (pu_assign rfl) ?_
  refine swl_sub _ (.cons (t := 0) rfl (.cons (t := 1) rfl .nil)) ?_
  refine swl_nil ?_
  refine then_n ?_
  refine swp_seq ?_
  refine swp_region ?_
  refine s_pu (pu_move rfl) ?_
  refine s_pu (pu_move rfl) ?_
  refine s_pu (pu_gtr rfl rfl) ?_
  refine s_pu (pu_assign rfl) ?_
  refine swl_sub _ (.cons (t := 4) rfl .nil) ?_
  refine swl_nil ?_
  refine then_n ?_
  refine swp_ret ?_
  exact done_ret [] (.tmp rfl .nil) ⟨rfl, rfl⟩ (by repeat (first | exact Split.nil | (apply Split.cons; (repeat (first | with_reducible exact Take.here | apply Take.there)))))
end SX.Wq
namespace SX.Wq
open Go Go.Proofs SX

abbrev aW := Hp.ahd ltW
def wcs (e : WI × Nat) : List Value := [wiV e.1, .int .u64 (e.2 : Nat)]
theorem wcs_len (e : WI × Nat) : (wcs e).length = 2 := rfl
def wents (es : List (WI × Nat)) : List Value := es.flatMap wcs
theorem wents_len (es : List (WI × Nat)) : (wents es).length = es.length * 2 := by unfold wents; rw [flat_length wcs_len]
theorem wents_snoc (es : List (WI × Nat)) (x : WI) (n : Nat) : wents es ++ [wiV x, .int .u64 (n : Nat)] = wents (es ++ [(x, n)]) := by simp [wents, wcs]

theorem ahead_w (a b : WI) (n1 n2 : Nat) : Spec Tryd.prog 92 [.agg #[wiV a, .int .u64 (n1 : Nat)], .agg #[wiV b, .int .u64 (n2 : Nat)]] []
    (fun v L => v = .bool (aW (a, n1) (b, n2)) ∧ L = []) := by
  refine Spec.of 25 Tryd.func92 rfl rfl rfl ?_
  refine swp_seq ?_
  refine swp_region ?_
  refine s_ef (ef_box rfl rfl) ?_
  intro b2
  refine s_ef (ef_box rfl rfl) ?_
  intro b3
  refine s_pu (pu_assign rfl) ?_
  refine swl_sub _ (.cons (t := 2) rfl (.cons (t := 3) rfl .nil)) ?_
  refine swl_nil ?_
  refine then_n ?_
  refine swp_seq ?_
  refine swp_seq ?_
  refine swp_region ?_
  first | refine s_pu (pu_fieldAddr0 rfl) ?_ | refine s_pu (pu_fieldAddr rfl) ?_
  refine s_rd (rd_load rfl rfl) ?_
  refine s_pu (pu_iface rfl) ?_
  first | refine s_pu (pu_fieldAddr0 rfl) ?_ | refine s_pu (pu_fieldAddr rfl) ?_
  refine s_rd (rd_load rfl rfl) ?_
  refine s_ef (ef_inv rfl (before_w _ _) rfl (by repeat (first | exact Split.nil | (apply Split.cons; (repeat (first | with_reducible exact Take.here | apply Take.there)))))) ?_
  rintro v L1 ⟨rfl, rfl⟩
  refine swl_app ?_
  refine swl_sub _ (.cons (t := 2) rfl (.cons (t := 3) rfl (.cons (t := 10) rfl .nil))) ?_
  refine swl_nil ?_
  refine then_n ?_
  refine swp_cond (b := _) rfl (fun h10 => ?_) (fun h10 => ?_)
  · skip   -- 10 T
    refine swp_seq ?_
    refine swp_region ?_
    refine s_pu (pu_assign rfl) ?_
    refine swl_sub _ (.cons (t := 4) rfl .nil) ?_
    refine swl_nil ?_
    refine then_n ?_
    refine swp_ret ?_
    refine then_r ?_
    exact done_ret [] (.tmp rfl .nil) ⟨by simp [resV, h10, Hp.ahd], rfl⟩ (by repeat (first | exact Split.nil | (apply Split.cons; (repeat (first | with_reducible exact Take.here | apply Take.there)))))
  · skip   -- 10 F
    refine swp_skip ?_
    refine then_n ?_
    refine swp_seq ?_
    refine swp_region ?_
    first | refine s_pu (pu_fieldAddr0 rfl) ?_ | refine s_pu (pu_fieldAddr rfl) ?_
    refine s_rd (rd_load rfl rfl) ?_
    refine s_pu (pu_iface rfl) ?_
    first | refine s_pu (pu_fieldAddr0 rfl) ?_ | refine s_pu (pu_fieldAddr rfl) ?_
    refine s_rd (rd_load rfl rfl) ?_
    refine s_ef (ef_inv rfl (before_w _ _) rfl (by repeat (first | exact Split.nil | (apply Split.cons; (repeat (first | with_reducible exact Take.here | apply Take.there)))))) ?_
    rintro v L1 ⟨rfl, rfl⟩
    refine swl_app ?_
    refine s_pu (pu_not rfl) ?_
    refine s_pu (pu_move rfl) ?_
    refine s_split 18 rfl (fun h18 => ?_) (fun h18 => ?_)
    · skip   -- 18 T
      refine s_on rfl rfl ?_
      first | refine s_pu (pu_fieldAddr0 rfl) ?_ | refine s_pu (pu_fieldAddr rfl) ?_
      refine s_on rfl rfl ?_
      refine s_rd (rd_load rfl rfl) ?_
      refine s_on rfl rfl ?_
      first | refine s_pu (pu_fieldAddr0 rfl) ?_ | refine s_pu (pu_fieldAddr rfl) ?_
      refine s_on rfl rfl ?_
      refine s_rd (rd_load rfl rfl) ?_
      refine s_on rfl rfl ?_
      refine s_pu (pu_lss rfl rfl) ?_
      first | refine s_pu (pu_pick_t rfl rfl) ?_ | refine s_pu (pu_pick_f rfl rfl) ?_
      refine s_pu (pu_assign rfl) ?_
      refine swl_sub _ (.cons (t := 4) rfl .nil) ?_
      refine swl_nil ?_
      refine then_n ?_
      refine swp_ret ?_
      exact done_ret [] (.tmp rfl .nil) ⟨by simp [resV, h10, h18, Hp.ahd], rfl⟩ (by repeat (first | exact Split.nil | (apply Split.cons; (repeat (first | with_reducible exact Take.here | apply Take.there)))))
    · skip   -- 18 F
      refine s_off rfl rfl rfl ?_
      refine s_off rfl rfl rfl ?_
      refine s_off rfl rfl rfl ?_
      refine s_off rfl rfl rfl ?_
      refine s_off rfl rfl rfl ?_
      first | refine s_pu (pu_pick_t rfl rfl) ?_ | refine s_pu (pu_pick_f rfl rfl) ?_
      refine s_pu (pu_assign rfl) ?_
      refine swl_sub _ (.cons (t := 4) rfl .nil) ?_
      refine swl_nil ?_
      refine then_n ?_
      refine swp_ret ?_
      exact done_ret [] (.tmp rfl .nil) ⟨by simp [resV, h10, h18, Hp.ahd], rfl⟩ (by repeat (first | exact Split.nil | (apply Split.cons; (repeat (first | with_reducible exact Take.here | apply Take.there)))))

/-- a queue's struct and its array -/
def wraw (q : Nat) (es : List (WI × Nat)) (nxt : Nat) : Assn := exA (fun v : Value => [blk q 107 [v, .int .u64 (nxt : Nat)], own 109 2 v es.length (wents es)])
theorem wraw_close {q g cap nxt : Nat} {es : List (WI × Nat)} {ex : List Value} {L : List Assn} (h1 : es.length ≤ cap) (h2 : cap ≤ maxLen) (h4 : ex.length = (cap - es.length) * 2) :
    Ent (blk g 109 (wents es ++ ex) :: blk q 107 [.slice (some ⟨g, 0, none⟩) es.length cap, .int .u64 (nxt : Nat)] :: L) (wraw q es nxt :: L) :=
  (own_close (wents_len es) h4 h1 h2).trans (ent_ex (F := fun v => [blk q 107 [v, .int .u64 (nxt : Nat)], own 109 2 v es.length (wents es)]) (.slice (some ⟨g, 0, none⟩) es.length cap) (by repeat (first | exact Split.nil | (apply Split.cons; (repeat (first | with_reducible exact Take.here | apply Take.there))))))
theorem wraw_nil {q nxt : Nat} {L : List Assn} : Ent (blk q 107 [.slice none 0 0, .int .u64 (nxt : Nat)] :: L) (wraw q [] nxt :: L) :=
  Ent.imp fun m hm => ⟨.slice none 0 0, m, fun _ => none, hm, ⟨fun _ => none, fun _ => none, own_nil _ _ _, trivial, by simp, by simp, by simp⟩, by simp, fun _ _ h => h, by simp⟩

set_option maxHeartbeats 1000000 in
theorem push_w (q : Nat) (es : List (WI × Nat)) (nxt : Nat) (x : WI) (hb1 : es.length ≤ 1099511627776) (hb2 : nxt ≤ 18446744073709551614) :
    Spec Tryd.prog 79 [.pointer (some ⟨q, 0, none⟩), wiV x] [wraw q es nxt] (fun v L => v = .tuple #[] ∧ L = [wraw q (Hp.up aW es.length (es ++ [(x, nxt)]) es.length) (nxt + 1)]) := by
  refine Spec.of 84 Tryd.func79 rfl rfl rfl ?_
  refine swp_ex fun v => ?_
  refine swp_app ?_
  refine swp_seq ?_
  refine swp_seq ?_
  refine swp_region ?_
  refine s_pu (pu_move rfl) ?_
  refine s_pu (pu_ptr_eq_nil rfl rfl) ?_
  refine swl_sub _ (.cons (t := 0) rfl (.cons (t := 1) rfl (.cons (t := 7) rfl .nil))) ?_
  refine swl_nil ?_
  refine then_n ?_
  refine swp_cond (b := _) rfl (fun h7 => by cases h7) (fun h7 => ?_)
  refine swp_skip ?_
  refine then_n ?_
  refine swp_seq ?_
  refine swp_draw [4, 9] _ [] (by simp only [List.append_nil]; exact Ent.refl _) (by kernel_rfl) ?_
  refine d_pu 0 rfl (pu_move rfl) (by kernel_rfl) (by kernel_rfl) (by kernel_rfl) ?_
  refine d_pu 1 rfl (pu_move rfl) (by kernel_rfl) (by kernel_rfl) (by kernel_rfl) ?_
  first | refine d_pu 2 rfl (pu_nilCheck rfl) (by kernel_rfl) (by kernel_rfl) (by kernel_rfl) ?_ | refine d_pu 2 rfl (pu_nilCheck_fn rfl) (by kernel_rfl) (by kernel_rfl) (by kernel_rfl) ?_ | refine d_pu 2 rfl (pu_nilCheck_if rfl) (by kernel_rfl) (by kernel_rfl) (by kernel_rfl) ?_
  first | refine d_pu 3 rfl (pu_fieldAddr0 rfl) (by kernel_rfl) (by kernel_rfl) (by kernel_rfl) ?_ | refine d_pu 3 rfl (pu_fieldAddr rfl) (by kernel_rfl) (by kernel_rfl) (by kernel_rfl) ?_
  refine d_rd 4 rfl (rd_load rfl rfl) rfl (by kernel_rfl) (by kernel_rfl) (by kernel_rfl) ?_
  refine d_pu 5 rfl (pu_move rfl) (by kernel_rfl) (by kernel_rfl) (by kernel_rfl) ?_
  refine d_pu 6 rfl (pu_move rfl) (by kernel_rfl) (by kernel_rfl) (by kernel_rfl) ?_
  first | refine d_pu 7 rfl (pu_nilCheck rfl) (by kernel_rfl) (by kernel_rfl) (by kernel_rfl) ?_ | refine d_pu 7 rfl (pu_nilCheck_fn rfl) (by kernel_rfl) (by kernel_rfl) (by kernel_rfl) ?_ | refine d_pu 7 rfl (pu_nilCheck_if rfl) (by kernel_rfl) (by kernel_rfl) (by kernel_rfl) ?_
  first | refine d_pu 8 rfl (pu_fieldAddr0 rfl) (by kernel_rfl) (by kernel_rfl) (by kernel_rfl) ?_ | refine d_pu 8 rfl (pu_fieldAddr rfl) (by kernel_rfl) (by kernel_rfl) (by kernel_rfl) ?_
  refine d_rd 9 rfl (rd_load rfl rfl) rfl (by kernel_rfl) (by kernel_rfl) (by kernel_rfl) ?_
  refine d_pu 10 rfl (pu_bld (qs := [(0, _), (1, _)]) rfl) (by kernel_rfl) (by kernel_rfl) (by kernel_rfl) ?_
  refine d_eft 11 rfl (by kernel_rfl) (ef_bldS (qs := [(0, _)]) rfl rfl rfl) ?_
  intro b19
  refine ⟨_, Split.ent (by repeat (first | exact Split.nil | (apply Split.cons; (repeat (first | with_reducible exact Take.here | apply Take.there))))), ?_⟩
  first | refine d_fint 12 rfl (by kernel_rfl) (by kernel_rfl) (ef_append_lit (l := es.length) (m := 1) rfl rfl (by repeat (first | exact Split.nil | (apply Split.cons; (repeat (first | with_reducible exact Take.here | apply Take.there))))) (by simp only [maxLen]; omega) (by omega)) ?_ | refine d_finf 12 rfl (by kernel_rfl) (by kernel_rfl) (ef_append_lit (l := es.length) (m := 1) rfl rfl (by repeat (first | exact Split.nil | (apply Split.cons; (repeat (first | with_reducible exact Take.here | apply Take.there))))) (by simp only [maxLen]; omega) (by omega)) ?_
  rintro v' hv'
  obtain ⟨g, cap, rfl⟩ := hv' (by decide)
  rw [wents_snoc]
  first | refine d_pu 13 rfl (pu_nilCheck rfl) (by kernel_rfl) (by kernel_rfl) (by kernel_rfl) ?_ | refine d_pu 13 rfl (pu_nilCheck_fn rfl) (by kernel_rfl) (by kernel_rfl) (by kernel_rfl) ?_ | refine d_pu 13 rfl (pu_nilCheck_if rfl) (by kernel_rfl) (by kernel_rfl) (by kernel_rfl) ?_
  first | refine d_pu 14 rfl (pu_fieldAddr0 rfl) (by kernel_rfl) (by kernel_rfl) (by kernel_rfl) ?_ | refine d_pu 14 rfl (pu_fieldAddr rfl) (by kernel_rfl) (by kernel_rfl) (by kernel_rfl) ?_
  first | refine d_fin0t 15 rfl (by kernel_rfl) (by kernel_rfl) (ef_store rfl rfl rfl) ?_ | refine d_fin0f 15 rfl (by kernel_rfl) (by kernel_rfl) (ef_store rfl rfl rfl) ?_
  refine d_sub _ (.cons (t := 0) rfl .nil) ?_
  first | refine d_nilt (by kernel_rfl) ?_ | refine d_nilf (by kernel_rfl) ?_
  refine then_n ?_
  refine swp_seq ?_
  refine swp_region ?_
  refine s_pu (pu_move rfl) ?_
  first | refine s_pu (pu_nilCheck rfl) ?_ | refine s_pu (pu_nilCheck_fn rfl) ?_ | refine s_pu (pu_nilCheck_if rfl) ?_
  first | refine s_pu (pu_fieldAddr0 rfl) ?_ | refine s_pu (pu_fieldAddr rfl) ?_
  refine s_rd (rd_load rfl rfl) ?_
  refine s_pu (pu_add_u64 ((nxt + 1 : Nat) : Int) rfl rfl (by omega) (by omega) (by omega)) ?_
  first | refine s_pu (pu_nilCheck rfl) ?_ | refine s_pu (pu_nilCheck_fn rfl) ?_ | refine s_pu (pu_nilCheck_if rfl) ?_
  first | refine s_pu (pu_fieldAddr0 rfl) ?_ | refine s_pu (pu_fieldAddr rfl) ?_
  refine s_ef0 (ef_store rfl rfl rfl) ?_
  refine swl_sub _ (.cons (t := 0) rfl .nil) ?_
  refine swl_nil ?_
  refine then_n ?_
  refine swp_seq ?_
  refine swp_region ?_
  refine s_pu (pu_move rfl) ?_
  first | refine s_pu (pu_nilCheck rfl) ?_ | refine s_pu (pu_nilCheck_fn rfl) ?_ | refine s_pu (pu_nilCheck_if rfl) ?_
  first | refine s_pu (pu_fieldAddr0 rfl) ?_ | refine s_pu (pu_fieldAddr rfl) ?_
  refine s_rd (rd_load rfl rfl) ?_
  refine s_pu (pu_len rfl) ?_
  refine s_pu (pu_sub_as (es.length : Int) rfl rfl (by omega) (by omega) (by omega)) ?_
  refine s_pu (pu_assign rfl) ?_
  refine swl_sub _ (.cons (t := 0) rfl (.cons (t := 4) rfl .nil)) ?_
  refine swl_own (by repeat (first | with_reducible exact Take.here | apply Take.there)) (fun h _ _ => by cases h) (fun hb cap' ex hv h1 h2 h3 h4 => ?_)
  cases hv
  have hlen : (es ++ [(x, nxt)]).length = es.length + 1 := by simp
  refine swl_nil ?_
  refine then_n ?_
  refine swp_block ?_
  refine swp_loop (ι := Nat × List (WI × Nat)) (fun k env L => env = [(0, .pointer (some ⟨q, 0, none⟩)), (4, .int .i64 (k.1 : Nat))] ∧
    L = [blk g 109 (wents k.2 ++ ex), blk q 107 [.slice (some ⟨g, 0, none⟩) (es.length + 1) cap, .int .u64 ((nxt + 1 : Nat) : Int)]] ∧
    k.2.length = es.length + 1 ∧ k.1 ≤ es.length ∧ Hp.up aW k.1 k.2 k.1 = Hp.up aW es.length (es ++ [(x, nxt)]) es.length) (fun k => k.1) (es.length, es ++ [(x, nxt)]) ⟨rfl, rfl, hlen, Nat.le_refl _, rfl⟩ ?_
  rintro ⟨i, fs⟩ env L ⟨rfl, rfl, hl, hi, hup⟩
  simp only [] at hl hi hup
  dsimp only
  refine swp_seq ?_
  refine swp_seq ?_
  refine swp_region ?_
  refine s_pu (pu_move rfl) ?_
  refine s_pu (pu_gtr rfl rfl) ?_
  refine swl_sub _ (.cons (t := 0) rfl (.cons (t := 4) rfl (.cons (t := 37) rfl .nil))) ?_
  refine swl_nil ?_
  refine then_n ?_
  refine swp_cond (b := _) rfl (fun h37 => ?_) (fun h37 => ?_)
  · skip   -- 37 T
    have h37' : 0 < i := by simpa using h37
    obtain ⟨ei, hei⟩ : ∃ e, fs[i]? = some e := ⟨_, List.getElem?_eq_getElem (by omega)⟩
    obtain ⟨ep, hep⟩ : ∃ e, fs[(i - 1) / 2]? = some e := ⟨_, List.getElem?_eq_getElem (by omega)⟩
    refine swp_skip ?_
    refine then_n ?_
    refine swp_block ?_
    refine swp_seq ?_
    refine swp_region ?_
    refine s_pu (pu_move rfl) ?_
    first | refine s_pu (pu_sub_in rfl rfl (by omega) (by omega)) ?_ | refine s_pu (pu_sub rfl rfl) ?_
    refine s_pu (pu_quo_as (((i - 1) / 2 : Nat) : Int) rfl rfl (by omega) (by omega) (by omega) (by omega)) ?_
    refine s_pu (pu_assign rfl) ?_
    refine swl_sub _ (.cons (t := 0) rfl (.cons (t := 4) rfl (.cons (t := 5) rfl .nil))) ?_
    refine swl_nil ?_
    refine then_n ?_
    refine swp_seq ?_
    refine swp_seq ?_
    refine swp_draw [3, 6, 10, 13] _ [] (by simp only [List.append_nil]; exact Ent.refl _) (by kernel_rfl) ?_
    refine d_pu 0 rfl (pu_move rfl) (by kernel_rfl) (by kernel_rfl) (by kernel_rfl) ?_
    first | refine d_pu 1 rfl (pu_nilCheck rfl) (by kernel_rfl) (by kernel_rfl) (by kernel_rfl) ?_ | refine d_pu 1 rfl (pu_nilCheck_fn rfl) (by kernel_rfl) (by kernel_rfl) (by kernel_rfl) ?_ | refine d_pu 1 rfl (pu_nilCheck_if rfl) (by kernel_rfl) (by kernel_rfl) (by kernel_rfl) ?_
    first | refine d_pu 2 rfl (pu_fieldAddr0 rfl) (by kernel_rfl) (by kernel_rfl) (by kernel_rfl) ?_ | refine d_pu 2 rfl (pu_fieldAddr rfl) (by kernel_rfl) (by kernel_rfl) (by kernel_rfl) ?_
    refine d_rd 3 rfl (rd_load rfl rfl) rfl (by kernel_rfl) (by kernel_rfl) (by kernel_rfl) ?_
    refine d_pu 4 rfl (pu_move rfl) (by kernel_rfl) (by kernel_rfl) (by kernel_rfl) ?_
    refine d_pu 5 rfl (pu_indexAddr (i * 2) rfl rfl (by omega) (by omega) (by simp)) (by kernel_rfl) (by kernel_rfl) (by kernel_rfl) ?_
    refine d_rd 6 rfl (rd_loadA (vs := wcs ei) rfl (by rfl) (flat_get wcs_len fs ex i ei hei)) rfl (by kernel_rfl) (by kernel_rfl) (by kernel_rfl) ?_
    refine d_pu 7 rfl (pu_move rfl) (by kernel_rfl) (by kernel_rfl) (by kernel_rfl) ?_
    first | refine d_pu 8 rfl (pu_nilCheck rfl) (by kernel_rfl) (by kernel_rfl) (by kernel_rfl) ?_ | refine d_pu 8 rfl (pu_nilCheck_fn rfl) (by kernel_rfl) (by kernel_rfl) (by kernel_rfl) ?_ | refine d_pu 8 rfl (pu_nilCheck_if rfl) (by kernel_rfl) (by kernel_rfl) (by kernel_rfl) ?_
    first | refine d_pu 9 rfl (pu_fieldAddr0 rfl) (by kernel_rfl) (by kernel_rfl) (by kernel_rfl) ?_ | refine d_pu 9 rfl (pu_fieldAddr rfl) (by kernel_rfl) (by kernel_rfl) (by kernel_rfl) ?_
    refine d_rd 10 rfl (rd_load rfl rfl) rfl (by kernel_rfl) (by kernel_rfl) (by kernel_rfl) ?_
    refine d_pu 11 rfl (pu_move rfl) (by kernel_rfl) (by kernel_rfl) (by kernel_rfl) ?_
    refine d_pu 12 rfl (pu_indexAddr ((i - 1) / 2 * 2) rfl rfl (by omega) (by omega) (by omega)) (by kernel_rfl) (by kernel_rfl) (by kernel_rfl) ?_
    refine d_rd 13 rfl (rd_loadA (vs := wcs ep) rfl (by rfl) (flat_get wcs_len fs ex ((i - 1) / 2) ep hep)) rfl (by kernel_rfl) (by kernel_rfl) (by kernel_rfl) ?_
    first | refine d_fint 14 rfl (by kernel_rfl) (by kernel_rfl) (ef_fn (ahead_w _ _ _ _) rfl rfl (by repeat (first | exact Split.nil | (apply Split.cons; (repeat (first | with_reducible exact Take.here | apply Take.there)))))) ?_ | refine d_finf 14 rfl (by kernel_rfl) (by kernel_rfl) (ef_fn (ahead_w _ _ _ _) rfl rfl (by repeat (first | exact Split.nil | (apply Split.cons; (repeat (first | with_reducible exact Take.here | apply Take.there)))))) ?_
    rintro v L1 ⟨rfl, rfl⟩
    refine swd_app ?_
    refine d_pu 15 rfl (pu_not rfl) (by kernel_rfl) (by kernel_rfl) (by kernel_rfl) ?_
    refine d_sub _ (.cons (t := 0) rfl (.cons (t := 4) rfl (.cons (t := 5) rfl (.cons (t := 56) rfl .nil)))) ?_
    first | refine d_nilt (by kernel_rfl) ?_ | refine d_nilf (by kernel_rfl) ?_
    refine then_n ?_
    refine swp_cond (b := _) rfl (fun h56 => ?_) (fun h56 => ?_)
    · skip   -- 56 T
      have hT : Hp.up aW es.length (es ++ [(x, nxt)]) es.length = fs := by
        rw [← hup]; exact Hp.up_stop hei hep (not_t h56)
      refine swp_ret ?_
      refine then_r ?_
      refine block_r ?_
      refine then_r ?_
      refine block_r ?_
      rw [hT]
      have hl' : fs.length = es.length + 1 := hl
      rw [← hl'] at h1 h4 ⊢
      first | exact done_retE [wraw q fs (nxt + 1)] .nil ⟨rfl, rfl⟩ ((Split.ent' (K := [blk g 109 (wents fs ++ ex), blk q 107 [.slice (some ⟨g, 0, none⟩) fs.length cap, .int .u64 ((nxt + 1 : Nat) : Int)]]) (by repeat (first | exact Split.nil | (apply Split.cons; (repeat (first | with_reducible exact Take.here | apply Take.there)))))).trans (wraw_close h1 h2 h4)) | exact done_endE [wraw q fs (nxt + 1)] .nil ⟨rfl, rfl⟩ ((Split.ent' (K := [blk g 109 (wents fs ++ ex), blk q 107 [.slice (some ⟨g, 0, none⟩) fs.length cap, .int .u64 ((nxt + 1 : Nat) : Int)]]) (by repeat (first | exact Split.nil | (apply Split.cons; (repeat (first | with_reducible exact Take.here | apply Take.there)))))).trans (wraw_close h1 h2 h4))
    · skip   -- 56 F
      have hel : (wents fs).length = (es.length + 1) * 2 := by rw [wents_len, hl]
      refine swp_skip ?_
      refine then_n ?_
      refine swp_seq ?_
      refine swp_draw [3, 8, 13, 16, 20, 23] _ [] (by simp only [List.append_nil]; exact Ent.refl _) (by kernel_rfl) ?_
      refine d_pu 0 rfl (pu_move rfl) (by kernel_rfl) (by kernel_rfl) (by kernel_rfl) ?_
      first | refine d_pu 1 rfl (pu_nilCheck rfl) (by kernel_rfl) (by kernel_rfl) (by kernel_rfl) ?_ | refine d_pu 1 rfl (pu_nilCheck_fn rfl) (by kernel_rfl) (by kernel_rfl) (by kernel_rfl) ?_ | refine d_pu 1 rfl (pu_nilCheck_if rfl) (by kernel_rfl) (by kernel_rfl) (by kernel_rfl) ?_
      first | refine d_pu 2 rfl (pu_fieldAddr0 rfl) (by kernel_rfl) (by kernel_rfl) (by kernel_rfl) ?_ | refine d_pu 2 rfl (pu_fieldAddr rfl) (by kernel_rfl) (by kernel_rfl) (by kernel_rfl) ?_
      refine d_rd 3 rfl (rd_load rfl rfl) rfl (by kernel_rfl) (by kernel_rfl) (by kernel_rfl) ?_
      refine d_pu 4 rfl (pu_move rfl) (by kernel_rfl) (by kernel_rfl) (by kernel_rfl) ?_
      refine d_pu 5 rfl (pu_move rfl) (by kernel_rfl) (by kernel_rfl) (by kernel_rfl) ?_
      first | refine d_pu 6 rfl (pu_nilCheck rfl) (by kernel_rfl) (by kernel_rfl) (by kernel_rfl) ?_ | refine d_pu 6 rfl (pu_nilCheck_fn rfl) (by kernel_rfl) (by kernel_rfl) (by kernel_rfl) ?_ | refine d_pu 6 rfl (pu_nilCheck_if rfl) (by kernel_rfl) (by kernel_rfl) (by kernel_rfl) ?_
      first | refine d_pu 7 rfl (pu_fieldAddr0 rfl) (by kernel_rfl) (by kernel_rfl) (by kernel_rfl) ?_ | refine d_pu 7 rfl (pu_fieldAddr rfl) (by kernel_rfl) (by kernel_rfl) (by kernel_rfl) ?_
      refine d_rd 8 rfl (rd_load rfl rfl) rfl (by kernel_rfl) (by kernel_rfl) (by kernel_rfl) ?_
      refine d_pu 9 rfl (pu_move rfl) (by kernel_rfl) (by kernel_rfl) (by kernel_rfl) ?_
      refine d_pu 10 rfl (pu_move rfl) (by kernel_rfl) (by kernel_rfl) (by kernel_rfl) ?_
      first | refine d_pu 11 rfl (pu_nilCheck rfl) (by kernel_rfl) (by kernel_rfl) (by kernel_rfl) ?_ | refine d_pu 11 rfl (pu_nilCheck_fn rfl) (by kernel_rfl) (by kernel_rfl) (by kernel_rfl) ?_ | refine d_pu 11 rfl (pu_nilCheck_if rfl) (by kernel_rfl) (by kernel_rfl) (by kernel_rfl) ?_
      first | refine d_pu 12 rfl (pu_fieldAddr0 rfl) (by kernel_rfl) (by kernel_rfl) (by kernel_rfl) ?_ | refine d_pu 12 rfl (pu_fieldAddr rfl) (by kernel_rfl) (by kernel_rfl) (by kernel_rfl) ?_
      refine d_rd 13 rfl (rd_load rfl rfl) rfl (by kernel_rfl) (by kernel_rfl) (by kernel_rfl) ?_
      refine d_pu 14 rfl (pu_move rfl) (by kernel_rfl) (by kernel_rfl) (by kernel_rfl) ?_
      refine d_pu 15 rfl (pu_indexAddr ((i - 1) / 2 * 2) rfl rfl (by omega) (by omega) (by omega)) (by kernel_rfl) (by kernel_rfl) (by kernel_rfl) ?_
      refine d_rd 16 rfl (rd_loadA (vs := wcs ep) rfl (by rfl) (flat_get wcs_len fs ex ((i - 1) / 2) ep hep)) rfl (by kernel_rfl) (by kernel_rfl) (by kernel_rfl) ?_
      refine d_pu 17 rfl (pu_move rfl) (by kernel_rfl) (by kernel_rfl) (by kernel_rfl) ?_
      first | refine d_pu 18 rfl (pu_nilCheck rfl) (by kernel_rfl) (by kernel_rfl) (by kernel_rfl) ?_ | refine d_pu 18 rfl (pu_nilCheck_fn rfl) (by kernel_rfl) (by kernel_rfl) (by kernel_rfl) ?_ | refine d_pu 18 rfl (pu_nilCheck_if rfl) (by kernel_rfl) (by kernel_rfl) (by kernel_rfl) ?_
      first | refine d_pu 19 rfl (pu_fieldAddr0 rfl) (by kernel_rfl) (by kernel_rfl) (by kernel_rfl) ?_ | refine d_pu 19 rfl (pu_fieldAddr rfl) (by kernel_rfl) (by kernel_rfl) (by kernel_rfl) ?_
      refine d_rd 20 rfl (rd_load rfl rfl) rfl (by kernel_rfl) (by kernel_rfl) (by kernel_rfl) ?_
      refine d_pu 21 rfl (pu_move rfl) (by kernel_rfl) (by kernel_rfl) (by kernel_rfl) ?_
      refine d_pu 22 rfl (pu_indexAddr (i * 2) rfl rfl (by omega) (by omega) (by omega)) (by kernel_rfl) (by kernel_rfl) (by kernel_rfl) ?_
      refine d_rd 23 rfl (rd_loadA (vs := wcs ei) rfl (by rfl) (flat_get wcs_len fs ex i ei hei)) rfl (by kernel_rfl) (by kernel_rfl) (by kernel_rfl) ?_
      refine d_pu 24 rfl (pu_indexAddr (i * 2) rfl rfl (by omega) (by omega) (by omega)) (by kernel_rfl) (by kernel_rfl) (by kernel_rfl) ?_
      first | refine d_fin0t 25 rfl (by kernel_rfl) (by kernel_rfl) (ef_storeAs (vs := wcs ep) rfl rfl (flat_over wcs_len fs ex i ep (by omega)) (by rw [List.length_append, ← wents, hel, wcs_len]; omega) rfl rfl) ?_ | refine d_fin0f 25 rfl (by kernel_rfl) (by kernel_rfl) (ef_storeAs (vs := wcs ep) rfl rfl (flat_over wcs_len fs ex i ep (by omega)) (by rw [List.length_append, ← wents, hel, wcs_len]; omega) rfl rfl) ?_
      refine d_pu 26 rfl (pu_indexAddr ((i - 1) / 2 * 2) rfl rfl (by omega) (by omega) (by omega)) (by kernel_rfl) (by kernel_rfl) (by kernel_rfl) ?_
      first | refine d_fin0t 27 rfl (by kernel_rfl) (by kernel_rfl) (ef_storeAs (vs := wcs ei) rfl rfl (flat_over wcs_len (fs.set i ep) ex ((i - 1) / 2) ei (by simp; omega)) (by rw [List.length_append, flat_length wcs_len, wcs_len, List.length_set]; omega) rfl rfl) ?_ | refine d_fin0f 27 rfl (by kernel_rfl) (by kernel_rfl) (ef_storeAs (vs := wcs ei) rfl rfl (flat_over wcs_len (fs.set i ep) ex ((i - 1) / 2) ei (by simp; omega)) (by rw [List.length_append, flat_length wcs_len, wcs_len, List.length_set]; omega) rfl rfl) ?_
      refine d_sub _ (.cons (t := 0) rfl (.cons (t := 5) rfl .nil)) ?_
      first | refine d_nilt (by kernel_rfl) ?_ | refine d_nilf (by kernel_rfl) ?_
      refine then_n ?_
      refine swp_region ?_
      refine s_pu (pu_move rfl) ?_
      refine s_pu (pu_assign rfl) ?_
      refine swl_sub _ (.cons (t := 0) rfl (.cons (t := 4) rfl .nil)) ?_
      refine swl_nil ?_
      refine block_n ?_
      refine then_n ⟨((i - 1) / 2, (fs.set i ep).set ((i - 1) / 2) ei), ⟨rfl, rfl, by simp [hl], by show (i - 1) / 2 ≤ es.length; omega, ?_⟩, by show (i - 1) / 2 < i; omega⟩
      rw [← hup, Hp.up_step h37' hei hep (not_f h56)]
  · skip   -- 37 F
    obtain rfl : i = 0 := by simp at h37; omega
    have hT : Hp.up aW es.length (es ++ [(x, nxt)]) es.length = fs := by rw [← hup]; rfl
    refine swp_exit ?_
    refine then_x ?_
    refine then_x ?_
    refine block_hit rfl ?_
    rw [hT]
    have hl' : fs.length = es.length + 1 := hl
    rw [← hl'] at h1 h4 ⊢
    first | exact done_retE [wraw q fs (nxt + 1)] .nil ⟨rfl, rfl⟩ ((Split.ent' (K := [blk g 109 (wents fs ++ ex), blk q 107 [.slice (some ⟨g, 0, none⟩) fs.length cap, .int .u64 ((nxt + 1 : Nat) : Int)]]) (by repeat (first | exact Split.nil | (apply Split.cons; (repeat (first | with_reducible exact Take.here | apply Take.there)))))).trans (wraw_close h1 h2 h4)) | exact done_endE [wraw q fs (nxt + 1)] .nil ⟨rfl, rfl⟩ ((Split.ent' (K := [blk g 109 (wents fs ++ ex), blk q 107 [.slice (some ⟨g, 0, none⟩) fs.length cap, .int .u64 ((nxt + 1 : Nat) : Int)]]) (by repeat (first | exact Split.nil | (apply Split.cons; (repeat (first | with_reducible exact Take.here | apply Take.there)))))).trans (wraw_close h1 h2 h4))
end SX.Wq
