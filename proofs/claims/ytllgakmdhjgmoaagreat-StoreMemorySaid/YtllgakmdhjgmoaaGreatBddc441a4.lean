/- A part of the proof: walks of the program's functions, and the rules by which they go. -/
import Derived.Test.YtllgakmdhjgmoaaGreatProg
import Derived.Test.YtllgakmdhjgmoaaGreatBc7e21835
import Derived.Test.YtllgakmdhjgmoaaGreatB9a0af180
import Derived.Shelf.Small.Bits
import Derived.Shelf.Strconv.Itoa0
import Derived.Shelf.Sort.Plain
import Derived.Shelf.Slices.Turned
import Derived.Ground.Names2Prog
import Derived.Shelf.Slices.Clone
import Derived.Shelf.Slices.In.SortNone
import Derived.Ground.SlgnProg
import Derived.Shelf.SlicesE.Clone
namespace SX
open Go Go.Proofs
instance : Body Tryz.prog 2 := ⟨_, Tryz.func2, rfl, by decide⟩
instance : Body Tryz.prog 3 := ⟨_, Tryz.func3, rfl, by decide⟩
instance : Body Tryz.prog 4 := ⟨_, Tryz.func4, rfl, by decide⟩
instance : Body Tryz.prog 5 := ⟨_, Tryz.func5, rfl, by decide⟩
instance : Body Tryz.prog 6 := ⟨_, Tryz.func6, rfl, by decide⟩
instance : Body Tryz.prog 7 := ⟨_, Tryz.func7, rfl, by decide⟩
instance : Body Tryz.prog 8 := ⟨_, Tryz.func8, rfl, by decide⟩
instance : Body Tryz.prog 9 := ⟨_, Tryz.func9, rfl, by decide⟩
instance : Body Tryz.prog 10 := ⟨_, Tryz.func10, rfl, by decide⟩
instance : Body Tryz.prog 11 := ⟨_, Tryz.func11, rfl, by decide⟩
instance : Body Tryz.prog 12 := ⟨_, Tryz.func12, rfl, by decide⟩
instance : Body Tryz.prog 13 := ⟨_, Tryz.func13, rfl, by decide⟩
instance : Body Tryz.prog 14 := ⟨_, Tryz.func14, rfl, by decide⟩
instance : Body Tryz.prog 15 := ⟨_, Tryz.func15, rfl, by decide⟩
instance : Body Tryz.prog 16 := ⟨_, Tryz.func16, rfl, by decide⟩
instance : Body Tryz.prog 17 := ⟨_, Tryz.func17, rfl, by decide⟩
instance : Body Tryz.prog 18 := ⟨_, Tryz.func18, rfl, by decide⟩
instance : Body Tryz.prog 19 := ⟨_, Tryz.func19, rfl, by decide⟩
instance : Body Tryz.prog 20 := ⟨_, Tryz.func20, rfl, by decide⟩
instance : Body Tryz.prog 21 := ⟨_, Tryz.func21, rfl, by decide⟩
instance : Body Tryz.prog 22 := ⟨_, Tryz.func22, rfl, by decide⟩
instance : Body Tryz.prog 23 := ⟨_, Tryz.func23, rfl, by decide⟩
instance : Body Tryz.prog 24 := ⟨_, Tryz.func24, rfl, by decide⟩
instance : Body Tryz.prog 25 := ⟨_, Tryz.func25, rfl, by decide⟩
instance : Body Tryz.prog 26 := ⟨_, Tryz.func26, rfl, by decide⟩
instance : Body Tryz.prog 27 := ⟨_, Tryz.func27, rfl, by decide⟩
instance : Body Tryz.prog 28 := ⟨_, Tryz.func28, rfl, by decide⟩
instance : Body Tryz.prog 29 := ⟨_, Tryz.func29, rfl, by decide⟩
instance : Body Tryz.prog 30 := ⟨_, Tryz.func30, rfl, by decide⟩
instance : Body Tryz.prog 31 := ⟨_, Tryz.func31, rfl, by decide⟩
instance : Body Tryz.prog 32 := ⟨_, Tryz.func32, rfl, by decide⟩
instance : Body Tryz.prog 33 := ⟨_, Tryz.func33, rfl, by decide⟩
instance : Body Tryz.prog 34 := ⟨_, Tryz.func34, rfl, by decide⟩
instance : Body Tryz.prog 35 := ⟨_, Tryz.func35, rfl, by decide⟩
instance : Body Tryz.prog 36 := ⟨_, Tryz.func36, rfl, by decide⟩
instance : Body Tryz.prog 37 := ⟨_, Tryz.func37, rfl, by decide⟩
instance : Body Tryz.prog 38 := ⟨_, Tryz.func38, rfl, by decide⟩
instance : Body Tryz.prog 39 := ⟨_, Tryz.func39, rfl, by decide⟩
instance : Body Tryz.prog 40 := ⟨_, Tryz.func40, rfl, by decide⟩
instance : Body Tryz.prog 41 := ⟨_, Tryz.func41, rfl, by decide⟩
instance : Body Tryz.prog 42 := ⟨_, Tryz.func42, rfl, by decide⟩
instance : Body Tryz.prog 43 := ⟨_, Tryz.func43, rfl, by decide⟩
instance : Body Tryz.prog 44 := ⟨_, Tryz.func44, rfl, by decide⟩
instance : Body Tryz.prog 45 := ⟨_, Tryz.func45, rfl, by decide⟩
instance : Body Tryz.prog 46 := ⟨_, Tryz.func46, rfl, by decide⟩
instance : Body Tryz.prog 47 := ⟨_, Tryz.func47, rfl, by decide⟩
instance : Body Tryz.prog 48 := ⟨_, Tryz.func48, rfl, by decide⟩
instance : Body Tryz.prog 49 := ⟨_, Tryz.func49, rfl, by decide⟩
instance : Body Tryz.prog 50 := ⟨_, Tryz.func50, rfl, by decide⟩
instance : Body Tryz.prog 51 := ⟨_, Tryz.func51, rfl, by decide⟩
instance : Body Tryz.prog 52 := ⟨_, Tryz.func52, rfl, by decide⟩
instance : Body Tryz.prog 53 := ⟨_, Tryz.func53, rfl, by decide⟩
instance : Body Tryz.prog 54 := ⟨_, Tryz.func54, rfl, by decide⟩
instance : Body Tryz.prog 55 := ⟨_, Tryz.func55, rfl, by decide⟩
instance : Body Tryz.prog 56 := ⟨_, Tryz.func56, rfl, by decide⟩
instance : Body Tryz.prog 57 := ⟨_, Tryz.func57, rfl, by decide⟩
instance : Body Tryz.prog 58 := ⟨_, Tryz.func58, rfl, by decide⟩
instance : Body Tryz.prog 59 := ⟨_, Tryz.func59, rfl, by decide⟩
instance : Body Tryz.prog 60 := ⟨_, Tryz.func60, rfl, by decide⟩
instance : Body Tryz.prog 61 := ⟨_, Tryz.func61, rfl, by decide⟩
instance : Body Tryz.prog 62 := ⟨_, Tryz.func62, rfl, by decide⟩
instance : Body Tryz.prog 63 := ⟨_, Tryz.func63, rfl, by decide⟩
instance : Body Tryz.prog 64 := ⟨_, Tryz.func64, rfl, by decide⟩
instance : Body Tryz.prog 65 := ⟨_, Tryz.func65, rfl, by decide⟩
instance : Body Tryz.prog 66 := ⟨_, Tryz.func66, rfl, by decide⟩
instance : Body Tryz.prog 67 := ⟨_, Tryz.func67, rfl, by decide⟩
instance : Body Tryz.prog 68 := ⟨_, Tryz.func68, rfl, by decide⟩
instance : Body Tryz.prog 69 := ⟨_, Tryz.func69, rfl, by decide⟩
instance : Body Tryz.prog 70 := ⟨_, Tryz.func70, rfl, by decide⟩
instance : Body Tryz.prog 71 := ⟨_, Tryz.func71, rfl, by decide⟩
instance : Body Tryz.prog 72 := ⟨_, Tryz.func72, rfl, by decide⟩
instance : Body Tryz.prog 73 := ⟨_, Tryz.func73, rfl, by decide⟩
instance : Body Tryz.prog 74 := ⟨_, Tryz.func74, rfl, by decide⟩
instance : Body Tryz.prog 75 := ⟨_, Tryz.func75, rfl, by decide⟩
instance : Body Tryz.prog 76 := ⟨_, Tryz.func76, rfl, by decide⟩
instance : Body Tryz.prog 77 := ⟨_, Tryz.func77, rfl, by decide⟩
instance : Body Tryz.prog 78 := ⟨_, Tryz.func78, rfl, by decide⟩
instance : Body Tryz.prog 79 := ⟨_, Tryz.func79, rfl, by decide⟩
instance : Body Tryz.prog 80 := ⟨_, Tryz.func80, rfl, by decide⟩
instance : Body Tryz.prog 81 := ⟨_, Tryz.func81, rfl, by decide⟩
instance : Body Tryz.prog 82 := ⟨_, Tryz.func82, rfl, by decide⟩
instance : Body Tryz.prog 83 := ⟨_, Tryz.func83, rfl, by decide⟩
instance : Body Tryz.prog 84 := ⟨_, Tryz.func84, rfl, by decide⟩
instance : Body Tryz.prog 85 := ⟨_, Tryz.func85, rfl, by decide⟩
instance : Body Tryz.prog 86 := ⟨_, Tryz.func86, rfl, by decide⟩
instance : Body Tryz.prog 87 := ⟨_, Tryz.func87, rfl, by decide⟩
instance : Body Tryz.prog 88 := ⟨_, Tryz.func88, rfl, by decide⟩
instance : Body Tryz.prog 89 := ⟨_, Tryz.func89, rfl, by decide⟩
instance : Body Tryz.prog 90 := ⟨_, Tryz.func90, rfl, by decide⟩
instance : Body Tryz.prog 91 := ⟨_, Tryz.func91, rfl, by decide⟩
instance : Body Tryz.prog 92 := ⟨_, Tryz.func92, rfl, by decide⟩
instance : Body Tryz.prog 93 := ⟨_, Tryz.func93, rfl, by decide⟩
instance : Body Tryz.prog 94 := ⟨_, Tryz.func94, rfl, by decide⟩
instance : Body Tryz.prog 95 := ⟨_, Tryz.func95, rfl, by decide⟩
instance : Body Tryz.prog 96 := ⟨_, Tryz.func96, rfl, by decide⟩
instance : Body Tryz.prog 97 := ⟨_, Tryz.func97, rfl, by decide⟩
instance : Body Tryz.prog 98 := ⟨_, Tryz.func98, rfl, by decide⟩
instance : Body Tryz.prog 99 := ⟨_, Tryz.func99, rfl, by decide⟩
instance : Body Tryz.prog 100 := ⟨_, Tryz.func100, rfl, by decide⟩
instance : Body Tryz.prog 101 := ⟨_, Tryz.func101, rfl, by decide⟩
instance : Body Tryz.prog 102 := ⟨_, Tryz.func102, rfl, by decide⟩
instance : Body Tryz.prog 103 := ⟨_, Tryz.func103, rfl, by decide⟩
instance : Body Tryz.prog 104 := ⟨_, Tryz.func104, rfl, by decide⟩
instance : Body Tryz.prog 105 := ⟨_, Tryz.func105, rfl, by decide⟩
instance : Body Tryz.prog 106 := ⟨_, Tryz.func106, rfl, by decide⟩
instance : Body Tryz.prog 107 := ⟨_, Tryz.func107, rfl, by decide⟩
instance : Body Tryz.prog 108 := ⟨_, Tryz.func108, rfl, by decide⟩
instance : Body Tryz.prog 109 := ⟨_, Tryz.func109, rfl, by decide⟩
instance : Body Tryz.prog 110 := ⟨_, Tryz.func110, rfl, by decide⟩
instance : Body Tryz.prog 111 := ⟨_, Tryz.func111, rfl, by decide⟩
instance : Body Tryz.prog 112 := ⟨_, Tryz.func112, rfl, by decide⟩
instance : Body Tryz.prog 113 := ⟨_, Tryz.func113, rfl, by decide⟩
instance : Body Tryz.prog 114 := ⟨_, Tryz.func114, rfl, by decide⟩
instance : Body Tryz.prog 115 := ⟨_, Tryz.func115, rfl, by decide⟩
instance : Body Tryz.prog 116 := ⟨_, Tryz.func116, rfl, by decide⟩
instance : Body Tryz.prog 117 := ⟨_, Tryz.func117, rfl, by decide⟩
instance : Body Tryz.prog 119 := ⟨_, Tryz.func119, rfl, by decide⟩
instance : Body Tryz.prog 120 := ⟨_, Tryz.func120, rfl, by decide⟩
instance : Body Tryz.prog 121 := ⟨_, Tryz.func121, rfl, by decide⟩
instance : Body Tryz.prog 122 := ⟨_, Tryz.func122, rfl, by decide⟩
instance : Body Tryz.prog 123 := ⟨_, Tryz.func123, rfl, by decide⟩
instance : Body Tryz.prog 124 := ⟨_, Tryz.func124, rfl, by decide⟩
instance : Body Tryz.prog 125 := ⟨_, Tryz.func125, rfl, by decide⟩
instance : Body Tryz.prog 126 := ⟨_, Tryz.func126, rfl, by decide⟩
instance : Body Tryz.prog 127 := ⟨_, Tryz.func127, rfl, by decide⟩
instance : Body Tryz.prog 128 := ⟨_, Tryz.func128, rfl, by decide⟩
instance : Body Tryz.prog 129 := ⟨_, Tryz.func129, rfl, by decide⟩
instance : Body Tryz.prog 130 := ⟨_, Tryz.func130, rfl, by decide⟩
instance : Body Tryz.prog 131 := ⟨_, Tryz.func131, rfl, by decide⟩
instance : Body Tryz.prog 132 := ⟨_, Tryz.func132, rfl, by decide⟩
instance : Body Tryz.prog 133 := ⟨_, Tryz.func133, rfl, by decide⟩
instance : Body Tryz.prog 134 := ⟨_, Tryz.func134, rfl, by decide⟩
instance : Body Tryz.prog 135 := ⟨_, Tryz.func135, rfl, by decide⟩
instance : Body Tryz.prog 136 := ⟨_, Tryz.func136, rfl, by decide⟩
instance : Body Tryz.prog 137 := ⟨_, Tryz.func137, rfl, by decide⟩
instance : Body Tryz.prog 138 := ⟨_, Tryz.func138, rfl, by decide⟩
instance : Body Tryz.prog 139 := ⟨_, Tryz.func139, rfl, by decide⟩
instance : Body Tryz.prog 140 := ⟨_, Tryz.func140, rfl, by decide⟩
instance : Body Tryz.prog 141 := ⟨_, Tryz.func141, rfl, by decide⟩
instance : Body Tryz.prog 142 := ⟨_, Tryz.func142, rfl, by decide⟩
instance : Body Tryz.prog 143 := ⟨_, Tryz.func143, rfl, by decide⟩
instance : Body Tryz.prog 144 := ⟨_, Tryz.func144, rfl, by decide⟩
instance : Body Tryz.prog 145 := ⟨_, Tryz.func145, rfl, by decide⟩
instance : Body Tryz.prog 146 := ⟨_, Tryz.func146, rfl, by decide⟩
instance : Body Tryz.prog 147 := ⟨_, Tryz.func147, rfl, by decide⟩
instance : Body Tryz.prog 148 := ⟨_, Tryz.func148, rfl, by decide⟩
instance : Body Tryz.prog 149 := ⟨_, Tryz.func149, rfl, by decide⟩
instance : Body Tryz.prog 150 := ⟨_, Tryz.func150, rfl, by decide⟩
instance : Body Tryz.prog 151 := ⟨_, Tryz.func151, rfl, by decide⟩
instance : Body Tryz.prog 152 := ⟨_, Tryz.func152, rfl, by decide⟩
instance : Body Tryz.prog 153 := ⟨_, Tryz.func153, rfl, by decide⟩
instance : Body Tryz.prog 154 := ⟨_, Tryz.func154, rfl, by decide⟩
instance : Body Tryz.prog 155 := ⟨_, Tryz.func155, rfl, by decide⟩
instance : Body Tryz.prog 156 := ⟨_, Tryz.func156, rfl, by decide⟩
instance : Body Tryz.prog 157 := ⟨_, Tryz.func157, rfl, by decide⟩
instance : Body Tryz.prog 158 := ⟨_, Tryz.func158, rfl, by decide⟩
instance : Body Tryz.prog 159 := ⟨_, Tryz.func159, rfl, by decide⟩
instance : Body Tryz.prog 160 := ⟨_, Tryz.func160, rfl, by decide⟩
instance : Body Tryz.prog 161 := ⟨_, Tryz.func161, rfl, by decide⟩
instance : Body Tryz.prog 162 := ⟨_, Tryz.func162, rfl, by decide⟩
instance : Body Tryz.prog 163 := ⟨_, Tryz.func163, rfl, by decide⟩
instance : Body Tryz.prog 164 := ⟨_, Tryz.func164, rfl, by decide⟩
instance : Body Tryz.prog 165 := ⟨_, Tryz.func165, rfl, by decide⟩
instance : Body Tryz.prog 166 := ⟨_, Tryz.func166, rfl, by decide⟩
instance : Body Tryz.prog 167 := ⟨_, Tryz.func167, rfl, by decide⟩
instance : Body Tryz.prog 168 := ⟨_, Tryz.func168, rfl, by decide⟩
instance : Body Tryz.prog 169 := ⟨_, Tryz.func169, rfl, by decide⟩
instance : Body Tryz.prog 170 := ⟨_, Tryz.func170, rfl, by decide⟩
instance : Body Tryz.prog 171 := ⟨_, Tryz.func171, rfl, by decide⟩
instance : Body Tryz.prog 172 := ⟨_, Tryz.func172, rfl, by decide⟩
instance : Body Tryz.prog 173 := ⟨_, Tryz.func173, rfl, by decide⟩
instance : Body Tryz.prog 174 := ⟨_, Tryz.func174, rfl, by decide⟩
instance : Body Tryz.prog 175 := ⟨_, Tryz.func175, rfl, by decide⟩
instance : Body Tryz.prog 176 := ⟨_, Tryz.func176, rfl, by decide⟩
instance : Body Tryz.prog 177 := ⟨_, Tryz.func177, rfl, by decide⟩
instance : Body Tryz.prog 178 := ⟨_, Tryz.func178, rfl, by decide⟩
instance : Body Tryz.prog 179 := ⟨_, Tryz.func179, rfl, by decide⟩
instance : Body Tryz.prog 180 := ⟨_, Tryz.func180, rfl, by decide⟩
instance : TOne Tryz.prog 1 := ⟨by kernel_rfl, by kernel_rfl⟩
instance : TZero Tryz.prog 1 [.nilFunc] := ⟨by kernel_rfl⟩
instance : TFn Tryz.prog 1 := ⟨_, _, _, Tryz.underlying1⟩
instance : TConc Tryz.prog 1 := ⟨_, Tryz.underlying1, rfl⟩
instance : TOne Tryz.prog 3 := ⟨by kernel_rfl, by kernel_rfl⟩
instance : TZero Tryz.prog 3 [(.int .i64 0)] := ⟨by kernel_rfl⟩
instance : TInt Tryz.prog 3 .i64 := ⟨Tryz.underlying3⟩
instance : TConc Tryz.prog 3 := ⟨_, Tryz.underlying3, rfl⟩
instance : TOne Tryz.prog 4 := ⟨by kernel_rfl, by kernel_rfl⟩
instance : TZero Tryz.prog 4 [(.bool false)] := ⟨by kernel_rfl⟩
instance : TBool Tryz.prog 4 := ⟨Tryz.underlying4⟩
instance : TConc Tryz.prog 4 := ⟨_, Tryz.underlying4, rfl⟩
instance : TOne Tryz.prog 5 := ⟨by kernel_rfl, by kernel_rfl⟩
instance : TZero Tryz.prog 5 [(.int .u8 0)] := ⟨by kernel_rfl⟩
instance : TInt Tryz.prog 5 .u8 := ⟨Tryz.underlying5⟩
instance : TConc Tryz.prog 5 := ⟨_, Tryz.underlying5, rfl⟩
instance : TOne Tryz.prog 9 := ⟨by kernel_rfl, by kernel_rfl⟩
instance : TZero Tryz.prog 9 [(.string ⟨#[]⟩)] := ⟨by kernel_rfl⟩
instance : TStr Tryz.prog 9 := ⟨Tryz.underlying9⟩
instance : TConc Tryz.prog 9 := ⟨_, Tryz.underlying9, rfl⟩
instance : TOne Tryz.prog 20 := ⟨by kernel_rfl, by kernel_rfl⟩
instance : TZero Tryz.prog 20 [.nilIface] := ⟨by kernel_rfl⟩
instance : TOne Tryz.prog 22 := ⟨by kernel_rfl, by kernel_rfl⟩
instance : TZero Tryz.prog 22 [(.slice none 0 0)] := ⟨by kernel_rfl⟩
instance : TSl Tryz.prog 22 47 2 24 := ⟨Tryz.underlying22, by kernel_rfl⟩
instance : TConc Tryz.prog 22 := ⟨_, Tryz.underlying22, rfl⟩
instance : TOne Tryz.prog 23 := ⟨by kernel_rfl, by kernel_rfl⟩
instance : TZero Tryz.prog 23 [(.slice none 0 0)] := ⟨by kernel_rfl⟩
instance : TSl Tryz.prog 23 3 1 8 := ⟨Tryz.underlying23, by kernel_rfl⟩
instance : TConc Tryz.prog 23 := ⟨_, Tryz.underlying23, rfl⟩
instance : TAgg Tryz.prog 25 2 := ⟨by kernel_rfl, by kernel_rfl⟩
instance : TZero Tryz.prog 25 [(.slice none 0 0), (.int .i64 0)] := ⟨by kernel_rfl⟩
instance : TBld Tryz.prog 25 [(.slice none 0 0), (.int .i64 0)] [(0, 1), (1, 1)] := ⟨by kernel_rfl, by kernel_rfl⟩
instance : TFld Tryz.prog 25 0 0 := ⟨by kernel_rfl⟩
instance : TPart Tryz.prog 25 0 0 1 false := ⟨by kernel_rfl⟩
instance : TFld Tryz.prog 25 1 1 := ⟨by kernel_rfl⟩
instance : TPart Tryz.prog 25 1 1 1 false := ⟨by kernel_rfl⟩
instance : TConc Tryz.prog 25 := ⟨_, Tryz.underlying25, rfl⟩
instance : TOne Tryz.prog 27 := ⟨by kernel_rfl, by kernel_rfl⟩
instance : TZero Tryz.prog 27 [(.pointer none)] := ⟨by kernel_rfl⟩
instance : TPtr Tryz.prog 27 := ⟨_, Tryz.underlying27⟩
instance : TConc Tryz.prog 27 := ⟨_, Tryz.underlying27, rfl⟩
instance : TOne Tryz.prog 28 := ⟨by kernel_rfl, by kernel_rfl⟩
instance : TZero Tryz.prog 28 [(.int .i64 0)] := ⟨by kernel_rfl⟩
instance : TInt Tryz.prog 28 .i64 := ⟨Tryz.underlying28⟩
instance : TConc Tryz.prog 28 := ⟨_, Tryz.underlying28, rfl⟩
instance : TOne Tryz.prog 31 := ⟨by kernel_rfl, by kernel_rfl⟩
instance : TZero Tryz.prog 31 [(.pointer none)] := ⟨by kernel_rfl⟩
instance : TPtr Tryz.prog 31 := ⟨_, Tryz.underlying31⟩
instance : TConc Tryz.prog 31 := ⟨_, Tryz.underlying31, rfl⟩
instance : TOne Tryz.prog 34 := ⟨by kernel_rfl, by kernel_rfl⟩
instance : TZero Tryz.prog 34 [(.pointer none)] := ⟨by kernel_rfl⟩
instance : TPtr Tryz.prog 34 := ⟨_, Tryz.underlying34⟩
instance : TConc Tryz.prog 34 := ⟨_, Tryz.underlying34, rfl⟩
instance : TOne Tryz.prog 35 := ⟨by kernel_rfl, by kernel_rfl⟩
instance : TZero Tryz.prog 35 [(.pointer none)] := ⟨by kernel_rfl⟩
instance : TPtr Tryz.prog 35 := ⟨_, Tryz.underlying35⟩
instance : TConc Tryz.prog 35 := ⟨_, Tryz.underlying35, rfl⟩
instance : TOne Tryz.prog 36 := ⟨by kernel_rfl, by kernel_rfl⟩
instance : TZero Tryz.prog 36 [(.slice none 0 0)] := ⟨by kernel_rfl⟩
instance : TSl Tryz.prog 36 22 1 24 := ⟨Tryz.underlying36, by kernel_rfl⟩
instance : TConc Tryz.prog 36 := ⟨_, Tryz.underlying36, rfl⟩
instance : TOne Tryz.prog 37 := ⟨by kernel_rfl, by kernel_rfl⟩
instance : TZero Tryz.prog 37 [(.slice none 0 0)] := ⟨by kernel_rfl⟩
instance : TSl Tryz.prog 37 25 2 32 := ⟨Tryz.underlying37, by kernel_rfl⟩
instance : TConc Tryz.prog 37 := ⟨_, Tryz.underlying37, rfl⟩
instance : TAgg Tryz.prog 39 4 := ⟨by kernel_rfl, by kernel_rfl⟩
instance : TZero Tryz.prog 39 [(.pointer none), (.slice none 0 0), (.slice none 0 0), (.bool false)] := ⟨by kernel_rfl⟩
instance : TBld Tryz.prog 39 [(.pointer none), (.slice none 0 0), (.slice none 0 0), (.bool false)] [(0, 1), (1, 1), (2, 1), (3, 1)] := ⟨by kernel_rfl, by kernel_rfl⟩
instance : TFld Tryz.prog 39 0 0 := ⟨by kernel_rfl⟩
instance : TPart Tryz.prog 39 0 0 1 false := ⟨by kernel_rfl⟩
instance : TFld Tryz.prog 39 1 1 := ⟨by kernel_rfl⟩
instance : TPart Tryz.prog 39 1 1 1 false := ⟨by kernel_rfl⟩
instance : TFld Tryz.prog 39 2 2 := ⟨by kernel_rfl⟩
instance : TPart Tryz.prog 39 2 2 1 false := ⟨by kernel_rfl⟩
instance : TFld Tryz.prog 39 3 3 := ⟨by kernel_rfl⟩
instance : TPart Tryz.prog 39 3 3 1 false := ⟨by kernel_rfl⟩
instance : TConc Tryz.prog 39 := ⟨_, Tryz.underlying39, rfl⟩
instance : TOne Tryz.prog 45 := ⟨by kernel_rfl, by kernel_rfl⟩
instance : TZero Tryz.prog 45 [(.int .u32 0)] := ⟨by kernel_rfl⟩
instance : TInt Tryz.prog 45 .u32 := ⟨Tryz.underlying45⟩
instance : TConc Tryz.prog 45 := ⟨_, Tryz.underlying45, rfl⟩
instance : TAgg Tryz.prog 47 2 := ⟨by kernel_rfl, by kernel_rfl⟩
instance : TZero Tryz.prog 47 [(.string ⟨#[]⟩), (.int .u32 0)] := ⟨by kernel_rfl⟩
instance : TBld Tryz.prog 47 [(.string ⟨#[]⟩), (.int .u32 0)] [(0, 1), (1, 1)] := ⟨by kernel_rfl, by kernel_rfl⟩
instance : TEqN Tryz.prog 47 [true, false] := ⟨by kernel_rfl, by kernel_rfl, by kernel_rfl, by kernel_rfl⟩
instance : TFld Tryz.prog 47 0 0 := ⟨by kernel_rfl⟩
instance : TPart Tryz.prog 47 0 0 1 false := ⟨by kernel_rfl⟩
instance : TFld Tryz.prog 47 1 1 := ⟨by kernel_rfl⟩
instance : TPart Tryz.prog 47 1 1 1 false := ⟨by kernel_rfl⟩
instance : TConc Tryz.prog 47 := ⟨_, Tryz.underlying47, rfl⟩
instance : TOne Tryz.prog 52 := ⟨by kernel_rfl, by kernel_rfl⟩
instance : TZero Tryz.prog 52 [(.slice none 0 0)] := ⟨by kernel_rfl⟩
instance : TSl Tryz.prog 52 23 1 24 := ⟨Tryz.underlying52, by kernel_rfl⟩
instance : TConc Tryz.prog 52 := ⟨_, Tryz.underlying52, rfl⟩
instance : TOne Tryz.prog 60 := ⟨by kernel_rfl, by kernel_rfl⟩
instance : TZero Tryz.prog 60 [(.slice none 0 0)] := ⟨by kernel_rfl⟩
instance : TSl Tryz.prog 60 65 7 104 := ⟨Tryz.underlying60, by kernel_rfl⟩
instance : TConc Tryz.prog 60 := ⟨_, Tryz.underlying60, rfl⟩
instance : TOne Tryz.prog 61 := ⟨by kernel_rfl, by kernel_rfl⟩
instance : TZero Tryz.prog 61 [(.slice none 0 0)] := ⟨by kernel_rfl⟩
instance : TSl Tryz.prog 61 5 1 1 := ⟨Tryz.underlying61, by kernel_rfl⟩
instance : TConc Tryz.prog 61 := ⟨_, Tryz.underlying61, rfl⟩
instance : TAgg Tryz.prog 63 2 := ⟨by kernel_rfl, by kernel_rfl⟩
instance : TZero Tryz.prog 63 [(.int .i64 0), (.slice none 0 0)] := ⟨by kernel_rfl⟩
instance : TBld Tryz.prog 63 [(.int .i64 0), (.slice none 0 0)] [(0, 1), (1, 1)] := ⟨by kernel_rfl, by kernel_rfl⟩
instance : TFld Tryz.prog 63 0 0 := ⟨by kernel_rfl⟩
instance : TPart Tryz.prog 63 0 0 1 false := ⟨by kernel_rfl⟩
instance : TFld Tryz.prog 63 1 1 := ⟨by kernel_rfl⟩
instance : TPart Tryz.prog 63 1 1 1 false := ⟨by kernel_rfl⟩
instance : TConc Tryz.prog 63 := ⟨_, Tryz.underlying63, rfl⟩
instance : TAgg Tryz.prog 65 7 := ⟨by kernel_rfl, by kernel_rfl⟩
instance : TZero Tryz.prog 65 [(.int .u8 0), (.slice none 0 0), (.slice none 0 0), (.int .i64 0), (.int .i64 0), (.int .i64 0), (.slice none 0 0)] := ⟨by kernel_rfl⟩
instance : TBld Tryz.prog 65 [(.int .u8 0), (.slice none 0 0), (.slice none 0 0), (.int .i64 0), (.int .i64 0), (.int .i64 0), (.slice none 0 0)] [(0, 1), (1, 1), (2, 2), (4, 1), (5, 2)] := ⟨by kernel_rfl, by kernel_rfl⟩
instance : TFld Tryz.prog 65 0 0 := ⟨by kernel_rfl⟩
instance : TPart Tryz.prog 65 0 0 1 false := ⟨by kernel_rfl⟩
instance : TFld Tryz.prog 65 1 1 := ⟨by kernel_rfl⟩
instance : TPart Tryz.prog 65 1 1 1 false := ⟨by kernel_rfl⟩
instance : TFld Tryz.prog 65 2 2 := ⟨by kernel_rfl⟩
instance : TPart Tryz.prog 65 2 2 2 true := ⟨by kernel_rfl⟩
instance : TFld Tryz.prog 65 3 4 := ⟨by kernel_rfl⟩
instance : TPart Tryz.prog 65 3 4 1 false := ⟨by kernel_rfl⟩
instance : TFld Tryz.prog 65 4 5 := ⟨by kernel_rfl⟩
instance : TPart Tryz.prog 65 4 5 2 true := ⟨by kernel_rfl⟩
instance : TConc Tryz.prog 65 := ⟨_, Tryz.underlying65, rfl⟩
instance : TOne Tryz.prog 69 := ⟨by kernel_rfl, by kernel_rfl⟩
instance : TZero Tryz.prog 69 [(.pointer none)] := ⟨by kernel_rfl⟩
instance : TPtr Tryz.prog 69 := ⟨_, Tryz.underlying69⟩
instance : TConc Tryz.prog 69 := ⟨_, Tryz.underlying69, rfl⟩
instance : TAgg Tryz.prog 75 4 := ⟨by kernel_rfl, by kernel_rfl⟩
instance : TZero Tryz.prog 75 [(.pointer none), (.pointer none), (.pointer none), (.pointer none)] := ⟨by kernel_rfl⟩
instance : TBld Tryz.prog 75 [(.pointer none), (.pointer none), (.pointer none), (.pointer none)] [(0, 1), (1, 1), (2, 1), (3, 1)] := ⟨by kernel_rfl, by kernel_rfl⟩
instance : TFld Tryz.prog 75 0 0 := ⟨by kernel_rfl⟩
instance : TPart Tryz.prog 75 0 0 1 false := ⟨by kernel_rfl⟩
instance : TFld Tryz.prog 75 1 1 := ⟨by kernel_rfl⟩
instance : TPart Tryz.prog 75 1 1 1 false := ⟨by kernel_rfl⟩
instance : TFld Tryz.prog 75 2 2 := ⟨by kernel_rfl⟩
instance : TPart Tryz.prog 75 2 2 1 false := ⟨by kernel_rfl⟩
instance : TFld Tryz.prog 75 3 3 := ⟨by kernel_rfl⟩
instance : TPart Tryz.prog 75 3 3 1 false := ⟨by kernel_rfl⟩
instance : TConc Tryz.prog 75 := ⟨_, Tryz.underlying75, rfl⟩
instance : TOne Tryz.prog 78 := ⟨by kernel_rfl, by kernel_rfl⟩
instance : TZero Tryz.prog 78 [(.map none)] := ⟨by kernel_rfl⟩
instance : TMap Tryz.prog 78 9 114 := ⟨Tryz.underlying78⟩
instance : TZv Tryz.prog 114 (.pointer none) := ⟨by kernel_rfl⟩
instance : TConc Tryz.prog 78 := ⟨_, Tryz.underlying78, rfl⟩
instance : TOne Tryz.prog 79 := ⟨by kernel_rfl, by kernel_rfl⟩
instance : TZero Tryz.prog 79 [(.slice none 0 0)] := ⟨by kernel_rfl⟩
instance : TSl Tryz.prog 79 127 3 40 := ⟨Tryz.underlying79, by kernel_rfl⟩
instance : TConc Tryz.prog 79 := ⟨_, Tryz.underlying79, rfl⟩
instance : TAgg Tryz.prog 81 7 := ⟨by kernel_rfl, by kernel_rfl⟩
instance : TZero Tryz.prog 81 [(.int .i64 0), (.int .i64 0), (.map none), (.map none), (.slice none 0 0), (.int .i64 0), (.bool false)] := ⟨by kernel_rfl⟩
instance : TBld Tryz.prog 81 [(.int .i64 0), (.int .i64 0), (.map none), (.map none), (.slice none 0 0), (.int .i64 0), (.bool false)] [(0, 1), (1, 1), (2, 1), (3, 1), (4, 1), (5, 1), (6, 1)] := ⟨by kernel_rfl, by kernel_rfl⟩
instance : TFld Tryz.prog 81 0 0 := ⟨by kernel_rfl⟩
instance : TPart Tryz.prog 81 0 0 1 false := ⟨by kernel_rfl⟩
instance : TFld Tryz.prog 81 1 1 := ⟨by kernel_rfl⟩
instance : TPart Tryz.prog 81 1 1 1 false := ⟨by kernel_rfl⟩
instance : TFld Tryz.prog 81 2 2 := ⟨by kernel_rfl⟩
instance : TPart Tryz.prog 81 2 2 1 false := ⟨by kernel_rfl⟩
instance : TFld Tryz.prog 81 3 3 := ⟨by kernel_rfl⟩
instance : TPart Tryz.prog 81 3 3 1 false := ⟨by kernel_rfl⟩
instance : TFld Tryz.prog 81 4 4 := ⟨by kernel_rfl⟩
instance : TPart Tryz.prog 81 4 4 1 false := ⟨by kernel_rfl⟩
instance : TFld Tryz.prog 81 5 5 := ⟨by kernel_rfl⟩
instance : TPart Tryz.prog 81 5 5 1 false := ⟨by kernel_rfl⟩
instance : TFld Tryz.prog 81 6 6 := ⟨by kernel_rfl⟩
instance : TPart Tryz.prog 81 6 6 1 false := ⟨by kernel_rfl⟩
instance : TConc Tryz.prog 81 := ⟨_, Tryz.underlying81, rfl⟩
instance : TAgg Tryz.prog 83 4 := ⟨by kernel_rfl, by kernel_rfl⟩
instance : TZero Tryz.prog 83 [(.pointer none), (.slice none 0 0), (.slice none 0 0), (.bool false)] := ⟨by kernel_rfl⟩
instance : TBld Tryz.prog 83 [(.pointer none), (.slice none 0 0), (.slice none 0 0), (.bool false)] [(0, 1), (1, 1), (2, 1), (3, 1)] := ⟨by kernel_rfl, by kernel_rfl⟩
instance : TFld Tryz.prog 83 0 0 := ⟨by kernel_rfl⟩
instance : TPart Tryz.prog 83 0 0 1 false := ⟨by kernel_rfl⟩
instance : TFld Tryz.prog 83 1 1 := ⟨by kernel_rfl⟩
instance : TPart Tryz.prog 83 1 1 1 false := ⟨by kernel_rfl⟩
instance : TFld Tryz.prog 83 2 2 := ⟨by kernel_rfl⟩
instance : TPart Tryz.prog 83 2 2 1 false := ⟨by kernel_rfl⟩
instance : TFld Tryz.prog 83 3 3 := ⟨by kernel_rfl⟩
instance : TPart Tryz.prog 83 3 3 1 false := ⟨by kernel_rfl⟩
instance : TConc Tryz.prog 83 := ⟨_, Tryz.underlying83, rfl⟩
instance : TOne Tryz.prog 87 := ⟨by kernel_rfl, by kernel_rfl⟩
instance : TZero Tryz.prog 87 [.nilFunc] := ⟨by kernel_rfl⟩
instance : TFn Tryz.prog 87 := ⟨_, _, _, Tryz.underlying87⟩
instance : TConc Tryz.prog 87 := ⟨_, Tryz.underlying87, rfl⟩
instance : TOne Tryz.prog 88 := ⟨by kernel_rfl, by kernel_rfl⟩
instance : TZero Tryz.prog 88 [(.slice none 0 0)] := ⟨by kernel_rfl⟩
instance : TSl Tryz.prog 88 96 2 24 := ⟨Tryz.underlying88, by kernel_rfl⟩
instance : TConc Tryz.prog 88 := ⟨_, Tryz.underlying88, rfl⟩
instance : TOne Tryz.prog 89 := ⟨by kernel_rfl, by kernel_rfl⟩
instance : TZero Tryz.prog 89 [(.slice none 0 0)] := ⟨by kernel_rfl⟩
instance : TSl Tryz.prog 89 138 2 24 := ⟨Tryz.underlying89, by kernel_rfl⟩
instance : TConc Tryz.prog 89 := ⟨_, Tryz.underlying89, rfl⟩
instance : TOne Tryz.prog 90 := ⟨by kernel_rfl, by kernel_rfl⟩
instance : TZero Tryz.prog 90 [(.slice none 0 0)] := ⟨by kernel_rfl⟩
instance : TSl Tryz.prog 90 99 3 40 := ⟨Tryz.underlying90, by kernel_rfl⟩
instance : TConc Tryz.prog 90 := ⟨_, Tryz.underlying90, rfl⟩
instance : TAgg Tryz.prog 92 7 := ⟨by kernel_rfl, by kernel_rfl⟩
instance : TZero Tryz.prog 92 [(.int .i64 0), (.slice none 0 0), (.slice none 0 0), (.slice none 0 0), (.slice none 0 0), (.int .i64 0), (.bool false)] := ⟨by kernel_rfl⟩
instance : TBld Tryz.prog 92 [(.int .i64 0), (.slice none 0 0), (.slice none 0 0), (.slice none 0 0), (.slice none 0 0), (.int .i64 0), (.bool false)] [(0, 1), (1, 1), (2, 1), (3, 1), (4, 1), (5, 1), (6, 1)] := ⟨by kernel_rfl, by kernel_rfl⟩
instance : TFld Tryz.prog 92 0 0 := ⟨by kernel_rfl⟩
instance : TPart Tryz.prog 92 0 0 1 false := ⟨by kernel_rfl⟩
instance : TFld Tryz.prog 92 1 1 := ⟨by kernel_rfl⟩
instance : TPart Tryz.prog 92 1 1 1 false := ⟨by kernel_rfl⟩
instance : TFld Tryz.prog 92 2 2 := ⟨by kernel_rfl⟩
instance : TPart Tryz.prog 92 2 2 1 false := ⟨by kernel_rfl⟩
instance : TFld Tryz.prog 92 3 3 := ⟨by kernel_rfl⟩
instance : TPart Tryz.prog 92 3 3 1 false := ⟨by kernel_rfl⟩
instance : TFld Tryz.prog 92 4 4 := ⟨by kernel_rfl⟩
instance : TPart Tryz.prog 92 4 4 1 false := ⟨by kernel_rfl⟩
instance : TFld Tryz.prog 92 5 5 := ⟨by kernel_rfl⟩
instance : TPart Tryz.prog 92 5 5 1 false := ⟨by kernel_rfl⟩
instance : TFld Tryz.prog 92 6 6 := ⟨by kernel_rfl⟩
instance : TPart Tryz.prog 92 6 6 1 false := ⟨by kernel_rfl⟩
instance : TConc Tryz.prog 92 := ⟨_, Tryz.underlying92, rfl⟩
instance : TAgg Tryz.prog 96 2 := ⟨by kernel_rfl, by kernel_rfl⟩
instance : TZero Tryz.prog 96 [(.string ⟨#[]⟩), (.int .i64 0)] := ⟨by kernel_rfl⟩
instance : TBld Tryz.prog 96 [(.string ⟨#[]⟩), (.int .i64 0)] [(0, 1), (1, 1)] := ⟨by kernel_rfl, by kernel_rfl⟩
instance : TEqN Tryz.prog 96 [true, false] := ⟨by kernel_rfl, by kernel_rfl, by kernel_rfl, by kernel_rfl⟩
instance : TFld Tryz.prog 96 0 0 := ⟨by kernel_rfl⟩
instance : TPart Tryz.prog 96 0 0 1 false := ⟨by kernel_rfl⟩
instance : TFld Tryz.prog 96 1 1 := ⟨by kernel_rfl⟩
instance : TPart Tryz.prog 96 1 1 1 false := ⟨by kernel_rfl⟩
instance : TConc Tryz.prog 96 := ⟨_, Tryz.underlying96, rfl⟩
instance : TAgg Tryz.prog 99 3 := ⟨by kernel_rfl, by kernel_rfl⟩
instance : TZero Tryz.prog 99 [(.string ⟨#[]⟩), (.string ⟨#[]⟩), (.int .i64 0)] := ⟨by kernel_rfl⟩
instance : TBld Tryz.prog 99 [(.string ⟨#[]⟩), (.string ⟨#[]⟩), (.int .i64 0)] [(0, 1), (1, 1), (2, 1)] := ⟨by kernel_rfl, by kernel_rfl⟩
instance : TEqN Tryz.prog 99 [true, true, false] := ⟨by kernel_rfl, by kernel_rfl, by kernel_rfl, by kernel_rfl⟩
instance : TFld Tryz.prog 99 0 0 := ⟨by kernel_rfl⟩
instance : TPart Tryz.prog 99 0 0 1 false := ⟨by kernel_rfl⟩
instance : TFld Tryz.prog 99 1 1 := ⟨by kernel_rfl⟩
instance : TPart Tryz.prog 99 1 1 1 false := ⟨by kernel_rfl⟩
instance : TFld Tryz.prog 99 2 2 := ⟨by kernel_rfl⟩
instance : TPart Tryz.prog 99 2 2 1 false := ⟨by kernel_rfl⟩
instance : TConc Tryz.prog 99 := ⟨_, Tryz.underlying99, rfl⟩
instance : TOne Tryz.prog 109 := ⟨by kernel_rfl, by kernel_rfl⟩
instance : TZero Tryz.prog 109 [(.int .u64 0)] := ⟨by kernel_rfl⟩
instance : TInt Tryz.prog 109 .u64 := ⟨Tryz.underlying109⟩
instance : TConc Tryz.prog 109 := ⟨_, Tryz.underlying109, rfl⟩
instance : TOne Tryz.prog 112 := ⟨by kernel_rfl, by kernel_rfl⟩
instance : TZero Tryz.prog 112 [(.slice none 0 0)] := ⟨by kernel_rfl⟩
instance : TSl Tryz.prog 112 9 1 16 := ⟨Tryz.underlying112, by kernel_rfl⟩
instance : TConc Tryz.prog 112 := ⟨_, Tryz.underlying112, rfl⟩
instance : TOne Tryz.prog 114 := ⟨by kernel_rfl, by kernel_rfl⟩
instance : TZero Tryz.prog 114 [(.pointer none)] := ⟨by kernel_rfl⟩
instance : TPtr Tryz.prog 114 := ⟨_, Tryz.underlying114⟩
instance : TConc Tryz.prog 114 := ⟨_, Tryz.underlying114, rfl⟩
instance : TAgg Tryz.prog 118 3 := ⟨by kernel_rfl, by kernel_rfl⟩
instance : TZero Tryz.prog 118 [(.int .i64 0), (.slice none 0 0), (.int .i64 0)] := ⟨by kernel_rfl⟩
instance : TBld Tryz.prog 118 [(.int .i64 0), (.slice none 0 0), (.int .i64 0)] [(0, 1), (1, 1), (2, 1)] := ⟨by kernel_rfl, by kernel_rfl⟩
instance : TFld Tryz.prog 118 0 0 := ⟨by kernel_rfl⟩
instance : TPart Tryz.prog 118 0 0 1 false := ⟨by kernel_rfl⟩
instance : TFld Tryz.prog 118 1 1 := ⟨by kernel_rfl⟩
instance : TPart Tryz.prog 118 1 1 1 false := ⟨by kernel_rfl⟩
instance : TFld Tryz.prog 118 2 2 := ⟨by kernel_rfl⟩
instance : TPart Tryz.prog 118 2 2 1 false := ⟨by kernel_rfl⟩
instance : TConc Tryz.prog 118 := ⟨_, Tryz.underlying118, rfl⟩
instance : TOne Tryz.prog 123 := ⟨by kernel_rfl, by kernel_rfl⟩
instance : TZero Tryz.prog 123 [(.slice none 0 0)] := ⟨by kernel_rfl⟩
instance : TSl Tryz.prog 123 87 1 8 := ⟨Tryz.underlying123, by kernel_rfl⟩
instance : TConc Tryz.prog 123 := ⟨_, Tryz.underlying123, rfl⟩
instance : TAgg Tryz.prog 127 3 := ⟨by kernel_rfl, by kernel_rfl⟩
instance : TZero Tryz.prog 127 [(.string ⟨#[]⟩), (.string ⟨#[]⟩), (.pointer none)] := ⟨by kernel_rfl⟩
instance : TBld Tryz.prog 127 [(.string ⟨#[]⟩), (.string ⟨#[]⟩), (.pointer none)] [(0, 1), (1, 1), (2, 1)] := ⟨by kernel_rfl, by kernel_rfl⟩
instance : TFld Tryz.prog 127 0 0 := ⟨by kernel_rfl⟩
instance : TPart Tryz.prog 127 0 0 1 false := ⟨by kernel_rfl⟩
instance : TFld Tryz.prog 127 1 1 := ⟨by kernel_rfl⟩
instance : TPart Tryz.prog 127 1 1 1 false := ⟨by kernel_rfl⟩
instance : TFld Tryz.prog 127 2 2 := ⟨by kernel_rfl⟩
instance : TPart Tryz.prog 127 2 2 1 false := ⟨by kernel_rfl⟩
instance : TConc Tryz.prog 127 := ⟨_, Tryz.underlying127, rfl⟩
instance : TAgg Tryz.prog 133 2 := ⟨by kernel_rfl, by kernel_rfl⟩
instance : TZero Tryz.prog 133 [(.int .i64 0), (.string ⟨#[]⟩)] := ⟨by kernel_rfl⟩
instance : TBld Tryz.prog 133 [(.int .i64 0), (.string ⟨#[]⟩)] [(0, 1), (1, 1)] := ⟨by kernel_rfl, by kernel_rfl⟩
instance : TEqN Tryz.prog 133 [false, true] := ⟨by kernel_rfl, by kernel_rfl, by kernel_rfl, by kernel_rfl⟩
instance : TFld Tryz.prog 133 0 0 := ⟨by kernel_rfl⟩
instance : TPart Tryz.prog 133 0 0 1 false := ⟨by kernel_rfl⟩
instance : TFld Tryz.prog 133 1 1 := ⟨by kernel_rfl⟩
instance : TPart Tryz.prog 133 1 1 1 false := ⟨by kernel_rfl⟩
instance : TConc Tryz.prog 133 := ⟨_, Tryz.underlying133, rfl⟩
instance : TAgg Tryz.prog 138 2 := ⟨by kernel_rfl, by kernel_rfl⟩
instance : TZero Tryz.prog 138 [(.string ⟨#[]⟩), (.int .i64 0)] := ⟨by kernel_rfl⟩
instance : TBld Tryz.prog 138 [(.string ⟨#[]⟩), (.int .i64 0)] [(0, 1), (1, 1)] := ⟨by kernel_rfl, by kernel_rfl⟩
instance : TEqN Tryz.prog 138 [true, false] := ⟨by kernel_rfl, by kernel_rfl, by kernel_rfl, by kernel_rfl⟩
instance : TFld Tryz.prog 138 0 0 := ⟨by kernel_rfl⟩
instance : TPart Tryz.prog 138 0 0 1 false := ⟨by kernel_rfl⟩
instance : TFld Tryz.prog 138 1 1 := ⟨by kernel_rfl⟩
instance : TPart Tryz.prog 138 1 1 1 false := ⟨by kernel_rfl⟩
instance : TConc Tryz.prog 138 := ⟨_, Tryz.underlying138, rfl⟩
instance : TOne Tryz.prog 141 := ⟨by kernel_rfl, by kernel_rfl⟩
instance : TZero Tryz.prog 141 [(.pointer none)] := ⟨by kernel_rfl⟩
instance : TPtr Tryz.prog 141 := ⟨_, Tryz.underlying141⟩
instance : TConc Tryz.prog 141 := ⟨_, Tryz.underlying141, rfl⟩
instance : TOne Tryz.prog 144 := ⟨by kernel_rfl, by kernel_rfl⟩
instance : TZero Tryz.prog 144 [(.int .u16 0)] := ⟨by kernel_rfl⟩
instance : TInt Tryz.prog 144 .u16 := ⟨Tryz.underlying144⟩
instance : TConc Tryz.prog 144 := ⟨_, Tryz.underlying144, rfl⟩
instance : TOne Tryz.prog 153 := ⟨by kernel_rfl, by kernel_rfl⟩
instance : TZero Tryz.prog 153 [.nilFunc] := ⟨by kernel_rfl⟩
instance : TFn Tryz.prog 153 := ⟨_, _, _, Tryz.underlying153⟩
instance : TConc Tryz.prog 153 := ⟨_, Tryz.underlying153, rfl⟩
instance : TOne Tryz.prog 155 := ⟨by kernel_rfl, by kernel_rfl⟩
instance : TZero Tryz.prog 155 [(.int .u64 0)] := ⟨by kernel_rfl⟩
instance : TInt Tryz.prog 155 .u64 := ⟨Tryz.underlying155⟩
instance : TConc Tryz.prog 155 := ⟨_, Tryz.underlying155, rfl⟩
instance : TOne Tryz.prog 159 := ⟨by kernel_rfl, by kernel_rfl⟩
instance : TZero Tryz.prog 159 [(.slice none 0 0)] := ⟨by kernel_rfl⟩
instance : TSl Tryz.prog 159 133 2 24 := ⟨Tryz.underlying159, by kernel_rfl⟩
instance : TConc Tryz.prog 159 := ⟨_, Tryz.underlying159, rfl⟩
instance : TOne Tryz.prog 163 := ⟨by kernel_rfl, by kernel_rfl⟩
instance : TZero Tryz.prog 163 [.nilFunc] := ⟨by kernel_rfl⟩
instance : TFn Tryz.prog 163 := ⟨_, _, _, Tryz.underlying163⟩
instance : TConc Tryz.prog 163 := ⟨_, Tryz.underlying163, rfl⟩
instance : TOne Tryz.prog 165 := ⟨by kernel_rfl, by kernel_rfl⟩
instance : TZero Tryz.prog 165 [.nilFunc] := ⟨by kernel_rfl⟩
instance : TFn Tryz.prog 165 := ⟨_, _, _, Tryz.underlying165⟩
instance : TConc Tryz.prog 165 := ⟨_, Tryz.underlying165, rfl⟩
instance : TAgg Tryz.prog 171 1 := ⟨by kernel_rfl, by kernel_rfl⟩
instance : TZero Tryz.prog 171 [(.slice none 0 0)] := ⟨by kernel_rfl⟩
instance : TBld Tryz.prog 171 [(.slice none 0 0)] [(0, 1)] := ⟨by kernel_rfl, by kernel_rfl⟩
instance : TFld Tryz.prog 171 0 0 := ⟨by kernel_rfl⟩
instance : TPart Tryz.prog 171 0 0 1 false := ⟨by kernel_rfl⟩
instance : TConc Tryz.prog 171 := ⟨_, Tryz.underlying171, rfl⟩
instance : TOne Tryz.prog 180 := ⟨by kernel_rfl, by kernel_rfl⟩
instance : TZero Tryz.prog 180 [(.pointer none)] := ⟨by kernel_rfl⟩
instance : TPtr Tryz.prog 180 := ⟨_, Tryz.underlying180⟩
instance : TConc Tryz.prog 180 := ⟨_, Tryz.underlying180, rfl⟩
instance : TAgg Tryz.prog 191 256 := ⟨by kernel_rfl, by kernel_rfl⟩
instance : TArr Tryz.prog 191 256 45 1 := ⟨Tryz.underlying191, by kernel_rfl⟩
instance : TConc Tryz.prog 191 := ⟨_, Tryz.underlying191, rfl⟩
instance : TOne Tryz.prog 194 := ⟨by kernel_rfl, by kernel_rfl⟩
instance : TZero Tryz.prog 194 [(.pointer none)] := ⟨by kernel_rfl⟩
instance : TPtr Tryz.prog 194 := ⟨_, Tryz.underlying194⟩
instance : TConc Tryz.prog 194 := ⟨_, Tryz.underlying194, rfl⟩
instance : TOne Tryz.prog 198 := ⟨by kernel_rfl, by kernel_rfl⟩
instance : TZero Tryz.prog 198 [(.int .i64 0)] := ⟨by kernel_rfl⟩
instance : TInt Tryz.prog 198 .i64 := ⟨Tryz.underlying198⟩
instance : TConc Tryz.prog 198 := ⟨_, Tryz.underlying198, rfl⟩
instance : TOne Tryz.prog 208 := ⟨by kernel_rfl, by kernel_rfl⟩
instance : TZero Tryz.prog 208 [(.pointer none)] := ⟨by kernel_rfl⟩
instance : TPtr Tryz.prog 208 := ⟨_, Tryz.underlying208⟩
instance : TConc Tryz.prog 208 := ⟨_, Tryz.underlying208, rfl⟩
instance : TAgg Tryz.prog 213 3 := ⟨by kernel_rfl, by kernel_rfl⟩
instance : TZero Tryz.prog 213 [(.string ⟨#[]⟩), (.int .i64 0), (.int .i64 0)] := ⟨by kernel_rfl⟩
instance : TBld Tryz.prog 213 [(.string ⟨#[]⟩), (.int .i64 0), (.int .i64 0)] [(0, 1), (1, 1), (2, 1)] := ⟨by kernel_rfl, by kernel_rfl⟩
instance : TEqN Tryz.prog 213 [true, false, false] := ⟨by kernel_rfl, by kernel_rfl, by kernel_rfl, by kernel_rfl⟩
instance : TFld Tryz.prog 213 0 0 := ⟨by kernel_rfl⟩
instance : TPart Tryz.prog 213 0 0 1 false := ⟨by kernel_rfl⟩
instance : TFld Tryz.prog 213 1 1 := ⟨by kernel_rfl⟩
instance : TPart Tryz.prog 213 1 1 1 false := ⟨by kernel_rfl⟩
instance : TFld Tryz.prog 213 2 2 := ⟨by kernel_rfl⟩
instance : TPart Tryz.prog 213 2 2 1 false := ⟨by kernel_rfl⟩
instance : TConc Tryz.prog 213 := ⟨_, Tryz.underlying213, rfl⟩
instance : TOne Tryz.prog 216 := ⟨by kernel_rfl, by kernel_rfl⟩
instance : TZero Tryz.prog 216 [(.int .u64 0)] := ⟨by kernel_rfl⟩
instance : TInt Tryz.prog 216 .u64 := ⟨Tryz.underlying216⟩
instance : TConc Tryz.prog 216 := ⟨_, Tryz.underlying216, rfl⟩
instance : TOne Tryz.prog 220 := ⟨by kernel_rfl, by kernel_rfl⟩
instance : TZero Tryz.prog 220 [(.pointer none)] := ⟨by kernel_rfl⟩
instance : TPtr Tryz.prog 220 := ⟨_, Tryz.underlying220⟩
instance : TConc Tryz.prog 220 := ⟨_, Tryz.underlying220, rfl⟩
instance : TAgg Tryz.prog 223 3 := ⟨by kernel_rfl, by kernel_rfl⟩
instance : TZero Tryz.prog 223 [(.string ⟨#[]⟩), (.int .i64 0), (.int .i64 0)] := ⟨by kernel_rfl⟩
instance : TBld Tryz.prog 223 [(.string ⟨#[]⟩), (.int .i64 0), (.int .i64 0)] [(0, 1), (1, 1), (2, 1)] := ⟨by kernel_rfl, by kernel_rfl⟩
instance : TEqN Tryz.prog 223 [true, false, false] := ⟨by kernel_rfl, by kernel_rfl, by kernel_rfl, by kernel_rfl⟩
instance : TFld Tryz.prog 223 0 0 := ⟨by kernel_rfl⟩
instance : TPart Tryz.prog 223 0 0 1 false := ⟨by kernel_rfl⟩
instance : TFld Tryz.prog 223 1 1 := ⟨by kernel_rfl⟩
instance : TPart Tryz.prog 223 1 1 1 false := ⟨by kernel_rfl⟩
instance : TFld Tryz.prog 223 2 2 := ⟨by kernel_rfl⟩
instance : TPart Tryz.prog 223 2 2 1 false := ⟨by kernel_rfl⟩
instance : TConc Tryz.prog 223 := ⟨_, Tryz.underlying223, rfl⟩
instance : TOne Tryz.prog 224 := ⟨by kernel_rfl, by kernel_rfl⟩
instance : TZero Tryz.prog 224 [(.pointer none)] := ⟨by kernel_rfl⟩
instance : TPtr Tryz.prog 224 := ⟨_, Tryz.underlying224⟩
instance : TConc Tryz.prog 224 := ⟨_, Tryz.underlying224, rfl⟩
end SX
namespace SX
open Go Go.Proofs
theorem ent_roZ {L : List Assn} : Ent L (ro (fun _ => none) :: L) := fun m h => ⟨fun _ => none, m, (fun k x hk => by cases hk), h, (fun _ => .inl rfl), (fun _ _ h => by cases h), (fun _ _ h => h)⟩
abbrev rdB (p : Nat) (s : List UInt8) (r : RS) : Assn := blk p 213 [.string (str s), .int .i64 (r.1 : Nat), .int .i64 r.2]
theorem newR_spec (s : List UInt8) : Spec Tryz.prog 139 [.string (str s)] [] (fun v L => ∃ p, v = .pointer (some ⟨p, 0, none⟩) ∧ L = [rdB p s (0, 0)]) := by
  refine Spec.of 6 Tryz.func139 rfl rfl rfl ?_
  refine swp_sr ?_
  refine s_as rfl ?_
  refine swl_sub _ (sc0 0 rfl .nil) ?_
  refine swl_nn ?_
  refine swp_sr ?_
  refine s_mv rfl ?_
  refine s_pu (pu_bld (qs := [(0, _)]) rfl) ?_
  refine s_ef (ef_box rfl rfl) ?_
  intro b5
  refine s_as rfl ?_
  refine swl_sub _ (sc0 2 rfl .nil) ?_
  refine swl_nn ?_
  refine swp_ret ?_
  exact done_ret [blk b5 213 [.string (str s), .int .i64 0, .int .i64 0]] (.tmp rfl .nil) ⟨b5, rfl, rfl⟩ sp0
theorem rdErr_spec (p : Nat) (s : List UInt8) (r : RS) : Spec Tryz.prog 167 [.pointer (some ⟨p, 0, none⟩)] [rdB p s r] (fun v L => v = .int .i64 r.2 ∧ L = [rdB p s r]) := by
  refine Spec.of 9 Tryz.func167 rfl rfl rfl ?_
  refine swp_sr ?_
  refine s_as rfl ?_
  refine swl_sub _ (sc0 0 rfl .nil) ?_
  refine swl_nn ?_
  refine swp_seq ?_
  refine swp_sr ?_
  refine s_mv rfl ?_
  refine s_pu (pu_ptr_eq_nil rfl rfl) ?_
  refine swl_sub _ (sc0 0 rfl (sc0 4 rfl .nil)) ?_
  refine swl_nn ?_
  refine swp_cond (b := _) rfl (fun h4 => by cases h4) (fun h4 => ?_)
  refine swp_skip ?_
  refine then_n ?_
  refine swp_sr ?_
  refine s_mv rfl ?_
  first | refine s_pu (pu_nilCheck rfl) ?_ | refine s_pu (pu_nilCheck_fn rfl) ?_ | refine s_pu (pu_nilCheck_if rfl) ?_
  first | refine s_pu (pu_fieldAddr0 rfl) ?_ | refine s_pu (pu_fieldAddr rfl) ?_
  refine s_rd (rd_load rfl rfl) ?_
  refine s_as rfl ?_
  refine swl_sub _ (sc0 2 rfl .nil) ?_
  refine swl_nn ?_
  refine swp_ret ?_
  exact done_ret [rdB p s r] (.tmp rfl .nil) ⟨rfl, rfl⟩ sp0
theorem rdAt_spec (p : Nat) (s : List UInt8) (r : RS) : Spec Tryz.prog 143 [.pointer (some ⟨p, 0, none⟩)] [rdB p s r] (fun v L => v = .int .i64 (r.1 : Nat) ∧ L = [rdB p s r]) := by
  refine Spec.of 9 Tryz.func143 rfl rfl rfl ?_
  refine swp_sr ?_
  refine s_as rfl ?_
  refine swl_sub _ (sc0 0 rfl .nil) ?_
  refine swl_nn ?_
  refine swp_seq ?_
  refine swp_sr ?_
  refine s_mv rfl ?_
  refine s_pu (pu_ptr_eq_nil rfl rfl) ?_
  refine swl_sub _ (sc0 0 rfl (sc0 4 rfl .nil)) ?_
  refine swl_nn ?_
  refine swp_cond (b := _) rfl (fun h4 => by cases h4) (fun h4 => ?_)
  refine swp_skip ?_
  refine then_n ?_
  refine swp_sr ?_
  refine s_mv rfl ?_
  first | refine s_pu (pu_nilCheck rfl) ?_ | refine s_pu (pu_nilCheck_fn rfl) ?_ | refine s_pu (pu_nilCheck_if rfl) ?_
  first | refine s_pu (pu_fieldAddr0 rfl) ?_ | refine s_pu (pu_fieldAddr rfl) ?_
  refine s_rd (rd_load rfl rfl) ?_
  refine s_as rfl ?_
  refine swl_sub _ (sc0 2 rfl .nil) ?_
  refine swl_nn ?_
  refine swp_ret ?_
  exact done_ret [rdB p s r] (.tmp rfl .nil) ⟨rfl, rfl⟩ sp0
theorem rdLeft_spec (p : Nat) (s : List UInt8) (r : RS) (hs : s.length ≤ 1073741824) (hr : r.1 ≤ s.length) : Spec Tryz.prog 169 [.pointer (some ⟨p, 0, none⟩)] [rdB p s r] (fun v L => v = .int .i64 ((s.length - r.1 : Nat) : Int) ∧ L = [rdB p s r]) := by
  refine Spec.of 15 Tryz.func169 rfl rfl rfl ?_
  refine swp_sr ?_
  refine s_as rfl ?_
  refine swl_sub _ (sc0 0 rfl .nil) ?_
  refine swl_nn ?_
  refine swp_seq ?_
  refine swp_sr ?_
  refine s_mv rfl ?_
  refine s_pu (pu_ptr_eq_nil rfl rfl) ?_
  refine swl_sub _ (sc0 0 rfl (sc0 4 rfl .nil)) ?_
  refine swl_nn ?_
  refine swp_cond (b := _) rfl (fun h4 => by cases h4) (fun h4 => ?_)
  refine swp_skip ?_
  refine then_n ?_
  refine swp_seq ?_
  refine swp_draw [3, 8] _ [] (by simp only [List.append_nil]; exact Ent.refl _) kr0 ?_
  refine d_pu 0 rfl (pu_move rfl) kr0 kr0 kr0 ?_
  first | refine d_pu 1 rfl (pu_nilCheck rfl) kr0 kr0 kr0 ?_ | refine d_pu 1 rfl (pu_nilCheck_fn rfl) kr0 kr0 kr0 ?_ | refine d_pu 1 rfl (pu_nilCheck_if rfl) kr0 kr0 kr0 ?_
  first | refine d_pu 2 rfl (pu_fieldAddr0 rfl) kr0 kr0 kr0 ?_ | refine d_pu 2 rfl (pu_fieldAddr rfl) kr0 kr0 kr0 ?_
  refine d_rd 3 rfl (rd_load rfl rfl) rfl kr0 kr0 kr0 ?_
  refine d_pu 4 rfl (pu_strln rfl) kr0 kr0 kr0 ?_
  refine d_pu 5 rfl (pu_move rfl) kr0 kr0 kr0 ?_
  first | refine d_pu 6 rfl (pu_nilCheck rfl) kr0 kr0 kr0 ?_ | refine d_pu 6 rfl (pu_nilCheck_fn rfl) kr0 kr0 kr0 ?_ | refine d_pu 6 rfl (pu_nilCheck_if rfl) kr0 kr0 kr0 ?_
  first | refine d_pu 7 rfl (pu_fieldAddr0 rfl) kr0 kr0 kr0 ?_ | refine d_pu 7 rfl (pu_fieldAddr rfl) kr0 kr0 kr0 ?_
  refine d_rd 8 rfl (rd_load rfl rfl) rfl kr0 kr0 kr0 ?_
  refine d_pu 9 rfl (pu_sub_as ((s.length - r.1 : Nat) : Int) rfl rfl om0 om0 om0) kr0 kr0 kr0 ?_
  refine d_pu 10 rfl (pu_assign rfl) kr0 kr0 kr0 ?_
  refine d_sub _ (sc0 2 rfl .nil) ?_
  first | refine d_nilt kr0 ?_ | refine d_nilf kr0 ?_
  refine then_n ?_
  refine swp_ret ?_
  exact done_ret [rdB p s r] (.tmp rfl .nil) ⟨rfl, rfl⟩ sp0
def failE (r : RS) (e : Int) : RS := (r.1, if r.2 = 0 then e else r.2)
theorem rdFail_spec (p : Nat) (s : List UInt8) (r : RS) (e : Int) : Spec Tryz.prog 168 [.pointer (some ⟨p, 0, none⟩), .int .i64 e] [rdB p s r] (fun v L => v = .int .i64 (failE r e).2 ∧ L = [rdB p s (failE r e)]) := by
  refine Spec.of 20 Tryz.func168 rfl rfl rfl ?_
  refine swp_sr ?_
  refine s_as rfl ?_
  refine swl_sub _ (sc0 0 rfl (sc0 1 rfl .nil)) ?_
  refine swl_nn ?_
  refine swp_seq ?_
  refine swp_sr ?_
  refine s_mv rfl ?_
  refine s_pu (pu_ptr_eq_nil rfl rfl) ?_
  refine swl_sub _ (sc0 0 rfl (sc0 1 rfl (sc0 6 rfl .nil))) ?_
  refine swl_nn ?_
  refine swp_cond (b := _) rfl (fun h6 => by cases h6) (fun h6 => ?_)
  refine swp_skip ?_
  refine then_n ?_
  refine swp_seq ?_
  refine swp_sr ?_
  refine s_mv rfl ?_
  first | refine s_pu (pu_nilCheck rfl) ?_ | refine s_pu (pu_nilCheck_fn rfl) ?_ | refine s_pu (pu_nilCheck_if rfl) ?_
  first | refine s_pu (pu_fieldAddr0 rfl) ?_ | refine s_pu (pu_fieldAddr rfl) ?_
  refine s_rd (rd_load rfl rfl) ?_
  refine s_pu (pu_eql rfl rfl) ?_
  refine swl_sub _ (sc0 0 rfl (sc0 1 rfl (sc0 11 rfl .nil))) ?_
  refine swl_nn ?_
  refine swp_cond (b := _) rfl (fun h11 => ?_) (fun h11 => ?_)
  · skip   -- 11 T
    refine swp_region ?_
    refine s_mv rfl ?_
    refine s_mv rfl ?_
    first | refine s_pu (pu_nilCheck rfl) ?_ | refine s_pu (pu_nilCheck_fn rfl) ?_ | refine s_pu (pu_nilCheck_if rfl) ?_
    first | refine s_pu (pu_fieldAddr0 rfl) ?_ | refine s_pu (pu_fieldAddr rfl) ?_
    refine s_ef0 (ef_store rfl rfl rfl) ?_
    refine swl_sub _ (sc0 0 rfl .nil) ?_
    refine swl_nn ?_
    refine swp_sr ?_
    refine s_mv rfl ?_
    first | refine s_pu (pu_nilCheck rfl) ?_ | refine s_pu (pu_nilCheck_fn rfl) ?_ | refine s_pu (pu_nilCheck_if rfl) ?_
    first | refine s_pu (pu_fieldAddr0 rfl) ?_ | refine s_pu (pu_fieldAddr rfl) ?_
    refine s_rd (rd_load rfl rfl) ?_
    refine s_as rfl ?_
    refine swl_sub _ (sc0 4 rfl .nil) ?_
    refine swl_nn ?_
    refine swp_ret ?_
    have h : failE r e = (r.1, e) := by unfold failE; rw [if_pos (of_decide_eq_true h11)]
    rw [h]
    exact done_ret [rdB p s (r.1, e)] (.tmp rfl .nil) ⟨rfl, rfl⟩ sp0
  · skip   -- 11 F
    refine swp_skip ?_
    refine then_n ?_
    refine swp_sr ?_
    refine s_mv rfl ?_
    first | refine s_pu (pu_nilCheck rfl) ?_ | refine s_pu (pu_nilCheck_fn rfl) ?_ | refine s_pu (pu_nilCheck_if rfl) ?_
    first | refine s_pu (pu_fieldAddr0 rfl) ?_ | refine s_pu (pu_fieldAddr rfl) ?_
    refine s_rd (rd_load rfl rfl) ?_
    refine s_as rfl ?_
    refine swl_sub _ (sc0 4 rfl .nil) ?_
    refine swl_nn ?_
    refine swp_ret ?_
    have h : failE r e = r := by unfold failE; rw [if_neg (of_decide_eq_false h11)]
    rw [h]
    exact done_ret [rdB p s r] (.tmp rfl .nil) ⟨rfl, rfl⟩ sp0
theorem rdRaw_spec (p : Nat) (s : List UInt8) (r : RS) (n : Nat) (hs : s.length ≤ 1073741824) (hr : r.1 ≤ s.length) (hn : n ≤ 4294967296) : Spec Tryz.prog 142 [.pointer (some ⟨p, 0, none⟩), .int .i64 (n : Nat)] [rdB p s r] (fun v L => v = .tuple #[.string (str (rawV s n r)), .int .i64 (rawR s n r).2] ∧ L = [rdB p s (rawR s n r)]) := by
  refine Spec.of 55 Tryz.func142 rfl rfl rfl ?_
  refine swp_sr ?_
  refine s_as rfl ?_
  refine s_as rfl ?_
  refine swl_sub _ (sc0 0 rfl (sc0 1 rfl .nil)) ?_
  refine swl_nn ?_
  refine swp_seq ?_
  refine swp_block ?_
  refine swp_sr ?_
  refine s_mv rfl ?_
  refine s_pu (pu_ptr_eq_nil rfl rfl) ?_
  refine s_mv rfl ?_
  refine s_on rfl rfl ?_
  refine s_mv rfl ?_
  refine s_on rfl rfl ?_
  first | refine s_pu (pu_nilCheck rfl) ?_ | refine s_pu (pu_nilCheck_fn rfl) ?_ | refine s_pu (pu_nilCheck_if rfl) ?_
  refine s_on rfl rfl ?_
  first | refine s_pu (pu_fieldAddr0 rfl) ?_ | refine s_pu (pu_fieldAddr rfl) ?_
  refine s_on rfl rfl ?_
  refine s_rd (rd_load rfl rfl) ?_
  refine s_on rfl rfl ?_
  refine s_pu (pu_neq rfl rfl) ?_
  first | refine s_pu (pu_pick_t rfl rfl) ?_ | refine s_pu (pu_pick_f rfl rfl) ?_
  refine s_as rfl ?_
  refine swl_sub _ (sc0 0 rfl (sc0 1 rfl (sc0 7 rfl .nil))) ?_
  refine swl_nn ?_
  refine swp_cond (b := _) rfl (fun h7 => ?_) (fun h7 => ?_)
  · skip   -- 7 T
    refine swp_sr ?_
    refine s_mv rfl ?_
    refine s_ef (ef_fn (rdErr_spec p s r) rfl rfl sp0) ?_
    rintro v18 L1 ⟨rfl, rfl⟩
    refine swl_app ?_
    refine s_as rfl ?_
    refine s_as rfl ?_
    refine swl_sub _ (sc0 4 rfl (sc0 5 rfl .nil)) ?_
    refine swl_nn ?_
    refine swp_ret ?_
    refine block_r ?_
    refine then_r ?_
    have h15' : r.2 ≠ 0 := fun e => by rw [e] at h7; exact absurd h7 (by decide)
    have e1 : rawR s n r = r := by unfold rawR; rw [if_pos h15']
    have e2 : rawV s n r = [] := by unfold rawV; rw [if_pos (.inl h15')]
    rw [e1, e2]
    exact done_ret [rdB p s r] (.tmp rfl (.tmp rfl .nil)) ⟨rfl, rfl⟩ sp0
  · skip   -- 7 F
    have h7' : r.2 = 0 := by
      by_cases e : r.2 = 0
      · exact e
      · rw [decide_eq_false e] at h7; cases h7
    refine swp_sr ?_
    refine s_mv rfl ?_
    refine s_pu (pu_lss rfl rfl) ?_
    refine s_as rfl ?_
    refine swl_sub _ (sc0 0 rfl (sc0 1 rfl (sc0 19 rfl .nil))) ?_
    refine swl_nn ?_
    refine swp_cond (b := _) rfl (fun h19 => by exfalso; have := of_decide_eq_true h19; omega) (fun h19 => ?_)
    refine swp_sr ?_
    refine s_mv rfl ?_
    refine s_mv rfl ?_
    refine s_ef (ef_fn (rdLeft_spec p s r hs hr) rfl rfl sp0) ?_
    rintro v27 L1 ⟨rfl, rfl⟩
    refine swl_app ?_
    refine s_pu (pu_gtr rfl rfl) ?_
    refine s_as rfl ?_
    refine swl_sub _ (sc0 0 rfl (sc0 1 rfl (sc0 24 rfl .nil))) ?_
    refine swl_nn ?_
    refine swp_cond (b := _) rfl (fun h24 => ?_) (fun h24 => ?_)
    · skip   -- 24 T
      refine swp_sr ?_
      refine s_mv rfl ?_
      refine s_ef (ef_fn (rdFail_spec p s r 2) rfl rfl sp0) ?_
      rintro v30 L1 ⟨rfl, rfl⟩
      refine swl_app ?_
      refine s_as rfl ?_
      refine s_as rfl ?_
      refine swl_sub _ (sc0 4 rfl (sc0 5 rfl .nil)) ?_
      refine swl_nn ?_
      refine swp_ret ?_
      refine block_r ?_
      refine then_r ?_
      have h24' : s.length < r.1 + n := by have := of_decide_eq_true h24; omega
      have e1 : rawR s n r = (r.1, 2) := by unfold rawR; rw [if_neg (not_not_intro h7'), if_pos h24']
      have e2 : rawV s n r = [] := by unfold rawV; rw [if_pos (.inr h24')]
      have e3 : failE r 2 = (r.1, 2) := by unfold failE; rw [if_pos h7']
      rw [e1, e2, e3]
      exact done_ret [rdB p s (r.1, 2)] (.tmp rfl (.tmp rfl .nil)) ⟨rfl, rfl⟩ sp0
    · skip   -- 24 F
      have h24' : r.1 + n ≤ s.length := by have := of_decide_eq_false h24; omega
      refine swp_skip ?_
      refine block_n ?_
      refine then_n ?_
      refine swp_seq ?_
      refine swp_draw [3, 7, 11] _ [] (by simp only [List.append_nil]; exact Ent.refl _) kr0 ?_
      refine d_pu 0 rfl (pu_move rfl) kr0 kr0 kr0 ?_
      first | refine d_pu 1 rfl (pu_nilCheck rfl) kr0 kr0 kr0 ?_ | refine d_pu 1 rfl (pu_nilCheck_fn rfl) kr0 kr0 kr0 ?_ | refine d_pu 1 rfl (pu_nilCheck_if rfl) kr0 kr0 kr0 ?_
      first | refine d_pu 2 rfl (pu_fieldAddr0 rfl) kr0 kr0 kr0 ?_ | refine d_pu 2 rfl (pu_fieldAddr rfl) kr0 kr0 kr0 ?_
      refine d_rd 3 rfl (rd_load rfl rfl) rfl kr0 kr0 kr0 ?_
      refine d_pu 4 rfl (pu_move rfl) kr0 kr0 kr0 ?_
      first | refine d_pu 5 rfl (pu_nilCheck rfl) kr0 kr0 kr0 ?_ | refine d_pu 5 rfl (pu_nilCheck_fn rfl) kr0 kr0 kr0 ?_ | refine d_pu 5 rfl (pu_nilCheck_if rfl) kr0 kr0 kr0 ?_
      first | refine d_pu 6 rfl (pu_fieldAddr0 rfl) kr0 kr0 kr0 ?_ | refine d_pu 6 rfl (pu_fieldAddr rfl) kr0 kr0 kr0 ?_
      refine d_rd 7 rfl (rd_load rfl rfl) rfl kr0 kr0 kr0 ?_
      refine d_pu 8 rfl (pu_move rfl) kr0 kr0 kr0 ?_
      first | refine d_pu 9 rfl (pu_nilCheck rfl) kr0 kr0 kr0 ?_ | refine d_pu 9 rfl (pu_nilCheck_fn rfl) kr0 kr0 kr0 ?_ | refine d_pu 9 rfl (pu_nilCheck_if rfl) kr0 kr0 kr0 ?_
      first | refine d_pu 10 rfl (pu_fieldAddr0 rfl) kr0 kr0 kr0 ?_ | refine d_pu 10 rfl (pu_fieldAddr rfl) kr0 kr0 kr0 ?_
      refine d_rd 11 rfl (rd_load rfl rfl) rfl kr0 kr0 kr0 ?_
      refine d_pu 12 rfl (pu_move rfl) kr0 kr0 kr0 ?_
      refine d_pu 13 rfl (pu_add_as ((r.1 + n : Nat) : Int) rfl rfl om0 om0 om0) kr0 kr0 kr0 ?_
      refine d_pu 14 rfl (pu_strmid r.1 (r.1 + n) rfl rfl rfl rfl rfl om0 h24') kr0 kr0 kr0 ?_
      refine d_pu 15 rfl (pu_assign rfl) kr0 kr0 kr0 ?_
      refine d_sub _ (sc0 0 rfl (sc0 1 rfl (sc0 6 rfl .nil))) ?_
      first | refine d_nilt kr0 ?_ | refine d_nilf kr0 ?_
      refine then_n ?_
      refine swp_sr ?_
      refine s_mv rfl ?_
      first | refine s_pu (pu_nilCheck rfl) ?_ | refine s_pu (pu_nilCheck_fn rfl) ?_ | refine s_pu (pu_nilCheck_if rfl) ?_
      first | refine s_pu (pu_fieldAddr0 rfl) ?_ | refine s_pu (pu_fieldAddr rfl) ?_
      refine s_rd (rd_load rfl rfl) ?_
      refine s_mv rfl ?_
      refine s_pu (pu_add_as ((r.1 + n : Nat) : Int) rfl rfl om0 om0 om0) ?_
      first | refine s_pu (pu_nilCheck rfl) ?_ | refine s_pu (pu_nilCheck_fn rfl) ?_ | refine s_pu (pu_nilCheck_if rfl) ?_
      first | refine s_pu (pu_fieldAddr0 rfl) ?_ | refine s_pu (pu_fieldAddr rfl) ?_
      refine s_ef0 (ef_store rfl rfl rfl) ?_
      refine swl_sub _ (sc0 6 rfl .nil) ?_
      refine swl_nn ?_
      refine swp_sr ?_
      refine s_mv rfl ?_
      refine s_as rfl ?_
      refine s_as rfl ?_
      refine swl_sub _ (sc0 4 rfl (sc0 5 rfl .nil)) ?_
      refine swl_nn ?_
      refine swp_ret ?_
      have e1 : rawR s n r = (r.1 + n, 0) := by unfold rawR; rw [if_neg (not_not_intro h7'), if_neg om0]
      have e2 : rawV s n r = (s.drop r.1).take n := by unfold rawV; rw [if_neg (by rintro (h | h) <;> omega)]
      rw [e1, e2, ← h7']
      refine done_ret [rdB p s (r.1 + n, r.2)] (.tmp rfl (.tmp rfl .nil)) ⟨?_, rfl⟩ sp0
      rw [h7', Nat.add_sub_cancel_left]
      rfl
theorem valB_take_succ {l : List UInt8} {i : Nat} {b : UInt8} (h : l[i]? = some b) : valB (l.take (i + 1)) = valB (l.take i) * 256 + b.toNat := by
  rw [List.take_add_one, h]
  exact valB_snoc _ _
theorem valB_small {l : List UInt8} (h : l.length ≤ 6) : valB l < 281474976710656 := by
  have h1 := valB_lt l
  have h2 : 256 ^ l.length ≤ 256 ^ 6 := Nat.pow_le_pow_right (by decide) h
  have h3 : 256 ^ 6 = 281474976710656 := by decide
  omega
set_option maxHeartbeats 1000000 in
theorem rdFixed_spec (p : Nat) (s : List UInt8) (r : RS) (n : Nat) (hs : s.length ≤ 1073741824) (hr : r.1 ≤ s.length) (hn : n ≤ 6) : Spec Tryz.prog 166 [.pointer (some ⟨p, 0, none⟩), .int .i64 (n : Nat)] [rdB p s r] (fun v L => v = .tuple #[.int .u64 (valB (rawV s n r) : Nat), .int .i64 (rawR s n r).2] ∧ L = [rdB p s (rawR s n r)]) := by
  refine Spec.of 32 Tryz.func166 rfl rfl rfl ?_
  refine swp_sr ?_
  refine s_as rfl ?_
  refine s_as rfl ?_
  refine swl_sub _ (sc0 0 rfl (sc0 1 rfl .nil)) ?_
  refine swl_nn ?_
  refine swp_sr ?_
  refine s_mv rfl ?_
  refine s_mv rfl ?_
  refine s_ef (ef_fn (rdRaw_spec p s r n hs hr om0) rfl rfl sp0) ?_
  rintro v14 L1 ⟨rfl, rfl⟩
  refine swl_app ?_
  refine s_mv rfl ?_
  first | refine s_pu (pu_extractL rfl) ?_ | refine s_pu (pu_extract rfl rfl) ?_
  first | refine s_pu (pu_extractL rfl) ?_ | refine s_pu (pu_extract rfl rfl) ?_
  refine s_as rfl ?_
  refine s_as rfl ?_
  refine swl_sub _ (sc0 6 rfl (sc0 7 rfl .nil)) ?_
  refine swl_nn ?_
  refine swp_seq ?_
  have hl := rawV_len s n r
  generalize rawV s n r = l at *
  generalize rawR s n r = r2 at *
  refine swp_region ?_
  refine s_as rfl ?_
  refine swl_sub _ (sc0 6 rfl (sc0 7 rfl (sc0 8 rfl .nil))) ?_
  refine swl_nn ?_
  refine swp_seq ?_
  refine swp_sr ?_
  refine s_mv rfl ?_
  refine s_ef (ef_bytes (e := 5) rfl (by rw [str_len]; simp only [maxLen]; omega)) ?_
  rintro g cap cs fr hc1 hc2 hcs
  skip
  refine s_pu (pu_len rfl) ?_
  refine s_mv rfl ?_
  refine swl_sub _ (sc0 7 rfl (sc0 8 rfl (sc0 18 rfl (sc0 19 rfl (sc0 20 rfl .nil))))) ?_
  refine swl_nn ?_
  refine swp_block ?_
  refine swp_ent ent_roZ ?_
  refine swp_share1 (b := g) (μ := fun _ => none) sp0 fun μ _ hg => ?_
  have hrow : Row μ (.slice (some ⟨g, 0, none⟩) l.length cap) 1 l.length (bcs l) := row_bytes hc1 hc2 hcs hg
  refine swp_loop (ι := Nat) (fun i env L => Sub env [(7, .int .i64 r2.2), (8, .int .u64 (valB (l.take i) : Nat)), (18, .slice (some ⟨g, 0, none⟩) l.length cap), (19, .int .i64 (l.length : Nat)), (20, .int .i64 (i : Nat))] ∧ L = [ro μ, rdB p s r2] ∧ i ≤ l.length) (fun i => l.length - i) 0 ⟨⟨rfl, rfl, rfl, rfl, rfl, trivial⟩, rfl, Nat.zero_le _⟩ ?_
  rintro i env L ⟨hsub, rfl, hi⟩
  refine swp_sub _ hsub ?_
  clear hsub env
  refine swp_sr ?_
  refine s_pu (pu_lss rfl rfl) ?_
  refine swl_sub _ (sc0 7 rfl (sc0 8 rfl (sc0 18 rfl (sc0 19 rfl (sc0 20 rfl (sc0 21 rfl .nil)))))) ?_
  refine swl_nn ?_
  refine swp_seq ?_
  refine swp_cond (b := _) rfl (fun h21 => ?_) (fun h21 => ?_)
  · skip   -- 21 T
    have h21' : i < l.length := by have := of_decide_eq_true h21; omega
    obtain ⟨b, hb⟩ : ∃ b, l[i]? = some b := ⟨_, List.getElem?_eq_getElem om0⟩
    obtain ⟨g', off, cap', hv, _, _, hr'⟩ := hrow.pos om0
    have hre := hr'.elem (f := bc1) (n := 1) (fun _ => rfl) hb
    injection hv with e1 e2 e3
    injection e1 with e1
    injection e1 with e4 e5
    subst e4 e5
    have hvs := valB_small (l := l.take i) (by rw [List.length_take]; omega)
    have hbl := b.toNat_lt
    refine swp_skip ?_
    refine then_n ?_
    refine swp_seq ?_
    refine swp_block ?_
    refine swp_sr ?_
    refine s_pu (pu_indexAddr (0 + i * 1) rfl rfl om0 om0 (by rw [Int.toNat_natCast])) ?_
    refine s_rd (rd_ro rfl hre.cell) ?_
    refine s_as rfl ?_
    refine swl_sub _ (sc0 7 rfl (sc0 8 rfl (sc0 10 rfl (sc0 18 rfl (sc0 19 rfl (sc0 20 rfl .nil)))))) ?_
    refine swl_nn ?_
    refine swp_region ?_
    refine s_mv rfl ?_
    refine s_pu (pu_shl8 (v := valB (l.take i)) rfl rfl om0) ?_
    refine s_mv rfl ?_
    refine s_pu (pu_conv_u64 rfl om0 om0) ?_
    refine s_pu (pu_or8 (m := valB (l.take i) * 256) (b := b.toNat) (v := valB (l.take i)) rfl rfl rfl hbl om0) ?_
    refine s_as rfl ?_
    refine swl_sub _ (sc0 7 rfl (sc0 8 rfl (sc0 18 rfl (sc0 19 rfl (sc0 20 rfl .nil))))) ?_
    refine swl_nil ?_
    refine block_n ?_
    refine then_n ?_
    refine swp_region ?_
    refine s_pu (pu_add_as ((i + 1 : Nat) : Int) rfl rfl om0 om0 om0) ?_
    refine s_mv rfl ?_
    refine swl_sub _ (sc0 7 rfl (sc0 8 rfl (sc0 18 rfl (sc0 19 rfl (sc0 20 rfl .nil))))) ?_
    refine swl_nil ?_
    exact then_n ⟨i + 1, ⟨⟨rfl, by rw [valB_take_succ hb]; rfl, rfl, rfl, rfl, trivial⟩, rfl, h21'⟩, by omega⟩
  · skip   -- 21 F
    have h21' := of_decide_eq_false h21
    obtain rfl : i = l.length := by omega
    rw [List.take_length]
    refine swp_exit ?_
    refine then_x ?_
    refine then_x ?_
    refine block_hit rfl ?_
    refine then_n ?_
    refine swp_sr ?_
    refine s_mv rfl ?_
    refine s_mv rfl ?_
    refine s_as rfl ?_
    refine s_as rfl ?_
    refine swl_sub _ (sc0 4 rfl (sc0 5 rfl .nil)) ?_
    refine swl_nn ?_
    refine swp_ret ?_
    exact done_ret [rdB p s r2] (.tmp rfl (.tmp rfl .nil)) ⟨rfl, rfl⟩ sp0
theorem valB_lt1 {l : List UInt8} (h : l.length ≤ 1) : valB l < 256 := by
  have h1 := valB_lt l
  have h2 : 256 ^ l.length ≤ 256 ^ 1 := Nat.pow_le_pow_right (by decide) h
  omega
theorem valB_lt2 {l : List UInt8} (h : l.length ≤ 2) : valB l < 65536 := by
  have h1 := valB_lt l
  have h2 : 256 ^ l.length ≤ 256 ^ 2 := Nat.pow_le_pow_right (by decide) h
  omega
theorem valB_lt4 {l : List UInt8} (h : l.length ≤ 4) : valB l < 4294967296 := by
  have h1 := valB_lt l
  have h2 : 256 ^ l.length ≤ 256 ^ 4 := Nat.pow_le_pow_right (by decide) h
  omega
theorem wrap_lt8 {n : Nat} (h : n < 256) : IntKind.u8.wrap (n : Int) = n := by simp [IntKind.wrap, IntKind.bits, IntKind.signed]; omega
theorem wrap_lt16 {n : Nat} (h : n < 65536) : IntKind.u16.wrap (n : Int) = n := by simp [IntKind.wrap, IntKind.bits, IntKind.signed]; omega
theorem wrap_lt32 {n : Nat} (h : n < 4294967296) : IntKind.u32.wrap (n : Int) = n := by simp [IntKind.wrap, IntKind.bits, IntKind.signed]; omega
theorem rdU8_spec (p : Nat) (s : List UInt8) (r : RS) (hs : s.length ≤ 1073741824) (hr : r.1 ≤ s.length) : Spec Tryz.prog 140 [.pointer (some ⟨p, 0, none⟩)] [rdB p s r] (fun v L => v = .tuple #[.int .u8 (valB (rawV s 1 r) : Nat), .int .i64 (rawR s 1 r).2] ∧ L = [rdB p s (rawR s 1 r)]) := by
  refine Spec.of 14 Tryz.func140 rfl rfl rfl ?_
  refine swp_sr ?_
  refine s_as rfl ?_
  refine s_as rfl ?_
  refine swl_sub _ (sc0 0 rfl .nil) ?_
  refine swl_nn ?_
  refine swp_sr ?_
  refine s_mv rfl ?_
  refine s_ef (ef_fn (rdFixed_spec p s r 1 hs hr (by decide)) rfl rfl sp0) ?_
  rintro v8 L1 ⟨rfl, rfl⟩
  refine swl_app ?_
  refine s_mv rfl ?_
  first | refine s_pu (pu_extractL rfl) ?_ | refine s_pu (pu_extract rfl rfl) ?_
  first | refine s_pu (pu_extractL rfl) ?_ | refine s_pu (pu_extract rfl rfl) ?_
  refine s_as rfl ?_
  refine s_as rfl ?_
  refine swl_sub _ (sc0 4 rfl (sc0 5 rfl .nil)) ?_
  refine swl_nn ?_
  refine swp_sr ?_
  refine s_mv rfl ?_
  refine s_pu (pu_conv_as rfl (wrap_lt8 (valB_lt1 (rawV_len s 1 r)))) ?_
  refine s_mv rfl ?_
  refine s_as rfl ?_
  refine s_as rfl ?_
  refine swl_sub _ (sc0 2 rfl (sc0 3 rfl .nil)) ?_
  refine swl_nn ?_
  refine swp_ret ?_
  exact done_ret [rdB p s (rawR s 1 r)] (.tmp rfl (.tmp rfl .nil)) ⟨rfl, rfl⟩ sp0
theorem rdU16_spec (p : Nat) (s : List UInt8) (r : RS) (hs : s.length ≤ 1073741824) (hr : r.1 ≤ s.length) : Spec Tryz.prog 144 [.pointer (some ⟨p, 0, none⟩)] [rdB p s r] (fun v L => v = .tuple #[.int .u16 (valB (rawV s 2 r) : Nat), .int .i64 (rawR s 2 r).2] ∧ L = [rdB p s (rawR s 2 r)]) := by
  refine Spec.of 14 Tryz.func144 rfl rfl rfl ?_
  refine swp_sr ?_
  refine s_as rfl ?_
  refine s_as rfl ?_
  refine swl_sub _ (sc0 0 rfl .nil) ?_
  refine swl_nn ?_
  refine swp_sr ?_
  refine s_mv rfl ?_
  refine s_ef (ef_fn (rdFixed_spec p s r 2 hs hr (by decide)) rfl rfl sp0) ?_
  rintro v8 L1 ⟨rfl, rfl⟩
  refine swl_app ?_
  refine s_mv rfl ?_
  first | refine s_pu (pu_extractL rfl) ?_ | refine s_pu (pu_extract rfl rfl) ?_
  first | refine s_pu (pu_extractL rfl) ?_ | refine s_pu (pu_extract rfl rfl) ?_
  refine s_as rfl ?_
  refine s_as rfl ?_
  refine swl_sub _ (sc0 4 rfl (sc0 5 rfl .nil)) ?_
  refine swl_nn ?_
  refine swp_sr ?_
  refine s_mv rfl ?_
  refine s_pu (pu_conv_as rfl (wrap_lt16 (valB_lt2 (rawV_len s 2 r)))) ?_
  refine s_mv rfl ?_
  refine s_as rfl ?_
  refine s_as rfl ?_
  refine swl_sub _ (sc0 2 rfl (sc0 3 rfl .nil)) ?_
  refine swl_nn ?_
  refine swp_ret ?_
  exact done_ret [rdB p s (rawR s 2 r)] (.tmp rfl (.tmp rfl .nil)) ⟨rfl, rfl⟩ sp0
theorem rdU32_spec (p : Nat) (s : List UInt8) (r : RS) (hs : s.length ≤ 1073741824) (hr : r.1 ≤ s.length) : Spec Tryz.prog 141 [.pointer (some ⟨p, 0, none⟩)] [rdB p s r] (fun v L => v = .tuple #[.int .u32 (valB (rawV s 4 r) : Nat), .int .i64 (rawR s 4 r).2] ∧ L = [rdB p s (rawR s 4 r)]) := by
  refine Spec.of 14 Tryz.func141 rfl rfl rfl ?_
  refine swp_sr ?_
  refine s_as rfl ?_
  refine s_as rfl ?_
  refine swl_sub _ (sc0 0 rfl .nil) ?_
  refine swl_nn ?_
  refine swp_sr ?_
  refine s_mv rfl ?_
  refine s_ef (ef_fn (rdFixed_spec p s r 4 hs hr (by decide)) rfl rfl sp0) ?_
  rintro v8 L1 ⟨rfl, rfl⟩
  refine swl_app ?_
  refine s_mv rfl ?_
  first | refine s_pu (pu_extractL rfl) ?_ | refine s_pu (pu_extract rfl rfl) ?_
  first | refine s_pu (pu_extractL rfl) ?_ | refine s_pu (pu_extract rfl rfl) ?_
  refine s_as rfl ?_
  refine s_as rfl ?_
  refine swl_sub _ (sc0 4 rfl (sc0 5 rfl .nil)) ?_
  refine swl_nn ?_
  refine swp_sr ?_
  refine s_mv rfl ?_
  refine s_pu (pu_conv_as rfl (wrap_lt32 (valB_lt4 (rawV_len s 4 r)))) ?_
  refine s_mv rfl ?_
  refine s_as rfl ?_
  refine s_as rfl ?_
  refine swl_sub _ (sc0 2 rfl (sc0 3 rfl .nil)) ?_
  refine swl_nn ?_
  refine swp_ret ?_
  exact done_ret [rdB p s (rawR s 4 r)] (.tmp rfl (.tmp rfl .nil)) ⟨rfl, rfl⟩ sp0
theorem rdEnd_spec (p : Nat) (s : List UInt8) (r : RS) (hs : s.length ≤ 1073741824) (hr : r.1 ≤ s.length) : Spec Tryz.prog 146 [.pointer (some ⟨p, 0, none⟩)] [rdB p s r] (fun v L => v = .int .i64 (endE s r) ∧ L = [rdB p s (r.1, endE s r)]) := by
  refine Spec.of 10 Tryz.func146 rfl rfl rfl ?_
  refine swp_sr ?_
  refine s_as rfl ?_
  refine swl_sub _ (sc0 0 rfl .nil) ?_
  refine swl_nn ?_
  refine swp_seq ?_
  refine swp_sr ?_
  refine s_mv rfl ?_
  refine s_ef (ef_fn (rdLeft_spec p s r hs hr) rfl rfl sp0) ?_
  rintro v4 L1 ⟨rfl, rfl⟩
  refine swl_app ?_
  refine s_pu (pu_gtr rfl rfl) ?_
  refine swl_sub _ (sc0 0 rfl (sc0 5 rfl .nil)) ?_
  refine swl_nn ?_
  refine swp_cond (b := _) rfl (fun h5 => ?_) (fun h5 => ?_)
  · skip   -- 5 T
    refine swp_sr ?_
    refine s_mv rfl ?_
    refine s_ef (ef_fn (rdFail_spec p s r 3) rfl rfl sp0) ?_
    rintro v7 L1 ⟨rfl, rfl⟩
    refine swl_app ?_
    refine s_as rfl ?_
    refine swl_sub _ (sc0 2 rfl .nil) ?_
    refine swl_nn ?_
    refine swp_ret ?_
    refine then_r ?_
    have h5' : r.1 < s.length := by have := of_decide_eq_true h5; omega
    have e : failE r 3 = (r.1, endE s r) := by
      unfold failE endE
      by_cases h : r.2 = 0
      · rw [if_pos h, if_neg (not_not_intro h), if_pos h5']
      · rw [if_neg h, if_pos h]
    rw [e]
    exact done_ret [rdB p s (r.1, endE s r)] (.tmp rfl .nil) ⟨rfl, rfl⟩ sp0
  · skip   -- 5 F
    refine swp_skip ?_
    refine then_n ?_
    refine swp_sr ?_
    refine s_mv rfl ?_
    refine s_ef (ef_fn (rdErr_spec p s r) rfl rfl sp0) ?_
    rintro v9 L1 ⟨rfl, rfl⟩
    refine swl_app ?_
    refine s_as rfl ?_
    refine swl_sub _ (sc0 2 rfl .nil) ?_
    refine swl_nn ?_
    refine swp_ret ?_
    have h5' : ¬ r.1 < s.length := by have := of_decide_eq_false h5; omega
    have e : endE s r = r.2 := by
      unfold endE
      by_cases h : r.2 = 0
      · rw [if_neg (not_not_intro h), if_neg h5', h]
      · rw [if_pos h]
    rw [e]
    exact done_ret [rdB p s r] (.tmp rfl .nil) ⟨rfl, rfl⟩ sp0
end SX
namespace SX
open Go Go.Proofs
theorem turn_spec (c : W32) : Spec Tryz.prog 170 [.int .u32 (c.toNat : Nat)] [] (fun v L => v = .int .u32 ((turnW c).toNat : Nat) ∧ L = []) := by
  refine Spec.of 11 Tryz.func170 rfl rfl rfl ?_
  refine swp_sr ?_
  refine s_as rfl ?_
  refine swl_sub _ (sc0 0 rfl .nil) ?_
  refine swl_nn ?_
  refine swp_seq ?_
  refine swp_sr ?_
  refine s_mv rfl ?_
  refine s_pu (pu_and_w32 (b := 1#32) rfl rfl) ?_
  refine s_pu (pu_neq rfl rfl) ?_
  refine swl_sub _ (sc0 0 rfl (sc0 5 rfl .nil)) ?_
  refine swl_nn ?_
  refine swp_cond (b := _) rfl (fun h5 => ?_) (fun h5 => ?_)
  · skip   -- 5 T
    have h5' : ¬ (c &&& 1#32) = 0#32 := by
      intro e; rw [e] at h5; simp at h5
    refine swp_sr ?_
    refine s_mv rfl ?_
    refine s_pu (pu_shr_w32 1 rfl rfl (by decide)) ?_
    refine s_pu (pu_xor_w32 (b := polyW) rfl rfl) ?_
    refine s_as rfl ?_
    refine swl_sub _ (sc0 2 rfl .nil) ?_
    refine swl_nn ?_
    refine swp_ret ?_
    refine then_r ?_
    exact done_ret [] (.tmp rfl .nil) ⟨by unfold turnW; rw [if_neg h5']; rfl, rfl⟩ sp0
  · skip   -- 5 F
    have h5' : (c &&& 1#32) = 0#32 := by
      have := of_decide_eq_true ((Bool.not_eq_false' _).mp h5)
      exact BitVec.eq_of_toNat_eq (Int.ofNat.inj this)
    refine swp_skip ?_
    refine then_n ?_
    refine swp_sr ?_
    refine s_mv rfl ?_
    refine s_pu (pu_shr_w32 1 rfl rfl (by decide)) ?_
    refine s_as rfl ?_
    refine swl_sub _ (sc0 2 rfl .nil) ?_
    refine swl_nn ?_
    refine swp_ret ?_
    exact done_ret [] (.tmp rfl .nil) ⟨by unfold turnW; rw [if_pos h5']; rfl, rfl⟩ sp0
theorem low_one (c : W32) : (c &&& 1#32) = 0#32 ∨ (c &&& 1#32) = 1#32 := by
  have : (c &&& 1#32).toNat < 2 := by
    rw [BitVec.toNat_and]; exact Nat.lt_of_le_of_lt Nat.and_le_right (by decide)
  rcases Nat.lt_or_ge (c &&& 1#32).toNat 1 with h | h
  · exact .inl (BitVec.eq_of_toNat_eq (by show _ = 0; omega))
  · exact .inr (BitVec.eq_of_toNat_eq (by show _ = 1; omega))
theorem rturn_spec (c : W32) : Spec Tryz.prog 171 [.int .u32 (c.toNat : Nat)] [] (fun v L => v = .int .u32 ((turnW c).toNat : Nat) ∧ L = []) := by
  refine Spec.of 11 Tryz.func171 rfl rfl rfl ?_
  refine swp_sr ?_
  refine s_as rfl ?_
  refine swl_sub _ (sc0 0 rfl .nil) ?_
  refine swl_nn ?_
  refine swp_seq ?_
  refine swp_sr ?_
  refine s_mv rfl ?_
  refine s_pu (pu_and_w32 (b := 1#32) rfl rfl) ?_
  refine s_pu (pu_eql rfl rfl) ?_
  refine swl_sub _ (sc0 0 rfl (sc0 5 rfl .nil)) ?_
  refine swl_nn ?_
  refine swp_cond (b := _) rfl (fun h5 => ?_) (fun h5 => ?_)
  · skip   -- 5 T
    have h5' : ¬ (c &&& 1#32) = 0#32 := by
      intro e; rw [e] at h5; simp at h5
    refine swp_sr ?_
    refine s_mv rfl ?_
    refine s_pu (pu_shr_w32 1 rfl rfl (by decide)) ?_
    refine s_pu (pu_xor_w32 (b := polyW) rfl rfl) ?_
    refine s_as rfl ?_
    refine swl_sub _ (sc0 2 rfl .nil) ?_
    refine swl_nn ?_
    refine swp_ret ?_
    refine then_r ?_
    exact done_ret [] (.tmp rfl .nil) ⟨by unfold turnW; rw [if_neg h5']; rfl, rfl⟩ sp0
  · skip   -- 5 F
    have h5' : (c &&& 1#32) = 0#32 := by
      refine (low_one c).resolve_right fun e => ?_
      rw [e] at h5; simp at h5
    refine swp_skip ?_
    refine then_n ?_
    refine swp_sr ?_
    refine s_mv rfl ?_
    refine s_pu (pu_shr_w32 1 rfl rfl (by decide)) ?_
    refine s_as rfl ?_
    refine swl_sub _ (sc0 2 rfl .nil) ?_
    refine swl_nn ?_
    refine swp_ret ?_
    exact done_ret [] (.tmp rfl .nil) ⟨by unfold turnW; rw [if_pos h5']; rfl, rfl⟩ sp0
theorem turns_succ (k : Nat) (c : W32) : turnsW (k + 1) c = turnW (turnsW k c) := by
  induction k generalizing c with
  | zero => rfl
  | succ k ih => rw [turnsW, ih]; rfl
set_option maxHeartbeats 1000000 in
theorem rmore_spec (c : W32) (s : ByteArray) (hs : s.size ≤ 1073741824) : Spec Tryz.prog 150 [.int .u32 (c.toNat : Nat), .string s] [] (fun v L => v = .int .u32 ((~~~ crcW (~~~ c) s.data.toList).toNat : Nat) ∧ L = []) := by
  have hl : s.data.toList.length = s.size := by rw [Array.length_toList]; rfl
  refine Spec.of 30 Tryz.func150 rfl rfl rfl ?_
  refine swp_sr ?_
  refine s_as rfl ?_
  refine swl_sub _ (sc0 0 rfl (sc0 1 rfl .nil)) ?_
  refine swl_nn ?_
  refine swp_sr ?_
  refine s_mv rfl ?_
  refine s_pu (pu_not_w32 rfl) ?_
  refine s_as rfl ?_
  refine swl_sub _ (sc0 1 rfl (sc0 5 rfl .nil)) ?_
  refine swl_nn ?_
  refine swp_seq ?_
  refine swp_sr ?_
  refine s_as rfl ?_
  refine swl_sub _ (sc0 1 rfl (sc0 5 rfl (sc0 6 rfl .nil))) ?_
  refine swl_nn ?_
  refine swp_block ?_
  refine swp_loop (ι := Nat × W32) (fun k env L => Sub env [(1, .string s), (5, .int .u32 (k.2.toNat : Nat)), (6, .int .i64 (k.1 : Nat))] ∧ L = [] ∧ k.1 ≤ s.size ∧ k.2 = crcW (~~~ c) (s.data.toList.take k.1)) (fun k => s.size - k.1) (0, ~~~ c) ⟨⟨rfl, rfl, rfl, trivial⟩, rfl, Nat.zero_le _, rfl⟩ ?_
  rintro ⟨i, d⟩ env L ⟨hsub, rfl, hi, hd⟩
  simp only [] at hi hd hsub
  refine swp_sub _ hsub ?_
  clear hsub env
  dsimp only
  refine swp_seq ?_
  refine swp_sr ?_
  refine s_mv rfl ?_
  refine s_mv rfl ?_
  refine s_pu (pu_strlen rfl) ?_
  refine s_pu (pu_lss rfl rfl) ?_
  refine swl_sub _ (sc0 1 rfl (sc0 5 rfl (sc0 6 rfl (sc0 13 rfl .nil)))) ?_
  refine swl_nn ?_
  refine swp_cond (b := _) rfl (fun h13 => ?_) (fun h13 => ?_)
  · skip   -- 13 T
    have h13' : i < s.size := by have := of_decide_eq_true h13; omega
    obtain ⟨b, hb⟩ : ∃ b, s.data.toList[i]? = some b := ⟨_, List.getElem?_eq_getElem om0⟩
    have hb32 : ((b.toNat : Nat) : Int) = ((BitVec.ofNat 32 b.toNat).toNat : Int) := by
      have := b.toNat_lt; rw [BitVec.toNat_ofNat, Nat.mod_eq_of_lt om0]
    refine swp_skip ?_
    refine then_n ?_
    refine swp_seq ?_
    refine swp_block ?_
    refine swp_sr ?_
    refine s_mv rfl ?_
    refine s_mv rfl ?_
    refine s_mv rfl ?_
    refine s_pu (pu_str_index rfl rfl rfl hb) ?_
    refine s_pu (pu_conv_as (k' := .u32) (n := ((BitVec.ofNat 32 b.toNat).toNat : Int)) (by rw [← hb32]; rfl) (wrap_word32 _)) ?_
    refine s_pu (pu_xor_w32 rfl rfl) ?_
    refine s_as rfl ?_
    refine swl_sub _ (sc0 1 rfl (sc0 5 rfl (sc0 6 rfl .nil))) ?_
    refine swl_nn ?_
    refine swp_sr ?_
    refine s_as rfl ?_
    refine swl_sub _ (sc0 1 rfl (sc0 5 rfl (sc0 6 rfl (sc0 7 rfl .nil)))) ?_
    refine swl_nn ?_
    refine swp_block ?_
    refine swp_loop (ι := Nat) (fun k env L => Sub env [(1, .string s), (5, .int .u32 ((turnsW k (d ^^^ BitVec.ofNat 32 b.toNat)).toNat : Nat)), (6, .int .i64 (i : Nat)), (7, .int .i64 (k : Nat))] ∧ L = [] ∧ k ≤ 8) (fun k => 8 - k) 0 ⟨⟨rfl, rfl, rfl, rfl, trivial⟩, rfl, Nat.zero_le _⟩ ?_
    rintro k env L ⟨hsub, rfl, hk⟩
    refine swp_sub _ hsub ?_
    clear hsub env
    refine swp_seq ?_
    refine swp_sr ?_
    refine s_mv rfl ?_
    refine s_pu (pu_lss rfl rfl) ?_
    refine swl_sub _ (sc0 1 rfl (sc0 5 rfl (sc0 6 rfl (sc0 7 rfl (sc0 23 rfl .nil))))) ?_
    refine swl_nn ?_
    refine swp_cond (b := _) rfl (fun h23 => ?_) (fun h23 => ?_)
    · skip   -- 23 T
      have h23' : k < 8 := by have := of_decide_eq_true h23; omega
      refine swp_skip ?_
      refine then_n ?_
      refine swp_seq ?_
      refine swp_block ?_
      refine swp_region ?_
      refine s_mv rfl ?_
      refine s_ef (ef_fn (rturn_spec _) rfl rfl sp0) ?_
      rintro v27 L1 ⟨rfl, rfl⟩
      refine swl_app ?_
      refine s_as rfl ?_
      refine swl_sub _ (sc0 1 rfl (sc0 5 rfl (sc0 6 rfl (sc0 7 rfl .nil)))) ?_
      refine swl_nil ?_
      refine block_n ?_
      refine then_n ?_
      refine swp_region ?_
      refine s_mv rfl ?_
      refine s_pu (pu_add_as ((k + 1 : Nat) : Int) rfl rfl om0 om0 om0) ?_
      refine s_as rfl ?_
      refine swl_sub _ (sc0 1 rfl (sc0 5 rfl (sc0 6 rfl (sc0 7 rfl .nil)))) ?_
      refine swl_nil ?_
      refine then_n ⟨k + 1, ⟨⟨rfl, by rw [turns_succ]; rfl, rfl, rfl, trivial⟩, rfl, h23'⟩, by omega⟩
    · skip   -- 23 F
      have h23' := of_decide_eq_false h23
      obtain rfl : k = 8 := by omega
      refine swp_exit ?_
      refine then_x ?_
      refine then_x ?_
      refine block_hit rfl ?_
      refine block_n ?_
      refine then_n ?_
      refine swp_region ?_
      refine s_mv rfl ?_
      refine s_pu (pu_add_as ((i + 1 : Nat) : Int) rfl rfl om0 om0 om0) ?_
      refine s_as rfl ?_
      refine swl_sub _ (sc0 1 rfl (sc0 5 rfl (sc0 6 rfl .nil))) ?_
      refine swl_nil ?_
      refine then_n ⟨(i + 1, turnsW 8 (d ^^^ BitVec.ofNat 32 b.toNat)), ⟨⟨rfl, rfl, rfl, trivial⟩, rfl, h13', ?_⟩, by show s.size - (i + 1) < s.size - i; omega⟩
      show turnsW 8 (d ^^^ BitVec.ofNat 32 b.toNat) = crcW (~~~ c) (s.data.toList.take (i + 1))
      rw [List.take_add_one, hb, crcW, List.foldl_append, hd]; rfl
  · skip   -- 13 F
    have h13' := of_decide_eq_false h13
    obtain rfl : i = s.size := by omega
    rw [← hl, List.take_length] at hd
    subst hd
    refine swp_exit ?_
    refine then_x ?_
    refine then_x ?_
    refine block_hit rfl ?_
    refine then_n ?_
    refine swp_sr ?_
    refine s_mv rfl ?_
    refine s_pu (pu_not_w32 rfl) ?_
    refine s_as rfl ?_
    refine swl_sub _ (sc0 4 rfl .nil) ?_
    refine swl_nn ?_
    refine swp_ret ?_
    exact done_ret [] (.tmp rfl .nil) ⟨rfl, rfl⟩ sp0
end SX
namespace SX
open Go Go.Proofs
instance : TZero Tryz.prog 191 (List.replicate 256 (.int .u32 0)) := ⟨by kernel_rfl⟩
/-- the table, its first k places filled -/
def tabK (k : Nat) : List Value := (List.range 256).map fun i => if i < k then .int .u32 ((rowW i).toNat : Nat) else .int .u32 0
def tabC : List Value := (List.range 256).map fun i => .int .u32 ((rowW i).toNat : Nat)
theorem tabK_len (k : Nat) : (tabK k).length = 256 := by unfold tabK; rw [List.length_map, List.length_range]
theorem tabK_all : tabK 256 = tabC := by
  unfold tabK tabC
  refine List.map_congr_left fun i hi => ?_
  rw [if_pos (List.mem_range.1 hi)]
theorem tabK_zero : tabK 0 = List.replicate 256 (.int .u32 0) := by
  unfold tabK
  apply List.ext_getElem?
  intro i
  rw [List.getElem?_map, List.getElem?_replicate]
  by_cases h : i < 256
  · rw [List.getElem?_range h, if_pos h]; simp
  · rw [List.getElem?_eq_none (by simp; omega), if_neg h]; rfl
theorem tabK_get (k i : Nat) (hi : i < 256) : (tabK k)[i]? = some (if i < k then .int .u32 ((rowW i).toNat : Nat) else .int .u32 0) := by
  unfold tabK; rw [List.getElem?_map, List.getElem?_range hi]; rfl
theorem tabK_set {k : Nat} (hk : k < 256) : (tabK k).set k (.int .u32 ((rowW k).toNat : Nat)) = tabK (k + 1) := by
  apply List.ext_getElem?
  intro i
  rw [List.getElem?_set, tabK_len]
  by_cases hi : i < 256
  · rw [tabK_get _ _ hi, tabK_get _ _ hi]
    by_cases h : k = i
    · subst h; rw [if_pos rfl, if_pos hk, if_pos om0]
    · rw [if_neg h]
      by_cases h2 : i < k
      · rw [if_pos h2, if_pos om0]
      · rw [if_neg h2, if_neg om0]
  · rw [if_neg om0, List.getElem?_eq_none (by rw [tabK_len]; omega), List.getElem?_eq_none (by rw [tabK_len]; omega)]
theorem ent_roh {L : List Assn} : Ent L (ro (fun _ => none) :: L) := fun m h => ⟨fun _ => none, m, (fun k x hk => by cases hk), h, (fun _ => .inl rfl), (fun _ _ h => by cases h), (fun _ _ h => h)⟩
theorem tabC_get {i : Nat} (hi : i < 256) : tabC[i]? = some (.int .u32 ((rowW i).toNat : Nat)) := by
  unfold tabC; rw [List.getElem?_map, List.getElem?_range hi]; rfl
theorem tabC_len : tabC.length = 256 := by unfold tabC; rw [List.length_map, List.length_range]
theorem tabC_one : tabC.all Value.oneCell' = true := by
  rw [List.all_eq_true]; intro v hv; unfold tabC at hv; obtain ⟨i, _, rfl⟩ := List.mem_map.1 hv; rfl
theorem wv_small {n : Nat} (h : n < 4294967296) : ((n : Nat) : Int) = ((BitVec.ofNat 32 n).toNat : Int) := by rw [BitVec.toNat_ofNat, Nat.mod_eq_of_lt om0]
set_option maxHeartbeats 1000000 in
theorem rows_spec : Spec Tryz.prog 147 [] [] (fun v L => v = .agg tabC.toArray ∧ L = []) := by
  refine Spec.of 19 Tryz.func147 rfl rfl rfl ?_
  refine swp_sr ?_
  refine s_ef (ef_alloc) ?_
  intro b0
  refine swl_sub _ (sc0 0 rfl .nil) ?_
  refine swl_nn ?_
  refine swp_sr ?_
  refine s_ef (ef_alloc) ?_
  intro b1
  refine swl_sub _ (sc0 0 rfl (sc0 1 rfl .nil)) ?_
  refine swl_nn ?_
  refine swp_seq ?_
  refine swp_sr ?_
  refine s_mv rfl ?_
  refine swl_sub _ (sc0 0 rfl (sc0 1 rfl (sc0 4 rfl .nil))) ?_
  rw [← tabK_zero]
  refine swl_nn ?_
  refine swp_block ?_
  refine swp_loop (ι := Nat) (fun k env L => Sub env [(0, .pointer (some ⟨b0, 0, none⟩)), (1, .pointer (some ⟨b1, 0, none⟩)), (4, .int .i64 (k : Nat))] ∧ L = [blk b1 191 (tabK k), blk b0 191 (tabK 0)] ∧ k ≤ 256) (fun k => 256 - k) 0 ⟨⟨rfl, rfl, rfl, trivial⟩, rfl, Nat.zero_le _⟩ ?_
  rintro k env L ⟨hsub, rfl, hk⟩
  refine swp_sub _ hsub ?_
  clear hsub env
  refine swp_sr ?_
  refine s_pu (pu_lss rfl rfl) ?_
  refine swl_sub _ (sc0 0 rfl (sc0 1 rfl (sc0 4 rfl (sc0 5 rfl .nil)))) ?_
  refine swl_nn ?_
  refine swp_seq ?_
  refine swp_cond (b := _) rfl (fun h5 => ?_) (fun h5 => ?_)
  · skip   -- 5 T
    have h5' : k < 256 := by have := of_decide_eq_true h5; omega
    refine swp_skip ?_
    refine then_n ?_
    refine swp_seq ?_
    refine swp_block ?_
    refine swp_sr ?_
    refine s_mv rfl ?_
    refine s_as rfl ?_
    refine swl_sub _ (sc0 0 rfl (sc0 1 rfl (sc0 2 rfl (sc0 4 rfl .nil)))) ?_
    refine swl_nn ?_
    refine swp_sr ?_
    refine s_mv rfl ?_
    refine s_pu (pu_conv_as (k' := .u32) (n := ((BitVec.ofNat 32 k).toNat : Int)) (by rw [← wv_small om0]; rfl) (wrap_word32 _)) ?_
    refine s_as rfl ?_
    refine swl_sub _ (sc0 0 rfl (sc0 1 rfl (sc0 2 rfl (sc0 3 rfl (sc0 4 rfl .nil))))) ?_
    refine swl_nn ?_
    refine swp_seq ?_
    refine swp_sr ?_
    refine s_mv rfl ?_
    refine swl_sub _ (sc0 0 rfl (sc0 1 rfl (sc0 2 rfl (sc0 3 rfl (sc0 4 rfl (sc0 9 rfl .nil)))))) ?_
    refine swl_nn ?_
    refine swp_block ?_
    refine swp_loop (ι := Nat) (fun j env L => Sub env [(0, .pointer (some ⟨b0, 0, none⟩)), (1, .pointer (some ⟨b1, 0, none⟩)), (2, .int .i64 (k : Nat)), (3, .int .u32 ((turnsW j (BitVec.ofNat 32 k)).toNat : Nat)), (4, .int .i64 (k : Nat)), (9, .int .i64 (j : Nat))] ∧ L = [blk b1 191 (tabK k), blk b0 191 (tabK 0)] ∧ j ≤ 8) (fun j => 8 - j) 0 ⟨⟨rfl, rfl, rfl, rfl, rfl, rfl, trivial⟩, rfl, Nat.zero_le _⟩ ?_
    rintro j env L ⟨hsub, rfl, hj⟩
    refine swp_sub _ hsub ?_
    clear hsub env
    refine swp_sr ?_
    refine s_pu (pu_lss rfl rfl) ?_
    refine swl_sub _ (sc0 0 rfl (sc0 1 rfl (sc0 2 rfl (sc0 3 rfl (sc0 4 rfl (sc0 9 rfl (sc0 10 rfl .nil))))))) ?_
    refine swl_nn ?_
    refine swp_seq ?_
    refine swp_cond (b := _) rfl (fun h10 => ?_) (fun h10 => ?_)
    · skip   -- 10 T
      have h10' : j < 8 := by have := of_decide_eq_true h10; omega
      refine swp_skip ?_
      refine then_n ?_
      refine swp_seq ?_
      refine swp_block ?_
      refine swp_region ?_
      refine s_mv rfl ?_
      refine s_ef (ef_fn (turn_spec _) rfl rfl sp0) ?_
      rintro v12 L1 ⟨rfl, rfl⟩
      refine swl_app ?_
      refine s_as rfl ?_
      refine swl_sub _ (sc0 0 rfl (sc0 1 rfl (sc0 2 rfl (sc0 3 rfl (sc0 4 rfl (sc0 9 rfl .nil)))))) ?_
      refine swl_nil ?_
      refine block_n ?_
      refine then_n ?_
      refine swp_region ?_
      refine s_pu (pu_add_as ((j + 1 : Nat) : Int) rfl rfl om0 om0 om0) ?_
      refine s_mv rfl ?_
      refine swl_sub _ (sc0 0 rfl (sc0 1 rfl (sc0 2 rfl (sc0 3 rfl (sc0 4 rfl (sc0 9 rfl .nil)))))) ?_
      refine swl_nil ?_
      refine then_n ⟨j + 1, ⟨⟨rfl, rfl, rfl, by rw [turns_succ]; rfl, rfl, rfl, trivial⟩, rfl, h10'⟩, by omega⟩
    · skip   -- 10 F
      have h10' := of_decide_eq_false h10
      obtain rfl : j = 8 := by omega
      refine swp_exit ?_
      refine then_x ?_
      refine then_x ?_
      refine block_hit rfl ?_
      refine then_n ?_
      refine swp_region ?_
      refine s_mv rfl ?_
      refine s_mv rfl ?_
      refine s_pu (pu_indexAddr_arr k rfl rfl om0 om0 (by rw [Int.toNat_natCast]; omega)) ?_
      refine s_ef0 (ef_storeP rfl rfl rfl (by rw [tabK_len]; omega)) ?_
      refine swl_sub _ (sc0 0 rfl (sc0 1 rfl (sc0 4 rfl .nil))) ?_
      refine swl_nil ?_
      refine block_n ?_
      refine then_n ?_
      refine swp_region ?_
      refine s_pu (pu_add_as ((k + 1 : Nat) : Int) rfl rfl om0 om0 om0) ?_
      refine s_mv rfl ?_
      refine swl_sub _ (sc0 0 rfl (sc0 1 rfl (sc0 4 rfl .nil))) ?_
      refine swl_nil ?_
      exact then_n ⟨k + 1, ⟨⟨rfl, rfl, rfl, trivial⟩, by rw [← tabK_set h5']; rfl, h5'⟩, by omega⟩
  · skip   -- 5 F
    have h5' := of_decide_eq_false h5
    obtain rfl : k = 256 := by omega
    rw [tabK_all]
    refine swp_exit ?_
    refine then_x ?_
    refine then_x ?_
    refine block_hit rfl ?_
    refine then_n ?_
    refine swp_sr ?_
    refine s_rd (rd_of_ld rfl (ld_whole tabC_len)) ?_
    refine s_ef0 (ef_storeAs rfl rfl (cs' := tabC) (by unfold over; rw [List.take_zero, List.nil_append, List.drop_eq_nil_of_le (by rw [tabK_len, tabC_len]; decide), List.append_nil]) (by rw [tabK_len, tabC_len]; decide) tabC_len tabC_one) ?_
    refine swl_sub _ (sc0 0 rfl .nil) ?_
    refine swl_nn ?_
    refine swp_ret ?_
    exact done_ret [] (.cell rfl (ld_whole tabC_len) .nil) ⟨rfl, rfl⟩ sp0
set_option maxHeartbeats 1000000 in
theorem take_spec (c : W32) (t : Nat) (s : ByteArray) (hs : s.size ≤ 1073741824) : Spec Tryz.prog 148 [.pointer (some ⟨t, 0, none⟩), .int .u32 (c.toNat : Nat), .string s] [blk t 191 tabC] (fun v L => v = .int .u32 ((crcW c s.data.toList).toNat : Nat) ∧ L = [blk t 191 tabC]) := by
  have hl : s.data.toList.length = s.size := by rw [Array.length_toList]; rfl
  refine Spec.of 29 Tryz.func148 rfl rfl rfl ?_
  refine swp_sr ?_
  refine s_as rfl ?_
  refine swl_sub _ (sc0 0 rfl (sc0 1 rfl (sc0 2 rfl .nil))) ?_
  refine swl_nn ?_
  refine swp_seq ?_
  refine swp_sr ?_
  refine s_mv rfl ?_
  refine s_ef (ef_bytes (e := 5) rfl (by simp only [maxLen]; omega)) ?_
  rintro g cap cs fr hc1 hc2 hcs
  skip
  refine s_pu (pu_len rfl) ?_
  refine s_mv rfl ?_
  refine swl_sub _ (sc0 0 rfl (sc0 1 rfl (sc0 10 rfl (sc0 11 rfl (sc0 12 rfl .nil))))) ?_
  refine swl_nn ?_
  refine swp_block ?_
  refine swp_ent ent_roh ?_
  refine swp_share1 (b := g) (μ := fun _ => none) sp0 fun μ _ hg => ?_
  have hrow := row_bytes hc1 hc2 hcs hg
  refine swp_loop (ι := Nat) (fun i env L => Sub env [(0, .pointer (some ⟨t, 0, none⟩)), (1, .int .u32 (((s.data.toList.take i).foldl takeW c).toNat : Nat)), (10, .slice (some ⟨g, 0, none⟩) s.size cap), (11, .int .i64 (s.size : Nat)), (12, .int .i64 (i : Nat))] ∧ L = [ro μ, blk t 191 tabC] ∧ i ≤ s.size) (fun i => s.size - i) 0 ⟨⟨rfl, rfl, rfl, rfl, rfl, trivial⟩, rfl, Nat.zero_le _⟩ ?_
  rintro i env L ⟨hsub, rfl, hi⟩
  refine swp_sub _ hsub ?_
  clear hsub env
  generalize hd : (s.data.toList.take i).foldl takeW c = d
  refine swp_sr ?_
  refine s_pu (pu_lss rfl rfl) ?_
  refine swl_sub _ (sc0 0 rfl (sc0 1 rfl (sc0 10 rfl (sc0 11 rfl (sc0 12 rfl (sc0 13 rfl .nil)))))) ?_
  refine swl_nn ?_
  refine swp_seq ?_
  refine swp_cond (b := _) rfl (fun h13 => ?_) (fun h13 => ?_)
  · skip   -- 13 T
    have h13' : i < s.size := by have := of_decide_eq_true h13; omega
    obtain ⟨b, hb⟩ : ∃ b, s.data.toList[i]? = some b := ⟨_, List.getElem?_eq_getElem om0⟩
    obtain ⟨g', off, cap', hv, _, _, hr⟩ := hrow.pos om0
    have hre := hr.elem (f := bc1) (n := 1) (fun _ => rfl) hb
    injection hv with e1 e2 e3
    injection e1 with e1
    injection e1 with e4 e5
    subst e4 e5
    have hidx : (d.setWidth 8 ^^^ b.toBitVec).toNat < 256 := (d.setWidth 8 ^^^ b.toBitVec).isLt
    refine swp_skip ?_
    refine then_n ?_
    refine swp_seq ?_
    refine swp_block ?_
    refine swp_sr ?_
    refine s_pu (pu_indexAddr (0 + i * 1) rfl rfl om0 om0 (by rw [Int.toNat_natCast])) ?_
    refine s_rd (rd_ro rfl hre.cell) ?_
    refine s_as rfl ?_
    refine swl_sub _ (sc0 0 rfl (sc0 1 rfl (sc0 8 rfl (sc0 10 rfl (sc0 11 rfl (sc0 12 rfl .nil)))))) ?_
    refine swl_nn ?_
    refine swp_region ?_
    refine s_mv rfl ?_
    refine s_mv rfl ?_
    refine s_pu (pu_low8 d (by decide) rfl rfl) ?_
    refine s_mv rfl ?_
    refine s_pu (pu_xor_w8 (b := b.toBitVec) rfl rfl) ?_
    first | refine s_pu (pu_nilCheck rfl) ?_ | refine s_pu (pu_nilCheck_fn rfl) ?_ | refine s_pu (pu_nilCheck_if rfl) ?_
    refine s_pu (pu_indexAddr_arr (d.setWidth 8 ^^^ b.toBitVec).toNat rfl rfl om0 om0 (by rw [Int.toNat_natCast]; omega)) ?_
    refine s_rd (rd_load rfl (tabC_get hidx)) ?_
    refine s_mv rfl ?_
    refine s_pu (pu_shr_w32 8 rfl rfl (by decide)) ?_
    refine s_pu (pu_xor_w32 rfl rfl) ?_
    refine s_as rfl ?_
    refine swl_sub _ (sc0 0 rfl (sc0 1 rfl (sc0 10 rfl (sc0 11 rfl (sc0 12 rfl .nil))))) ?_
    refine swl_nil ?_
    refine block_n ?_
    refine then_n ?_
    refine swp_region ?_
    refine s_pu (pu_add_as ((i + 1 : Nat) : Int) rfl rfl om0 om0 om0) ?_
    refine s_mv rfl ?_
    refine swl_sub _ (sc0 0 rfl (sc0 1 rfl (sc0 10 rfl (sc0 11 rfl (sc0 12 rfl .nil))))) ?_
    refine swl_nil ?_
    refine then_n ⟨i + 1, ⟨⟨rfl, ?_, rfl, rfl, rfl, trivial⟩, rfl, h13'⟩, by omega⟩
    rw [List.take_add_one, hb, List.foldl_append, hd]; rfl
  · skip   -- 13 F
    have h13' := of_decide_eq_false h13
    obtain rfl : i = s.size := by omega
    rw [← hl, List.take_length, crc_take] at hd
    refine swp_exit ?_
    refine then_x ?_
    refine then_x ?_
    refine block_hit rfl ?_
    refine then_n ?_
    refine swp_sr ?_
    refine s_mv rfl ?_
    refine s_as rfl ?_
    refine swl_sub _ (sc0 6 rfl .nil) ?_
    refine swl_nn ?_
    refine swp_ret ?_
    exact done_ret [blk t 191 tabC] (.tmp rfl .nil) ⟨by rw [hd]; rfl, rfl⟩ sp0
set_option maxHeartbeats 1000000 in
theorem sum_spec (g cap : Nat) (s : ByteArray) (hs : s.size ≤ 1073741824) : Spec Tryz.prog 126 [.slice (some ⟨g, 0, none⟩) 1 cap] [blk g 9 [.string s]] (fun v L => v = .int .u32 ((sumW s.data.toList).toNat : Nat) ∧ L = []) := by
  refine Spec.of 20 Tryz.func126 rfl rfl rfl ?_
  refine swp_sr ?_
  refine s_as rfl ?_
  refine swl_sub _ (sc0 0 rfl .nil) ?_
  refine swl_nn ?_
  refine swp_sr ?_
  refine s_ef (ef_fn rows_spec rfl rfl sp0) ?_
  rintro v7 L1 ⟨rfl, rfl⟩
  refine swl_app ?_
  refine s_ef (ef_alloc) ?_
  intro b3
  refine s_ef0 (ef_storeAs rfl rfl (cs' := tabC) (by unfold over; rw [List.take_zero, List.nil_append, List.drop_eq_nil_of_le (by rw [List.length_replicate, tabC_len]; decide), List.append_nil]) (by rw [List.length_replicate, tabC_len]; decide) tabC_len tabC_one) ?_
  refine swl_sub _ (sc0 0 rfl (sc0 3 rfl .nil)) ?_
  refine swl_nn ?_
  refine swp_sr ?_
  refine s_as rfl ?_
  refine swl_sub _ (sc0 0 rfl (sc0 3 rfl (sc0 4 rfl .nil))) ?_
  refine swl_nn ?_
  refine swp_seq ?_
  refine swp_sr ?_
  refine s_mv rfl ?_
  refine s_pu (pu_len rfl) ?_
  refine s_mv rfl ?_
  refine swl_sub _ (sc0 3 rfl (sc0 4 rfl (sc0 8 rfl (sc0 9 rfl (sc0 10 rfl .nil))))) ?_
  refine swl_nn ?_
  refine swp_block ?_
  refine swp_loop (ι := Nat) (fun i env L => Sub env [(3, .pointer (some ⟨b3, 0, none⟩)), (4, .int .u32 ((if i = 0 then (~~~ 0#32) else crcW (~~~ 0#32) s.data.toList).toNat : Nat)), (8, .slice (some ⟨g, 0, none⟩) 1 cap), (9, .int .i64 1), (10, .int .i64 (i : Nat))] ∧ L = [blk b3 191 tabC, blk g 9 [.string s]] ∧ i ≤ 1) (fun i => 1 - i) 0 ⟨⟨rfl, rfl, rfl, rfl, rfl, trivial⟩, rfl, Nat.zero_le _⟩ ?_
  rintro i env L ⟨hsub, rfl, hi⟩
  refine swp_sub _ hsub ?_
  clear hsub env
  refine swp_sr ?_
  refine s_pu (pu_lss rfl rfl) ?_
  refine swl_sub _ (sc0 3 rfl (sc0 4 rfl (sc0 8 rfl (sc0 9 rfl (sc0 10 rfl (sc0 11 rfl .nil)))))) ?_
  refine swl_nn ?_
  refine swp_seq ?_
  refine swp_cond (b := _) rfl (fun h11 => ?_) (fun h11 => ?_)
  · skip   -- 11 T
    have h11' : i < 1 := by have := of_decide_eq_true h11; omega
    obtain rfl : i = 0 := by omega
    refine swp_skip ?_
    refine then_n ?_
    refine swp_seq ?_
    refine swp_block ?_
    refine swp_sr ?_
    refine s_pu (pu_indexAddr 0 rfl rfl om0 om0 (by decide)) ?_
    refine s_rd (rd_load rfl rfl) ?_
    refine s_as rfl ?_
    refine swl_sub _ (sc0 3 rfl (sc0 4 rfl (sc0 6 rfl (sc0 8 rfl (sc0 9 rfl (sc0 10 rfl .nil)))))) ?_
    refine swl_nn ?_
    refine swp_region ?_
    refine s_mv rfl ?_
    refine s_mv rfl ?_
    refine s_ef (ef_fn (take_spec (~~~ 0#32) b3 s hs) rfl rfl sp0) ?_
    rintro v16 L1 ⟨rfl, rfl⟩
    refine swl_app ?_
    refine s_as rfl ?_
    refine swl_sub _ (sc0 3 rfl (sc0 4 rfl (sc0 8 rfl (sc0 9 rfl (sc0 10 rfl .nil))))) ?_
    refine swl_nil ?_
    refine block_n ?_
    refine then_n ?_
    refine swp_region ?_
    refine s_pu (pu_add_as ((1 : Nat) : Int) rfl rfl om0 om0 om0) ?_
    refine s_mv rfl ?_
    refine swl_sub _ (sc0 3 rfl (sc0 4 rfl (sc0 8 rfl (sc0 9 rfl (sc0 10 rfl .nil))))) ?_
    refine swl_nil ?_
    exact then_n ⟨1, ⟨⟨rfl, rfl, rfl, rfl, rfl, trivial⟩, rfl, Nat.le_refl _⟩, by decide⟩
  · skip   -- 11 F
    have h11' := of_decide_eq_false h11
    obtain rfl : i = 1 := by omega
    refine swp_exit ?_
    refine then_x ?_
    refine then_x ?_
    refine block_hit rfl ?_
    refine then_n ?_
    refine swp_sr ?_
    refine s_mv rfl ?_
    refine s_pu (pu_not_w32 rfl) ?_
    refine s_as rfl ?_
    refine swl_sub _ (sc0 2 rfl .nil) ?_
    refine swl_nn ?_
    refine swp_ret ?_
    exact done_ret [] (.tmp rfl .nil) ⟨rfl, rfl⟩ sp0
set_option maxHeartbeats 1000000 in
theorem rsum_spec (g cap : Nat) (s : ByteArray) (hs : s.size ≤ 1073741824) : Spec Tryz.prog 131 [.slice (some ⟨g, 0, none⟩) 1 cap] [blk g 9 [.string s]] (fun v L => v = .int .u32 ((sumW s.data.toList).toNat : Nat) ∧ L = []) := by
  refine Spec.of 18 Tryz.func131 rfl rfl rfl ?_
  refine swp_sr ?_
  refine s_as rfl ?_
  refine swl_sub _ (sc0 0 rfl .nil) ?_
  refine swl_nn ?_
  refine swp_sr ?_
  refine s_as rfl ?_
  refine swl_sub _ (sc0 0 rfl (sc0 3 rfl .nil)) ?_
  refine swl_nn ?_
  refine swp_seq ?_
  refine swp_sr ?_
  refine s_as rfl ?_
  refine swl_sub _ (sc0 0 rfl (sc0 3 rfl (sc0 4 rfl .nil))) ?_
  refine swl_nn ?_
  refine swp_block ?_
  refine swp_loop (ι := Nat) (fun i env L => Sub env [(0, .slice (some ⟨g, 0, none⟩) 1 cap), (3, .int .u32 ((if i = 0 then 0#32 else sumW s.data.toList).toNat : Nat)), (4, .int .i64 (i : Nat))] ∧ L = [blk g 9 [.string s]] ∧ i ≤ 1) (fun i => 1 - i) 0 ⟨⟨rfl, rfl, rfl, trivial⟩, rfl, Nat.zero_le _⟩ ?_
  rintro i env L ⟨hsub, rfl, hi⟩
  refine swp_sub _ hsub ?_
  clear hsub env
  refine swp_seq ?_
  refine swp_sr ?_
  refine s_mv rfl ?_
  refine s_mv rfl ?_
  refine s_pu (pu_len rfl) ?_
  refine s_pu (pu_lss rfl rfl) ?_
  refine swl_sub _ (sc0 0 rfl (sc0 3 rfl (sc0 4 rfl (sc0 8 rfl .nil)))) ?_
  refine swl_nn ?_
  refine swp_cond (b := _) rfl (fun h8 => ?_) (fun h8 => ?_)
  · skip   -- 8 T
    have h8' : i < 1 := by have := of_decide_eq_true h8; omega
    obtain rfl : i = 0 := by omega
    refine swp_skip ?_
    refine then_n ?_
    refine swp_seq ?_
    refine swp_block ?_
    refine swp_region ?_
    refine s_mv rfl ?_
    refine s_mv rfl ?_
    refine s_mv rfl ?_
    refine s_pu (pu_indexAddr 0 rfl rfl om0 om0 (by decide)) ?_
    refine s_rd (rd_load rfl rfl) ?_
    refine s_ef (ef_fn (rmore_spec 0#32 s hs) rfl rfl sp0) ?_
    rintro v16 L1 ⟨rfl, rfl⟩
    refine swl_app ?_
    refine s_as rfl ?_
    refine swl_sub _ (sc0 0 rfl (sc0 3 rfl (sc0 4 rfl .nil))) ?_
    refine swl_nil ?_
    refine block_n ?_
    refine then_n ?_
    refine swp_region ?_
    refine s_mv rfl ?_
    refine s_pu (pu_add_as ((1 : Nat) : Int) rfl rfl om0 om0 om0) ?_
    refine s_as rfl ?_
    refine swl_sub _ (sc0 0 rfl (sc0 3 rfl (sc0 4 rfl .nil))) ?_
    refine swl_nil ?_
    exact then_n ⟨1, ⟨⟨rfl, rfl, rfl, trivial⟩, rfl, Nat.le_refl _⟩, by decide⟩
  · skip   -- 8 F
    have h8' := of_decide_eq_false h8
    obtain rfl : i = 1 := by omega
    refine swp_exit ?_
    refine then_x ?_
    refine then_x ?_
    refine block_hit rfl ?_
    refine then_n ?_
    refine swp_sr ?_
    refine s_mv rfl ?_
    refine s_as rfl ?_
    refine swl_sub _ (sc0 2 rfl .nil) ?_
    refine swl_nn ?_
    refine swp_ret ?_
    exact done_ret [] (.tmp rfl .nil) ⟨rfl, rfl⟩ sp0
end SX
namespace SX
open Go Go.Proofs
theorem bcs_app (a b : List UInt8) : bcs (a ++ b) = bcs a ++ bcs b := List.flatMap_append
set_option maxHeartbeats 1000000 in
theorem fixed_spec (p : Nat) (v : Value) (x : BitVec 64) (n : Nat) (bs : List UInt8) (hn : n ≤ 8) (hb : bs.length ≤ 1073741824) :
    Spec Tryz.prog 125 [.pointer (some ⟨p, 0, none⟩), .int .u64 (x.toNat : Nat), .int .i64 (n : Nat)] [blk p 171 [v], own 5 1 v bs.length (bcs bs)] (fun r L => r = .tuple #[] ∧ ∃ v', L = [blk p 171 [v'], own 5 1 v' (bs ++ bigW x n).length (bcs (bs ++ bigW x n))]) := by
  refine Spec.of 28 Tryz.func125 rfl rfl rfl ?_
  refine swp_seq ?_
  refine swp_sr ?_
  refine s_mv rfl ?_
  refine s_pu (pu_ptr_eq_nil rfl rfl) ?_
  refine swl_sub _ (sc0 0 rfl (sc0 1 rfl (sc0 2 rfl (sc0 7 rfl .nil)))) ?_
  refine swl_nn ?_
  refine swp_cond (b := _) rfl (fun h7 => by cases h7) (fun h7 => ?_)
  refine swp_skip ?_
  refine then_n ?_
  refine swp_sr ?_
  refine s_mv rfl ?_
  refine s_pu (pu_sub_as ((n : Int) - 1) rfl rfl om0 om0 om0) ?_
  refine s_as rfl ?_
  refine swl_sub _ (sc0 0 rfl (sc0 1 rfl (sc0 2 rfl .nil))) ?_
  refine swl_nn ?_
  refine swp_block ?_
  refine swp_loop (ι := Nat × Value) (fun k env L => Sub env [(0, .pointer (some ⟨p, 0, none⟩)), (1, .int .u64 (x.toNat : Nat)), (2, .int .i64 ((k.1 : Int) - 1))] ∧ Ent L [blk p 171 [k.2], own 5 1 k.2 (bs ++ (bigW x n).take (n - k.1)).length (bcs (bs ++ (bigW x n).take (n - k.1)))] ∧ k.1 ≤ n) (fun k => k.1) (n, v) ⟨⟨rfl, rfl, rfl, trivial⟩, by show Ent _ [blk p 171 [v], own 5 1 v (bs ++ (bigW x n).take (n - n)).length (bcs (bs ++ (bigW x n).take (n - n)))]; rw [Nat.sub_self, List.take_zero, List.append_nil]; exact Ent.refl _, Nat.le_refl _⟩ ?_
  rintro ⟨r, v1⟩ env L ⟨hsub, hE, hr⟩
  simp only [] at hsub hE hr
  refine swp_sub _ hsub ?_
  refine swp_ent hE ?_
  clear hsub hE env L
  dsimp only
  have hlen : (bs ++ (bigW x n).take (n - r)).length = bs.length + (n - r) := by rw [List.length_append, List.length_take, bigW_len]; omega
  refine swp_seq ?_
  refine swp_sr ?_
  refine s_mv rfl ?_
  refine s_pu (pu_geq rfl rfl) ?_
  refine swl_sub _ (sc0 0 rfl (sc0 1 rfl (sc0 2 rfl (sc0 11 rfl .nil)))) ?_
  refine swl_nn ?_
  refine swp_cond (b := _) rfl (fun h11 => ?_) (fun h11 => ?_)
  · skip   -- 11 T
    have h11' : 1 ≤ r := by have := of_decide_eq_true h11; omega
    refine swp_skip ?_
    refine then_n ?_
    refine swp_seq ?_
    refine swp_block ?_
    refine swp_draw [4] _ [] (by simp only [List.append_nil]; exact Ent.refl _) kr0 ?_
    refine d_pu 0 rfl (pu_move rfl) kr0 kr0 kr0 ?_
    refine d_pu 1 rfl (pu_move rfl) kr0 kr0 kr0 ?_
    first | refine d_pu 2 rfl (pu_nilCheck rfl) kr0 kr0 kr0 ?_ | refine d_pu 2 rfl (pu_nilCheck_fn rfl) kr0 kr0 kr0 ?_ | refine d_pu 2 rfl (pu_nilCheck_if rfl) kr0 kr0 kr0 ?_
    first | refine d_pu 3 rfl (pu_fieldAddr0 rfl) kr0 kr0 kr0 ?_ | refine d_pu 3 rfl (pu_fieldAddr rfl) kr0 kr0 kr0 ?_
    refine d_rd 4 rfl (rd_load rfl rfl) rfl kr0 kr0 kr0 ?_
    refine d_pu 5 rfl (pu_move rfl) kr0 kr0 kr0 ?_
    refine d_pu 6 rfl (pu_move rfl) kr0 kr0 kr0 ?_
    refine d_pu 7 rfl (pu_mul_as ((8 * (r - 1) : Nat) : Int) rfl rfl om0 om0 om0) kr0 kr0 kr0 ?_
    refine d_pu 8 rfl (pu_shr_w (8 * (r - 1)) rfl rfl om0) kr0 kr0 kr0 ?_
    refine d_pu 9 rfl (pu_low8 (x >>> (8 * (r - 1))) (by decide) rfl rfl) kr0 kr0 kr0 ?_
    refine d_eft 10 rfl kr0 (ef_bldS (qs := [(0, _)]) rfl rfl rfl) ?_
    intro b24
    refine ⟨_, Split.ent sp0, ?_⟩
    first | refine d_fint 11 rfl kr0 kr0 (ef_append_lit (m := 1) rfl rfl sp0 (by rw [hlen]; simp only [maxLen]; omega) (by rw [hlen]; omega)) ?_ | refine d_finf 11 rfl kr0 kr0 (ef_append_lit (m := 1) rfl rfl sp0 (by rw [hlen]; simp only [maxLen]; omega) (by rw [hlen]; omega)) ?_
    rintro v25 hv25
    obtain ⟨g25, c25, rfl⟩ := hv25 (by decide)
    first | refine d_pu 12 rfl (pu_nilCheck rfl) kr0 kr0 kr0 ?_ | refine d_pu 12 rfl (pu_nilCheck_fn rfl) kr0 kr0 kr0 ?_ | refine d_pu 12 rfl (pu_nilCheck_if rfl) kr0 kr0 kr0 ?_
    first | refine d_pu 13 rfl (pu_fieldAddr0 rfl) kr0 kr0 kr0 ?_ | refine d_pu 13 rfl (pu_fieldAddr rfl) kr0 kr0 kr0 ?_
    first | refine d_fin0t 14 rfl kr0 kr0 (ef_store rfl rfl rfl) ?_ | refine d_fin0f 14 rfl kr0 kr0 (ef_store rfl rfl rfl) ?_
    refine d_sub _ (sc0 0 rfl (sc0 1 rfl (sc0 2 rfl .nil))) ?_
    first | refine d_nilt kr0 ?_ | refine d_nilf kr0 ?_
    refine block_n ?_
    refine then_n ?_
    refine swp_region ?_
    refine s_mv rfl ?_
    refine s_pu (pu_sub_as (((r - 1 : Nat) : Int) - 1) rfl rfl om0 om0 om0) ?_
    refine s_as rfl ?_
    refine swl_sub _ (sc0 0 rfl (sc0 1 rfl (sc0 2 rfl .nil))) ?_
    refine swl_nil ?_
    have hge := bigW_get x (n := n) (i := n - r) om0
    have e1 : n - (r - 1) = n - r + 1 := by omega
    have e2 : n - 1 - (n - r) = r - 1 := by omega
    rw [e2] at hge
    have e3 : bs ++ (bigW x n).take (n - (r - 1)) = (bs ++ (bigW x n).take (n - r)) ++ [UInt8.ofBitVec ((x >>> (8 * (r - 1))).setWidth 8)] := by
      rw [e1, List.take_add_one, hge, List.append_assoc]; rfl
    refine then_n ⟨(r - 1, (.slice (some ⟨g25, 0, none⟩) ((bs ++ (bigW x n).take (n - r)).length + 1) c25)), ⟨⟨rfl, rfl, rfl, trivial⟩, ?_, by show r - 1 ≤ n; omega⟩, by show r - 1 < r; omega⟩
    show Ent _ [blk p 171 [(.slice (some ⟨g25, 0, none⟩) ((bs ++ (bigW x n).take (n - r)).length + 1) c25)], own 5 1 (.slice (some ⟨g25, 0, none⟩) ((bs ++ (bigW x n).take (n - r)).length + 1) c25) (bs ++ (bigW x n).take (n - (r - 1))).length (bcs (bs ++ (bigW x n).take (n - (r - 1))))]
    have e4 : ((bs ++ (bigW x n).take (n - r)) ++ [UInt8.ofBitVec ((x >>> (8 * (r - 1))).setWidth 8)]).length = (bs ++ (bigW x n).take (n - r)).length + 1 := by generalize bs ++ (bigW x n).take (n - r) = q; rw [List.length_append]; rfl
    have e5 : bcs ((bs ++ (bigW x n).take (n - r)) ++ [UInt8.ofBitVec ((x >>> (8 * (r - 1))).setWidth 8)]) = bcs (bs ++ (bigW x n).take (n - r)) ++ [.int .u8 (((x >>> (8 * (r - 1))).setWidth 8).toNat : Nat)] := by generalize bs ++ (bigW x n).take (n - r) = q; rw [bcs_app]; rfl
    rw [e3, e4, e5]
    exact Split.ent' sp0
  · skip   -- 11 F
    have h11' := of_decide_eq_false h11
    obtain rfl : r = 0 := by omega
    rw [Nat.sub_zero, List.take_of_length_le (by rw [bigW_len]; exact Nat.le_refl _)]
    refine swp_exit ?_
    refine then_x ?_
    refine then_x ?_
    refine block_hit rfl ?_
    exact done_ret [blk p 171 [v1], own 5 1 v1 (bs ++ bigW x n).length (bcs (bs ++ bigW x n))] .nil ⟨rfl, v1, rfl⟩ sp0
theorem newW_spec : Spec Tryz.prog 90 [] [] (fun r L => ∃ p, r = .pointer (some ⟨p, 0, none⟩) ∧ L = [blk p 171 [.slice none 0 0]]) := by
  refine Spec.of 3 Tryz.func90 rfl rfl rfl ?_
  refine swp_sr ?_
  refine s_as rfl ?_
  refine swl_sub _ .nil ?_
  refine swl_nn ?_
  refine swp_sr ?_
  refine s_pu (pu_bld (qs := []) rfl) ?_
  refine s_ef (ef_box rfl rfl) ?_
  intro b2
  refine s_as rfl ?_
  refine swl_sub _ (sc0 0 rfl .nil) ?_
  refine swl_nn ?_
  refine swp_ret ?_
  exact done_ret [blk b2 171 [.slice none 0 0]] (.tmp rfl .nil) ⟨b2, rfl, rfl⟩ sp0
set_option maxHeartbeats 1000000 in
theorem number_spec (x : BitVec 64) (n : Nat) (h0 : 0 < n) (hn : n ≤ 8) : Spec Tryz.prog 104 [.int .u64 (x.toNat : Nat), .int .i64 (n : Nat)] [] (fun r L => r = .string ⟨(bigW x n).toArray⟩ ∧ L = []) := by
  refine Spec.of 27 Tryz.func104 rfl rfl rfl ?_
  refine swp_sr ?_
  refine s_as rfl ?_
  refine swl_sub _ (sc0 0 rfl (sc0 1 rfl .nil)) ?_
  refine swl_nn ?_
  refine swp_sr ?_
  refine s_mv rfl ?_
  refine s_ef (ef_make1 n rfl rfl rfl om0 (by simp only [maxLen]; omega)) ?_
  rintro g8
  skip
  refine s_as rfl ?_
  refine swl_sub _ (sc0 0 rfl (sc0 1 rfl (sc0 5 rfl .nil))) ?_
  refine swl_nn ?_
  refine swp_seq ?_
  refine swp_sr ?_
  refine s_as rfl ?_
  refine swl_sub _ (sc0 0 rfl (sc0 1 rfl (sc0 5 rfl (sc0 6 rfl .nil)))) ?_
  refine swl_nn ?_
  refine swp_block ?_
  refine swp_loop (ι := Nat) (fun i env L => Sub env [(0, .int .u64 (x.toNat : Nat)), (1, .int .i64 (n : Nat)), (5, .slice (some ⟨g8, 0, none⟩) n n), (6, .int .i64 (i : Nat))] ∧ L = [blk g8 5 (bcs ((bigW x n).take i) ++ List.replicate (n - i) (.int .u8 0))] ∧ i ≤ n) (fun i => n - i) 0 ⟨⟨rfl, rfl, rfl, rfl, trivial⟩, rfl, Nat.zero_le _⟩ ?_
  rintro i env L ⟨hsub, rfl, hi⟩
  refine swp_sub _ hsub ?_
  clear hsub env
  have hlen : (bcs ((bigW x n).take i)).length = i := by rw [bcs_len, List.length_take, bigW_len]; omega
  refine swp_seq ?_
  refine swp_sr ?_
  refine s_mv rfl ?_
  refine s_mv rfl ?_
  refine s_pu (pu_lss rfl rfl) ?_
  refine swl_sub _ (sc0 0 rfl (sc0 1 rfl (sc0 5 rfl (sc0 6 rfl (sc0 11 rfl .nil))))) ?_
  refine swl_nn ?_
  refine swp_cond (b := _) rfl (fun h11 => ?_) (fun h11 => ?_)
  · skip   -- 11 T
    have h11' : i < n := by have := of_decide_eq_true h11; omega
    refine swp_skip ?_
    refine then_n ?_
    refine swp_seq ?_
    refine swp_block ?_
    refine swp_region ?_
    refine s_mv rfl ?_
    refine s_mv rfl ?_
    refine s_mv rfl ?_
    refine s_mv rfl ?_
    refine s_pu (pu_sub_as ((n - 1 : Nat) : Int) rfl rfl om0 om0 om0) ?_
    refine s_mv rfl ?_
    refine s_pu (pu_sub_as ((n - 1 - i : Nat) : Int) rfl rfl om0 om0 om0) ?_
    refine s_pu (pu_mul_as ((8 * (n - 1 - i) : Nat) : Int) rfl rfl om0 om0 om0) ?_
    refine s_pu (pu_shr_w (8 * (n - 1 - i)) rfl rfl om0) ?_
    refine s_pu (pu_low8 (x >>> (8 * (n - 1 - i))) (by decide) rfl rfl) ?_
    refine s_pu (pu_indexAddr i rfl rfl om0 om0 (by rw [Int.toNat_natCast]; omega)) ?_
    refine s_ef0 (ef_storeP rfl rfl rfl (by rw [List.length_append, hlen, List.length_replicate]; omega)) ?_
    refine swl_sub _ (sc0 0 rfl (sc0 1 rfl (sc0 5 rfl (sc0 6 rfl .nil)))) ?_
    refine swl_nil ?_
    refine block_n ?_
    refine then_n ?_
    refine swp_region ?_
    refine s_mv rfl ?_
    refine s_pu (pu_add_as ((i + 1 : Nat) : Int) rfl rfl om0 om0 om0) ?_
    refine s_as rfl ?_
    refine swl_sub _ (sc0 0 rfl (sc0 1 rfl (sc0 5 rfl (sc0 6 rfl .nil)))) ?_
    refine swl_nil ?_
    refine then_n ⟨i + 1, ⟨⟨rfl, rfl, rfl, rfl, trivial⟩, ?_, h11'⟩, by omega⟩
    have e : (bcs ((bigW x n).take i) ++ List.replicate (n - i) (Value.int .u8 0)).set i (Value.int .u8 (((x >>> (8 * (n - 1 - i))).setWidth 8).toNat : Nat)) = bcs ((bigW x n).take (i + 1)) ++ List.replicate (n - (i + 1)) (Value.int .u8 0) := by
      rw [List.take_add_one, bigW_get x h11', bcs_app, List.set_append_right _ _ (by rw [hlen]; exact Nat.le_refl _), hlen, Nat.sub_self]
      have : n - i = (n - (i + 1)) + 1 := by omega
      rw [this, List.replicate_succ, List.set_cons_zero, List.append_assoc]; rfl
    rw [← e]
  · skip   -- 11 F
    have h11' := of_decide_eq_false h11
    obtain rfl : i = n := by omega
    rw [List.take_of_length_le (by rw [bigW_len]; exact Nat.le_refl _)]
    have hbl := bigW_len x i
    refine swp_exit ?_
    refine then_x ?_
    refine then_x ?_
    refine block_hit rfl ?_
    refine then_n ?_
    refine swp_sr ?_
    refine s_mv rfl ?_
    refine s_rd (rd_bytes (bigW x i) (by rw [hbl]; rfl) .here) ?_
    refine s_as rfl ?_
    refine swl_sub _ (sc0 4 rfl .nil) ?_
    refine swl_nn ?_
    refine swp_ret ?_
    exact done_ret [] (.tmp rfl .nil) ⟨rfl, rfl⟩ sp0
end SX
namespace SX
open Go Go.Proofs
/-! the writer -/
def wrA (p : Nat) (bs : List UInt8) : Assn := exA fun v : Value => [blk p 171 [v], own 5 1 v bs.length (bcs bs)]
theorem wr_close {p : Nat} {v : Value} {bs : List UInt8} {L : List Assn} : Ent (blk p 171 [v] :: own 5 1 v bs.length (bcs bs) :: L) (wrA p bs :: L) :=
  ent_ex (F := fun v : Value => [blk p 171 [v], own 5 1 v bs.length (bcs bs)]) v sp0
instance zvU8T : TZv Tryz.prog 5 (.int .u8 0) := ⟨by kernel_rfl⟩
theorem wNew_spec : Spec Tryz.prog 90 [] [] (fun r L => ∃ p, r = .pointer (some ⟨p, 0, none⟩) ∧ L = [wrA p []]) :=
  Spec.ent3 newW_spec fun r L ⟨p, h1, h2⟩ => ⟨[wrA p []], by
    rw [h2]
    exact (show Ent [blk p 171 [.slice none 0 0]] (own 5 1 (.slice none 0 0) 0 [] :: [blk p 171 [.slice none 0 0]]) from own_nil_ent).trans (Ent.swap.trans (wr_close (p := p) (v := .slice none 0 0) (bs := []))), p, h1, rfl⟩
theorem wFixed_spec (p n k : Nat) (bs : List UInt8) (hk : k ≤ 8) (hn : n < 18446744073709551616) (hb : bs.length ≤ 1073741824) : Spec Tryz.prog 125 [.pointer (some ⟨p, 0, none⟩), .int .u64 (n : Nat), .int .i64 (k : Nat)] [wrA p bs] (fun r L => r = .tuple #[] ∧ L = [wrA p (bs ++ numB k n)]) := by
  refine Spec.exA' fun v => ?_
  simp only [List.cons_append, List.nil_append]
  have e : (BitVec.ofNat 64 n).toNat = n := by rw [BitVec.toNat_ofNat]; exact Nat.mod_eq_of_lt hn
  have h := fixed_spec p v (BitVec.ofNat 64 n) k bs hk hb
  rw [e] at h
  exact Spec.ent3 h fun r L ⟨h1, v', h2⟩ => ⟨[wrA p (bs ++ numB k n)], by rw [h2]; exact wr_close, h1, rfl⟩
theorem wU8_spec (p n : Nat) (bs : List UInt8) (hn : n < 256) (hb : bs.length ≤ 1073741824) : Spec Tryz.prog 93 [.pointer (some ⟨p, 0, none⟩), .int .u8 (n : Nat)] [wrA p bs] (fun r L => r = .tuple #[] ∧ L = [wrA p (bs ++ numB 1 n)]) := by
  refine Spec.of 8 Tryz.func93 rfl rfl rfl ?_
  refine swp_region ?_
  refine s_mv rfl ?_
  refine s_mv rfl ?_
  refine s_pu (pu_conv_u64 rfl om0 om0) ?_
  refine s_ef (ef_fn (wFixed_spec p n 1 bs (by decide) om0 hb) rfl rfl sp0) ?_
  rintro v7 L1 ⟨rfl, rfl⟩
  refine swl_app ?_
  refine swl_sub _ .nil ?_
  refine swl_nil ?_
  exact done_ret [wrA p (bs ++ numB 1 n)] .nil ⟨rfl, rfl⟩ sp0
theorem wU16_spec (p n : Nat) (bs : List UInt8) (hn : n < 65536) (hb : bs.length ≤ 1073741824) : Spec Tryz.prog 91 [.pointer (some ⟨p, 0, none⟩), .int .u16 (n : Nat)] [wrA p bs] (fun r L => r = .tuple #[] ∧ L = [wrA p (bs ++ numB 2 n)]) := by
  refine Spec.of 8 Tryz.func91 rfl rfl rfl ?_
  refine swp_region ?_
  refine s_mv rfl ?_
  refine s_mv rfl ?_
  refine s_pu (pu_conv_u64 rfl om0 om0) ?_
  refine s_ef (ef_fn (wFixed_spec p n 2 bs (by decide) om0 hb) rfl rfl sp0) ?_
  rintro v7 L1 ⟨rfl, rfl⟩
  refine swl_app ?_
  refine swl_sub _ .nil ?_
  refine swl_nil ?_
  exact done_ret [wrA p (bs ++ numB 2 n)] .nil ⟨rfl, rfl⟩ sp0
theorem wU32_spec (p n : Nat) (bs : List UInt8) (hn : n < 4294967296) (hb : bs.length ≤ 1073741824) : Spec Tryz.prog 95 [.pointer (some ⟨p, 0, none⟩), .int .u32 (n : Nat)] [wrA p bs] (fun r L => r = .tuple #[] ∧ L = [wrA p (bs ++ numB 4 n)]) := by
  refine Spec.of 8 Tryz.func95 rfl rfl rfl ?_
  refine swp_region ?_
  refine s_mv rfl ?_
  refine s_mv rfl ?_
  refine s_pu (pu_conv_u64 rfl om0 om0) ?_
  refine s_ef (ef_fn (wFixed_spec p n 4 bs (by decide) om0 hb) rfl rfl sp0) ?_
  rintro v7 L1 ⟨rfl, rfl⟩
  refine swl_app ?_
  refine swl_sub _ .nil ?_
  refine swl_nil ?_
  exact done_ret [wrA p (bs ++ numB 4 n)] .nil ⟨rfl, rfl⟩ sp0
theorem wRaw_spec (p : Nat) (bs s : List UInt8) (hb : bs.length ≤ 1073741824) (hs : s.length ≤ 1073741824) : Spec Tryz.prog 94 [.pointer (some ⟨p, 0, none⟩), .string (str s)] [wrA p bs] (fun r L => r = .tuple #[] ∧ L = [wrA p (bs ++ s)]) := by
  refine Spec.exA' fun v => ?_
  simp only [List.cons_append, List.nil_append]
  refine Spec.ent3 (post := fun r L => r = .tuple #[] ∧ ∃ v', L = [blk p 171 [v'], own 5 1 v' (bs ++ s).length (bcs (bs ++ s))]) ?_ (fun r L ⟨h1, v', h2⟩ => ⟨[wrA p (bs ++ s)], by rw [h2]; exact wr_close, h1, rfl⟩)
  refine Spec.of 15 Tryz.func94 rfl rfl rfl ?_
  refine swp_sr ?_
  refine s_mv rfl ?_
  refine s_pu (pu_ptr_ne_nil rfl rfl) ?_
  refine swl_sub _ (sc0 0 rfl (sc0 1 rfl (sc0 5 rfl .nil))) ?_
  refine swl_nn ?_
  refine swp_cond (b := _) rfl (fun h5 => ?_) (fun h5 => by cases h5)
  refine swp_region ?_
  refine s_mv rfl ?_
  refine s_mv rfl ?_
  first | refine s_pu (pu_nilCheck rfl) ?_ | refine s_pu (pu_nilCheck_fn rfl) ?_ | refine s_pu (pu_nilCheck_if rfl) ?_
  first | refine s_pu (pu_fieldAddr0 rfl) ?_ | refine s_pu (pu_fieldAddr rfl) ?_
  refine s_rd (rd_load rfl rfl) ?_
  refine s_mv rfl ?_
  refine s_ef (ef_append_str rfl rfl sp0 (by rw [str_len]; omega)) ?_
  rintro v12 c12
  have e1 : bs.length + (str s).size = (bs ++ s).length := by rw [str_len, List.length_append]
  have e2 : bcs bs ++ bcs (str s).data.toList = bcs (bs ++ s) := by rw [bcs_app]
  rw [e1, e2]
  first | refine s_pu (pu_nilCheck rfl) ?_ | refine s_pu (pu_nilCheck_fn rfl) ?_ | refine s_pu (pu_nilCheck_if rfl) ?_
  first | refine s_pu (pu_fieldAddr0 rfl) ?_ | refine s_pu (pu_fieldAddr rfl) ?_
  refine s_ef0 (ef_store rfl rfl rfl) ?_
  refine swl_sub _ .nil ?_
  refine swl_nil ?_
  exact done_ret [blk p 171 [.slice v12 (bs ++ s).length c12], own 5 1 (.slice v12 (bs ++ s).length c12) (bs ++ s).length (bcs (bs ++ s))] .nil ⟨rfl, _, rfl⟩ sp0
theorem wBytes_spec (p : Nat) (bs : List UInt8) (_ : bs ≠ []) : Spec Tryz.prog 96 [.pointer (some ⟨p, 0, none⟩)] [wrA p bs] (fun r L => r = .string (str bs) ∧ L = [wrA p bs]) := by
  refine Spec.exA' fun v => ?_
  simp only [List.cons_append, List.nil_append]
  refine Spec.ent3 (post := fun r L => r = .string (str bs) ∧ L = [blk p 171 [v], own 5 1 v bs.length (bcs bs)]) ?_ (fun r L ⟨h1, h2⟩ => ⟨[wrA p bs], by rw [h2]; exact wr_close, h1, rfl⟩)
  refine Spec.of 10 Tryz.func96 rfl rfl rfl ?_
  refine swp_sr ?_
  refine s_as rfl ?_
  refine swl_sub _ (sc0 0 rfl .nil) ?_
  refine swl_nn ?_
  refine swp_seq ?_
  refine swp_sr ?_
  refine s_mv rfl ?_
  refine s_pu (pu_ptr_eq_nil rfl rfl) ?_
  refine swl_sub _ (sc0 0 rfl (sc0 4 rfl .nil)) ?_
  refine swl_nn ?_
  refine swp_cond (b := _) rfl (fun h4 => by cases h4) (fun h4 => ?_)
  refine swp_skip ?_
  refine then_n ?_
  refine swp_sr ?_
  refine s_mv rfl ?_
  first | refine s_pu (pu_nilCheck rfl) ?_ | refine s_pu (pu_nilCheck_fn rfl) ?_ | refine s_pu (pu_nilCheck_if rfl) ?_
  first | refine s_pu (pu_fieldAddr0 rfl) ?_ | refine s_pu (pu_fieldAddr rfl) ?_
  refine s_rd (rd_load rfl rfl) ?_
  refine s_rd (rd_bytes_own bs rfl tk0) ?_
  refine s_as rfl ?_
  refine swl_sub _ (sc0 2 rfl .nil) ?_
  refine swl_nn ?_
  refine swp_ret ?_
  exact done_ret [blk p 171 [v], own 5 1 v bs.length (bcs bs)] (.tmp rfl .nil) ⟨rfl, rfl⟩ sp0
theorem rNumber_spec (n k : Nat) (h0 : 0 < k) (hk : k ≤ 8) (hn : n < 18446744073709551616) : Spec Tryz.prog 104 [.int .u64 (n : Nat), .int .i64 (k : Nat)] [] (fun r L => r = .string (str (numB k n)) ∧ L = []) := by
  have e : (BitVec.ofNat 64 n).toNat = n := by rw [BitVec.toNat_ofNat]; exact Nat.mod_eq_of_lt hn
  have h := number_spec (BitVec.ofNat 64 n) k h0 hk
  rw [e] at h
  exact h
/-! the document's reader -/
end SX
namespace Go.Proofs
open Go.Shelf
end Go.Proofs
namespace SX
open Go Go.Proofs
theorem tree_at {μ : PH} {v : Value} {l : List En} (h : Row μ v 2 l.length (ens l)) {i : Nat} {e : En} (hi : l[i]? = some e) : ∃ b off cap, v = .slice (some ⟨b, off, none⟩) l.length cap ∧ RowAt μ b (off + i * 2) (enc1 e) ∧ CellAt μ b (off + i * 2) (.string e.1) ∧ CellAt μ b (off + i * 2 + 1) (.int .u32 e.2) := by
  have hl := (List.getElem?_eq_some_iff.1 hi).1
  obtain ⟨b, off, cap, hv, _, _, hr⟩ := h.pos om0
  have hr' := hr.elem enc1_len hi
  exact ⟨b, off, cap, hv, hr', by have := hr' 0 _ rfl; rwa [Nat.add_zero] at this, hr' 1 _ rfl⟩
end SX
namespace SX
open Go Go.Proofs
set_option maxHeartbeats 1000000 in
theorem same_spec (μ : PH) (va vb : Value) (la lb : List En) (ha : Row μ va 2 la.length (la.flatMap enc1)) (hb : Row μ vb 2 lb.length (lb.flatMap enc1)) : Spec Tryz.prog 16 [va, vb] [ro μ] (fun r L => r = .bool (decide (la = lb)) ∧ L = [ro μ]) := by
  have hsa := ha.small
  have hsb := hb.small
  refine Spec.of 26 Tryz.func16 rfl rfl rfl ?_
  refine swp_sr ?_
  refine s_as rfl ?_
  refine swl_sub _ (sc0 0 rfl (sc0 1 rfl .nil)) ?_
  refine swl_nn ?_
  refine swp_seq ?_
  refine swp_sr ?_
  refine s_mv rfl ?_
  refine s_pu (pu_len_row ha rfl) ?_
  refine s_mv rfl ?_
  refine s_pu (pu_len_row hb rfl) ?_
  refine s_pu (pu_neq rfl rfl) ?_
  refine swl_sub _ (sc0 0 rfl (sc0 1 rfl (sc0 10 rfl .nil))) ?_
  refine swl_nn ?_
  refine swp_cond (b := _) rfl (fun h10 => ?_) (fun h10 => ?_)
  · skip   -- 10 T
    refine swp_sr ?_
    refine s_as rfl ?_
    refine swl_sub _ (sc0 4 rfl .nil) ?_
    refine swl_nn ?_
    refine swp_ret ?_
    refine then_r ?_
    refine done_ret [ro μ] (.tmp rfl .nil) ⟨?_, rfl⟩ sp0
    have : la ≠ lb := by rintro rfl; simp at h10
    rw [decide_eq_false this]; rfl
  · skip   -- 10 F
    have hlen : la.length = lb.length := by simp at h10; omega
    refine swp_skip ?_
    refine then_n ?_
    refine swp_seq ?_
    refine swp_sr ?_
    refine s_as rfl ?_
    refine swl_sub _ (sc0 0 rfl (sc0 1 rfl (sc0 5 rfl .nil))) ?_
    refine swl_nn ?_
    refine swp_block ?_
    refine swp_loop (ι := Nat) (fun i env L => env = [(0, va), (1, vb), (5, .int .i64 (i : Nat))] ∧ L = [ro μ] ∧ i ≤ la.length ∧ la.take i = lb.take i) (fun i => la.length - i) 0 ⟨rfl, rfl, Nat.zero_le _, rfl⟩ ?_
    rintro i env L ⟨rfl, rfl, hi, htk⟩
    refine swp_seq ?_
    refine swp_sr ?_
    refine s_mv rfl ?_
    refine s_mv rfl ?_
    refine s_pu (pu_len_row ha rfl) ?_
    refine s_pu (pu_lss rfl rfl) ?_
    refine swl_sub _ (sc0 0 rfl (sc0 1 rfl (sc0 5 rfl (sc0 14 rfl .nil)))) ?_
    refine swl_nn ?_
    refine swp_cond (b := _) rfl (fun h14 => ?_) (fun h14 => ?_)
    · skip   -- 14 T
      have h14' : i < la.length := by have := of_decide_eq_true h14; omega
      obtain ⟨e1, he1⟩ : ∃ e, la[i]? = some e := ⟨_, List.getElem?_eq_getElem h14'⟩
      obtain ⟨e2, he2⟩ : ∃ e, lb[i]? = some e := ⟨_, List.getElem?_eq_getElem om0⟩
      obtain ⟨b1, o1, c1, hv1, _, _, hr1⟩ := ha.pos om0
      obtain ⟨b2, o2, c2, hv2, _, _, hr2⟩ := hb.pos om0
      have hq1 := hr1.elem (f := enc1) (n := 2) (fun _ => rfl) he1
      have hq2 := hr2.elem (f := enc1) (n := 2) (fun _ => rfl) he2
      refine swp_skip ?_
      refine then_n ?_
      refine swp_seq ?_
      refine swp_block ?_
      refine swp_seq ?_
      refine swp_draw [3, 7] _ [] (by simp only [List.append_nil]; exact Ent.refl _) kr0 ?_
      refine d_pu 0 rfl (pu_move rfl) kr0 kr0 kr0 ?_
      refine d_pu 1 rfl (pu_move rfl) kr0 kr0 kr0 ?_
      refine d_pu 2 rfl (pu_indexAddr (o1 + i * 2) (congrArg some hv1) rfl om0 om0 (by rw [Int.toNat_natCast])) kr0 kr0 kr0 ?_
      refine d_rd 3 rfl (rd_roA rfl rfl hq1) rfl kr0 kr0 kr0 ?_
      refine d_pu 4 rfl (pu_move rfl) kr0 kr0 kr0 ?_
      refine d_pu 5 rfl (pu_move rfl) kr0 kr0 kr0 ?_
      refine d_pu 6 rfl (pu_indexAddr (o2 + i * 2) (congrArg some hv2) rfl om0 om0 (by rw [Int.toNat_natCast])) kr0 kr0 kr0 ?_
      refine d_rd 7 rfl (rd_roA rfl rfl hq2) rfl kr0 kr0 kr0 ?_
      refine d_pu 8 rfl (pu_stN_ne (vs := enc1 e1) (us := enc1 e2) rfl rfl (.str (.int .nil))) kr0 kr0 kr0 ?_
      refine d_sub _ (sc0 0 rfl (sc0 1 rfl (sc0 5 rfl (sc0 25 rfl .nil)))) ?_
      first | refine d_nilt kr0 ?_ | refine d_nilf kr0 ?_
      refine then_n ?_
      refine swp_cond (b := _) rfl (fun h25 => ?_) (fun h25 => ?_)
      · skip   -- 25 T
        refine swp_sr ?_
        refine s_as rfl ?_
        refine swl_sub _ (sc0 4 rfl .nil) ?_
        refine swl_nn ?_
        refine swp_ret ?_
        refine block_r ?_
        refine then_r ?_
        refine then_r ?_
        refine block_r ?_
        refine then_r ?_
        refine done_ret [ro μ] (.tmp rfl .nil) ⟨?_, rfl⟩ sp0
        have : la ≠ lb := by
          rintro rfl
          rw [he1] at he2; cases he2
          simp [strEq_refl] at h25
        rw [decide_eq_false this]; rfl
      · skip   -- 25 F
        refine swp_skip ?_
        refine block_n ?_
        refine then_n ?_
        refine swp_region ?_
        refine s_mv rfl ?_
        refine s_pu (pu_add_as ((i + 1 : Nat) : Int) rfl rfl om0 om0 om0) ?_
        refine s_as rfl ?_
        refine swl_sub _ (sc0 0 rfl (sc0 1 rfl (sc0 5 rfl .nil))) ?_
        refine swl_nil ?_
        have he : e1 = e2 := by
          simp only [Bool.not_eq_false', Bool.and_eq_true, decide_eq_true_eq, strEq_iff, and_true] at h25
          obtain ⟨q1, q2⟩ := h25
          exact Prod.ext q1 q2
        exact then_n ⟨i + 1, ⟨rfl, rfl, h14', by rw [List.take_add_one, List.take_add_one, htk, he1, he2, he]⟩, by omega⟩
    · skip   -- 14 F
      have h14' := of_decide_eq_false h14
      obtain rfl : i = la.length := by omega
      refine swp_exit ?_
      refine then_x ?_
      refine then_x ?_
      refine block_hit rfl ?_
      refine then_n ?_
      refine swp_sr ?_
      refine s_as rfl ?_
      refine swl_sub _ (sc0 4 rfl .nil) ?_
      refine swl_nn ?_
      refine swp_ret ?_
      refine done_ret [ro μ] (.tmp rfl .nil) ⟨?_, rfl⟩ sp0
      rw [List.take_length, hlen, List.take_length] at htk
      rw [decide_eq_true htk]; rfl
end SX
namespace SX
open Go Go.Proofs
end SX
namespace SX
open Go Go.Proofs
/-- what is wrong with entry i -/
def wrongE (t : List En) (i : Nat) : Int :=
  match t[i]? with
  | none => 0
  | some e => if 255 < e.1.size then 5 else if e.2 = 0 then 1 else
    match (if i = 0 then none else t[i - 1]?) with
    | none => 0
    | some d => if strEq e.1 d.1 then 11 else if strLt e.1 d.1 then 10 else 0
set_option maxHeartbeats 1000000 in
theorem wrong_spec (μ : PH) (v : Value) (t : List En) (i : Nat) (h : Row μ v 2 t.length (ens t)) (hi : i < t.length) (hsz : t.length ≤ 1048576) :
    Spec Tryz.prog 130 [v, .int .i64 (i : Nat)] [ro μ] (fun r L => r = .int .i64 (wrongE t i) ∧ L = [ro μ]) := by
  obtain ⟨e, he⟩ : ∃ e, t[i]? = some e := ⟨_, List.getElem?_eq_getElem hi⟩
  obtain ⟨gb, off, cap, hv, hra, hc0, hc1⟩ := tree_at h he
  refine Spec.of 54 Tryz.func130 rfl rfl rfl ?_
  refine swp_sr ?_
  refine s_as rfl ?_
  refine swl_sub _ (sc0 0 rfl (sc0 1 rfl .nil)) ?_
  refine swl_nn ?_
  refine swp_seq ?_
  refine swp_block ?_
  refine swp_sr ?_
  refine s_mv rfl ?_
  refine s_mv rfl ?_
  refine s_pu (pu_indexAddr (off + i * 2) (congrArg some hv) rfl om0 om0 (by rw [Int.toNat_natCast])) ?_
  first | refine s_pu (pu_fieldAddr0 rfl) ?_ | refine s_pu (pu_fieldAddr rfl) ?_
  refine s_rd (rd_ro rfl hc0) ?_
  refine s_pu (pu_strlen rfl) ?_
  refine s_pu (pu_gtr rfl rfl) ?_
  refine s_as rfl ?_
  refine swl_sub _ (sc0 0 rfl (sc0 1 rfl (sc0 5 rfl .nil))) ?_
  refine swl_nn ?_
  refine swp_cond (b := _) rfl (fun h5 => ?_) (fun h5 => ?_)
  · skip   -- 5 T
    have h5' : 255 < e.1.size := by have := of_decide_eq_true h5; omega
    refine swp_sr ?_
    refine s_as rfl ?_
    refine swl_sub _ (sc0 4 rfl .nil) ?_
    refine swl_nn ?_
    refine swp_ret ?_
    refine block_r ?_
    refine then_r ?_
    refine done_ret [ro μ] (.tmp rfl .nil) ⟨?_, rfl⟩ sp0
    unfold wrongE; rw [he]; simp only [if_pos h5']; rfl
  · skip   -- 5 F
    have h5' : ¬ 255 < e.1.size := by have := of_decide_eq_false h5; omega
    refine swp_sr ?_
    refine s_mv rfl ?_
    refine s_mv rfl ?_
    refine s_pu (pu_indexAddr (off + i * 2) (congrArg some hv) rfl om0 om0 (by rw [Int.toNat_natCast])) ?_
    first | refine s_pu (pu_fieldAddr0 rfl) ?_ | refine s_pu (pu_fieldAddr rfl) ?_
    refine s_rd (rd_ro rfl hc1) ?_
    refine s_pu (pu_eql rfl rfl) ?_
    refine s_as rfl ?_
    refine swl_sub _ (sc0 0 rfl (sc0 1 rfl (sc0 13 rfl .nil))) ?_
    refine swl_nn ?_
    refine swp_cond (b := _) rfl (fun h13 => ?_) (fun h13 => ?_)
    · skip   -- 13 T
      refine swp_sr ?_
      refine s_as rfl ?_
      refine swl_sub _ (sc0 4 rfl .nil) ?_
      refine swl_nn ?_
      refine swp_ret ?_
      refine block_r ?_
      refine then_r ?_
      have h13' : e.2 = 0 := by simpa using h13
      refine done_ret [ro μ] (.tmp rfl .nil) ⟨?_, rfl⟩ sp0
      unfold wrongE; rw [he]; simp only [if_neg h5', if_pos h13']; rfl
    · skip   -- 13 F
      have h13' : ¬ e.2 = 0 := by simpa using h13
      refine swp_seq ?_
      refine swp_draw [7, 13] _ [] (by simp only [List.append_nil]; exact Ent.refl _) kr0 ?_
      refine d_pu 0 rfl (pu_move rfl) kr0 kr0 kr0 ?_
      refine d_pu 1 rfl (pu_gtr rfl rfl) kr0 kr0 kr0 ?_
      refine d_pu 2 rfl (pu_move rfl) kr0 kr0 kr0 ?_
      refine d_split 23 rfl (fun h23 => ?_) (fun h23 => ?_)
      · skip   -- 23 T
        have hi0 : 0 < i := by have := of_decide_eq_true h23; omega
        obtain ⟨d, hd⟩ : ∃ d, t[i - 1]? = some d := ⟨_, List.getElem?_eq_getElem om0⟩
        obtain ⟨gb', off', cap', hv', hra', hd0, hd1⟩ := tree_at h hd
        refine d_pu_on 3 rfl rfl rfl (pu_move rfl) kr0 kr0 kr0 ?_
        refine d_pu_on 4 rfl rfl rfl (pu_move rfl) kr0 kr0 kr0 ?_
        refine d_pu_on 5 rfl rfl rfl (pu_indexAddr (off + i * 2) (congrArg some hv) rfl om0 om0 (by rw [Int.toNat_natCast])) kr0 kr0 kr0 ?_
        first | refine d_pu_on 6 rfl rfl rfl (pu_fieldAddr0 rfl) kr0 kr0 kr0 ?_ | refine d_pu_on 6 rfl rfl rfl (pu_fieldAddr rfl) kr0 kr0 kr0 ?_
        refine d_rd_on 7 rfl rfl rfl (rd_ro rfl hc0) rfl kr0 kr0 kr0 ?_
        refine d_pu_on 8 rfl rfl rfl (pu_move rfl) kr0 kr0 kr0 ?_
        refine d_pu_on 9 rfl rfl rfl (pu_move rfl) kr0 kr0 kr0 ?_
        refine d_pu_on 10 rfl rfl rfl (pu_sub_as ((i - 1 : Nat) : Int) rfl rfl om0 om0 om0) kr0 kr0 kr0 ?_
        refine d_pu_on 11 rfl rfl rfl (pu_indexAddr (off' + (i - 1) * 2) (congrArg some hv') rfl om0 om0 (by rw [Int.toNat_natCast])) kr0 kr0 kr0 ?_
        first | refine d_pu_on 12 rfl rfl rfl (pu_fieldAddr0 rfl) kr0 kr0 kr0 ?_ | refine d_pu_on 12 rfl rfl rfl (pu_fieldAddr rfl) kr0 kr0 kr0 ?_
        refine d_rd_on 13 rfl rfl rfl (rd_ro rfl hd0) rfl kr0 kr0 kr0 ?_
        refine d_pu_on 14 rfl rfl rfl (pu_str_eql rfl rfl) kr0 kr0 kr0 ?_
        first | refine d_pu 15 rfl (pu_pick_t rfl rfl) kr0 kr0 kr0 ?_ | refine d_pu 15 rfl (pu_pick_f rfl rfl) kr0 kr0 kr0 ?_
        refine d_pu 16 rfl (pu_assign rfl) kr0 kr0 kr0 ?_
        refine d_sub _ (sc0 0 rfl (sc0 1 rfl (sc0 20 rfl .nil))) ?_
        first | refine d_nilt kr0 ?_ | refine d_nilf kr0 ?_
        refine then_n ?_
        refine swp_cond (b := _) rfl (fun h20 => ?_) (fun h20 => ?_)
        · skip   -- 20 T
          refine swp_sr ?_
          refine s_as rfl ?_
          refine swl_sub _ (sc0 4 rfl .nil) ?_
          refine swl_nn ?_
          refine swp_ret ?_
          refine block_r ?_
          refine then_r ?_
          refine done_ret [ro μ] (.tmp rfl .nil) ⟨?_, rfl⟩ sp0
          unfold wrongE; rw [he]; simp only [if_neg h5', if_neg h13', if_neg (Nat.ne_of_gt hi0), hd, if_pos h20]; rfl
        · skip   -- 20 F
          refine swp_seq ?_
          refine swp_draw [7, 13] _ [] (by simp only [List.append_nil]; exact Ent.refl _) kr0 ?_
          refine d_pu 0 rfl (pu_move rfl) kr0 kr0 kr0 ?_
          refine d_pu 1 rfl (pu_gtr rfl rfl) kr0 kr0 kr0 ?_
          refine d_pu 2 rfl (pu_move rfl) kr0 kr0 kr0 ?_
          refine d_split 40 rfl (fun h40 => ?_) (fun h40 => by have := of_decide_eq_false h40; omega)
          refine d_pu_on 3 rfl rfl rfl (pu_move rfl) kr0 kr0 kr0 ?_
          refine d_pu_on 4 rfl rfl rfl (pu_move rfl) kr0 kr0 kr0 ?_
          refine d_pu_on 5 rfl rfl rfl (pu_indexAddr (off + i * 2) (congrArg some hv) rfl om0 om0 (by rw [Int.toNat_natCast])) kr0 kr0 kr0 ?_
          first | refine d_pu_on 6 rfl rfl rfl (pu_fieldAddr0 rfl) kr0 kr0 kr0 ?_ | refine d_pu_on 6 rfl rfl rfl (pu_fieldAddr rfl) kr0 kr0 kr0 ?_
          refine d_rd_on 7 rfl rfl rfl (rd_ro rfl hc0) rfl kr0 kr0 kr0 ?_
          refine d_pu_on 8 rfl rfl rfl (pu_move rfl) kr0 kr0 kr0 ?_
          refine d_pu_on 9 rfl rfl rfl (pu_move rfl) kr0 kr0 kr0 ?_
          refine d_pu_on 10 rfl rfl rfl (pu_sub_as ((i - 1 : Nat) : Int) rfl rfl om0 om0 om0) kr0 kr0 kr0 ?_
          refine d_pu_on 11 rfl rfl rfl (pu_indexAddr (off' + (i - 1) * 2) (congrArg some hv') rfl om0 om0 (by rw [Int.toNat_natCast])) kr0 kr0 kr0 ?_
          first | refine d_pu_on 12 rfl rfl rfl (pu_fieldAddr0 rfl) kr0 kr0 kr0 ?_ | refine d_pu_on 12 rfl rfl rfl (pu_fieldAddr rfl) kr0 kr0 kr0 ?_
          refine d_rd_on 13 rfl rfl rfl (rd_ro rfl hd0) rfl kr0 kr0 kr0 ?_
          refine d_pu_on 14 rfl rfl rfl (pu_str_lss rfl rfl) kr0 kr0 kr0 ?_
          first | refine d_pu 15 rfl (pu_pick_t rfl rfl) kr0 kr0 kr0 ?_ | refine d_pu 15 rfl (pu_pick_f rfl rfl) kr0 kr0 kr0 ?_
          refine d_pu 16 rfl (pu_assign rfl) kr0 kr0 kr0 ?_
          refine d_sub _ (sc0 37 rfl .nil) ?_
          first | refine d_nilt kr0 ?_ | refine d_nilf kr0 ?_
          refine then_n ?_
          refine swp_cond (b := _) rfl (fun h37 => ?_) (fun h37 => ?_)
          · skip   -- 37 T
            refine swp_sr ?_
            refine s_as rfl ?_
            refine swl_sub _ (sc0 4 rfl .nil) ?_
            refine swl_nn ?_
            refine swp_ret ?_
            refine block_r ?_
            refine then_r ?_
            refine done_ret [ro μ] (.tmp rfl .nil) ⟨?_, rfl⟩ sp0
            unfold wrongE; rw [he]; simp only [if_neg h5', if_neg h13', if_neg (Nat.ne_of_gt hi0), hd, h20, h37, if_true, Bool.false_eq_true, if_false]; rfl
          · skip   -- 37 F
            refine swp_skip ?_
            refine block_n ?_
            refine then_n ?_
            refine swp_sr ?_
            refine s_as rfl ?_
            refine swl_sub _ (sc0 4 rfl .nil) ?_
            refine swl_nn ?_
            refine swp_ret ?_
            refine done_ret [ro μ] (.tmp rfl .nil) ⟨?_, rfl⟩ sp0
            unfold wrongE; rw [he]; simp only [if_neg h5', if_neg h13', if_neg (Nat.ne_of_gt hi0), hd, h20, h37, Bool.false_eq_true, if_false]; rfl
      · skip   -- 23 F
        refine d_off 3 rfl rfl rfl rfl kr0 kr0 kr0 ?_
        refine d_off 4 rfl rfl rfl rfl kr0 kr0 kr0 ?_
        refine d_off 5 rfl rfl rfl rfl kr0 kr0 kr0 ?_
        refine d_off 6 rfl rfl rfl rfl kr0 kr0 kr0 ?_
        refine d_off 7 rfl rfl rfl rfl kr0 kr0 kr0 ?_
        refine d_off 8 rfl rfl rfl rfl kr0 kr0 kr0 ?_
        refine d_off 9 rfl rfl rfl rfl kr0 kr0 kr0 ?_
        refine d_off 10 rfl rfl rfl rfl kr0 kr0 kr0 ?_
        refine d_off 11 rfl rfl rfl rfl kr0 kr0 kr0 ?_
        refine d_off 12 rfl rfl rfl rfl kr0 kr0 kr0 ?_
        refine d_off 13 rfl rfl rfl rfl kr0 kr0 kr0 ?_
        refine d_off 14 rfl rfl rfl rfl kr0 kr0 kr0 ?_
        first | refine d_pu 15 rfl (pu_pick_t rfl rfl) kr0 kr0 kr0 ?_ | refine d_pu 15 rfl (pu_pick_f rfl rfl) kr0 kr0 kr0 ?_
        refine d_pu 16 rfl (pu_assign rfl) kr0 kr0 kr0 ?_
        refine d_sub _ (sc0 0 rfl (sc0 1 rfl (sc0 20 rfl .nil))) ?_
        first | refine d_nilt kr0 ?_ | refine d_nilf kr0 ?_
        refine then_n ?_
        refine swp_cond (b := _) rfl (fun h20 => by cases h20) (fun h20 => ?_)
        refine swp_seq ?_
        refine swp_draw [7, 13] _ [] (by simp only [List.append_nil]; exact Ent.refl _) kr0 ?_
        refine d_pu 0 rfl (pu_move rfl) kr0 kr0 kr0 ?_
        refine d_pu 1 rfl (pu_gtr rfl rfl) kr0 kr0 kr0 ?_
        refine d_pu 2 rfl (pu_move rfl) kr0 kr0 kr0 ?_
        refine d_split 40 rfl (fun h40 => by have := of_decide_eq_true h40; have := of_decide_eq_false h23; omega) (fun h40 => ?_)
        refine d_off 3 rfl rfl rfl rfl kr0 kr0 kr0 ?_
        refine d_off 4 rfl rfl rfl rfl kr0 kr0 kr0 ?_
        refine d_off 5 rfl rfl rfl rfl kr0 kr0 kr0 ?_
        refine d_off 6 rfl rfl rfl rfl kr0 kr0 kr0 ?_
        refine d_off 7 rfl rfl rfl rfl kr0 kr0 kr0 ?_
        refine d_off 8 rfl rfl rfl rfl kr0 kr0 kr0 ?_
        refine d_off 9 rfl rfl rfl rfl kr0 kr0 kr0 ?_
        refine d_off 10 rfl rfl rfl rfl kr0 kr0 kr0 ?_
        refine d_off 11 rfl rfl rfl rfl kr0 kr0 kr0 ?_
        refine d_off 12 rfl rfl rfl rfl kr0 kr0 kr0 ?_
        refine d_off 13 rfl rfl rfl rfl kr0 kr0 kr0 ?_
        refine d_off 14 rfl rfl rfl rfl kr0 kr0 kr0 ?_
        first | refine d_pu 15 rfl (pu_pick_t rfl rfl) kr0 kr0 kr0 ?_ | refine d_pu 15 rfl (pu_pick_f rfl rfl) kr0 kr0 kr0 ?_
        refine d_pu 16 rfl (pu_assign rfl) kr0 kr0 kr0 ?_
        refine d_sub _ (sc0 37 rfl .nil) ?_
        first | refine d_nilt kr0 ?_ | refine d_nilf kr0 ?_
        refine then_n ?_
        refine swp_cond (b := _) rfl (fun h37 => by cases h37) (fun h37 => ?_)
        refine swp_skip ?_
        refine block_n ?_
        refine then_n ?_
        refine swp_sr ?_
        refine s_as rfl ?_
        refine swl_sub _ (sc0 4 rfl .nil) ?_
        refine swl_nn ?_
        refine swp_ret ?_
        have hi0 : i = 0 := by have := of_decide_eq_false h23; omega
        refine done_ret [ro μ] (.tmp rfl .nil) ⟨?_, rfl⟩ sp0
        unfold wrongE; rw [he]; simp only [if_neg h5', if_neg h13', if_pos hi0]; rfl
/-- Check: the first thing that is wrong -/
def checkE (t : List En) : Int := ((List.range t.length).map (wrongE t)).find? (· ≠ 0) |>.getD 0
theorem checkE_at {t : List En} {i : Nat} (hi : i < t.length) (h1 : ∀ j < i, wrongE t j = 0) (h2 : wrongE t i ≠ 0) : checkE t = wrongE t i := by
  unfold checkE
  have : ((List.range t.length).map (wrongE t)).find? (· ≠ 0) = some (wrongE t i) := by
    rw [List.find?_eq_some_iff_getElem]
    refine ⟨by simpa using h2, i, by simpa using hi, by simp, fun j hj => ?_⟩
    simp [h1 j hj]
  rw [this]; rfl
theorem checkE_ok {t : List En} (h1 : ∀ j < t.length, wrongE t j = 0) : checkE t = 0 := by
  unfold checkE
  have : ((List.range t.length).map (wrongE t)).find? (· ≠ 0) = none := by
    rw [List.find?_eq_none]
    intro x hx
    obtain ⟨j, hj, rfl⟩ := List.mem_map.1 hx
    simp [h1 j (List.mem_range.1 hj)]
  rw [this]; rfl
set_option maxHeartbeats 1000000 in
theorem check8_spec (μ : PH) (v : Value) (t : List En) (h : Row μ v 2 t.length (ens t)) (hsz : t.length ≤ 1048576) :
    Spec Tryz.prog 103 [v] [ro μ] (fun r L => r = .int .i64 (checkE t) ∧ L = [ro μ]) := by
  refine Spec.of 17 Tryz.func103 rfl rfl rfl ?_
  refine swp_sr ?_
  refine s_as rfl ?_
  refine swl_sub _ (sc0 0 rfl .nil) ?_
  refine swl_nn ?_
  refine swp_seq ?_
  refine swp_sr ?_
  refine s_as rfl ?_
  refine swl_sub _ (sc0 0 rfl (sc0 3 rfl .nil)) ?_
  refine swl_nn ?_
  refine swp_block ?_
  refine swp_loop (ι := Nat) (fun i env L => Sub env [(0, v), (3, .int .i64 (i : Nat))] ∧ L = [ro μ] ∧ i ≤ t.length ∧ ∀ j < i, wrongE t j = 0) (fun i => t.length - i) 0 ⟨⟨rfl, rfl, trivial⟩, rfl, Nat.zero_le _, by omega⟩ ?_
  rintro i env L ⟨hsub, rfl, hi, hz⟩
  refine swp_sub _ hsub ?_
  clear hsub env
  refine swp_seq ?_
  refine swp_sr ?_
  refine s_mv rfl ?_
  refine s_mv rfl ?_
  refine s_pu (pu_len_row h rfl) ?_
  refine s_pu (pu_lss rfl rfl) ?_
  refine swl_sub _ (sc0 0 rfl (sc0 3 rfl (sc0 8 rfl .nil))) ?_
  refine swl_nn ?_
  refine swp_cond (b := _) rfl (fun h8 => ?_) (fun h8 => ?_)
  · skip   -- 8 T
    have h8' : i < t.length := by have := of_decide_eq_true h8; omega
    refine swp_skip ?_
    refine then_n ?_
    refine swp_seq ?_
    refine swp_block ?_
    refine swp_sr ?_
    refine s_mv rfl ?_
    refine s_mv rfl ?_
    refine s_ef (ef_fn (wrong_spec μ v t i h h8' hsz) rfl rfl sp0) ?_
    rintro v13 L1 ⟨rfl, rfl⟩
    refine swl_app ?_
    refine s_as rfl ?_
    refine swl_sub _ (sc0 0 rfl (sc0 3 rfl (sc0 4 rfl .nil))) ?_
    refine swl_nn ?_
    refine swp_sr ?_
    refine s_mv rfl ?_
    refine s_pu (pu_neq rfl rfl) ?_
    refine swl_sub _ (sc0 0 rfl (sc0 3 rfl (sc0 4 rfl (sc0 15 rfl .nil)))) ?_
    refine swl_nn ?_
    refine swp_cond (b := _) rfl (fun h15 => ?_) (fun h15 => ?_)
    · skip   -- 15 T
      refine swp_sr ?_
      refine s_mv rfl ?_
      refine s_as rfl ?_
      refine swl_sub _ (sc0 2 rfl .nil) ?_
      refine swl_nn ?_
      refine swp_ret ?_
      refine block_r ?_
      refine then_r ?_
      refine then_r ?_
      refine block_r ?_
      refine then_r ?_
      have h15' : wrongE t i ≠ 0 := by simpa using h15
      exact done_ret [ro μ] (.tmp rfl .nil) ⟨by rw [checkE_at h8' hz h15']; rfl, rfl⟩ sp0
    · skip   -- 15 F
      refine swp_skip ?_
      refine block_n ?_
      refine then_n ?_
      refine swp_region ?_
      refine s_mv rfl ?_
      refine s_pu (pu_add_as ((i + 1 : Nat) : Int) rfl rfl om0 om0 om0) ?_
      refine s_as rfl ?_
      refine swl_sub _ (sc0 0 rfl (sc0 3 rfl .nil)) ?_
      refine swl_nil ?_
      have h15' : wrongE t i = 0 := by simpa using h15
      refine then_n ⟨i + 1, ⟨⟨rfl, rfl, trivial⟩, rfl, h8', fun j hj => ?_⟩, by omega⟩
      by_cases hji : j = i
      · rw [hji]; exact h15'
      · exact hz j om0
  · skip   -- 8 F
    have h8' := of_decide_eq_false h8
    refine swp_exit ?_
    refine then_x ?_
    refine then_x ?_
    refine block_hit rfl ?_
    refine then_n ?_
    refine swp_sr ?_
    refine s_as rfl ?_
    refine swl_sub _ (sc0 2 rfl .nil) ?_
    refine swl_nn ?_
    refine swp_ret ?_
    exact done_ret [ro μ] (.tmp rfl .nil) ⟨by rw [checkE_ok fun j hj => hz j om0]; rfl, rfl⟩ sp0
end SX
namespace SX
open Go Go.Proofs
theorem str_at {l : List UInt8} {i : Nat} {b : UInt8} (h : l[i]? = some b) : (str l).data.toList[i]? = some b := h
set_option maxHeartbeats 1000000 in
theorem alike_spec (a b : List UInt8) (ha : a.length ≤ 1073741824) (_ : b.length ≤ 1073741824) : Spec Tryz.prog 92 [.string (str a), .string (str b)] [] (fun v L => v = .int .i64 (lcp a b : Nat) ∧ L = []) := by
  refine Spec.of 25 Tryz.func92 rfl rfl rfl ?_
  refine swp_sr ?_
  refine s_as rfl ?_
  refine swl_sub _ (sc0 0 rfl (sc0 1 rfl .nil)) ?_
  refine swl_nn ?_
  refine swp_sr ?_
  refine s_as rfl ?_
  refine swl_sub _ (sc0 0 rfl (sc0 1 rfl (sc0 5 rfl .nil))) ?_
  refine swl_nn ?_
  refine swp_seq ?_
  refine swp_block ?_
  refine swp_loop (ι := Nat) (fun i env L => Sub env [(0, .string (str a)), (1, .string (str b)), (5, .int .i64 (i : Nat))] ∧ L = [] ∧ i ≤ a.length ∧ i ≤ b.length ∧ a.take i = b.take i) (fun i => a.length - i) 0 ⟨⟨rfl, rfl, rfl, trivial⟩, rfl, Nat.zero_le _, Nat.zero_le _, rfl⟩ ?_
  rintro i env L ⟨hsub, rfl, hi, hj, he⟩
  refine swp_sub _ hsub ?_
  clear hsub env
  refine swp_seq ?_
  refine swp_seq ?_
  refine swp_draw [] _ [] (by simp only [List.append_nil]; exact Ent.refl _) kr0 ?_
  refine d_pu 0 rfl (pu_move rfl) kr0 kr0 kr0 ?_
  refine d_pu 1 rfl (pu_move rfl) kr0 kr0 kr0 ?_
  refine d_pu 2 rfl (pu_strln rfl) kr0 kr0 kr0 ?_
  refine d_pu 3 rfl (pu_move rfl) kr0 kr0 kr0 ?_
  refine d_pu 4 rfl (pu_strln rfl) kr0 kr0 kr0 ?_
  refine d_pu 5 rfl (pu_min2 rfl rfl) kr0 kr0 kr0 ?_
  refine d_pu 6 rfl (pu_lss rfl rfl) kr0 kr0 kr0 ?_
  refine d_pu 7 rfl (pu_move rfl) kr0 kr0 kr0 ?_
  refine d_split 13 rfl (fun h13 => ?_) (fun h13 => ?_)
  · skip   -- 13 T
    have h13' : i < a.length ∧ i < b.length := by have := of_decide_eq_true h13; omega
    obtain ⟨x, hx⟩ : ∃ x, a[i]? = some x := ⟨_, List.getElem?_eq_getElem h13'.1⟩
    obtain ⟨y, hy⟩ : ∃ y, b[i]? = some y := ⟨_, List.getElem?_eq_getElem h13'.2⟩
    refine d_pu_on 8 rfl rfl rfl (pu_move rfl) kr0 kr0 kr0 ?_
    refine d_pu_on 9 rfl rfl rfl (pu_move rfl) kr0 kr0 kr0 ?_
    refine d_pu_on 10 rfl rfl rfl (pu_str_index (j := i) rfl rfl rfl (str_at hx)) kr0 kr0 kr0 ?_
    refine d_pu_on 11 rfl rfl rfl (pu_move rfl) kr0 kr0 kr0 ?_
    refine d_pu_on 12 rfl rfl rfl (pu_move rfl) kr0 kr0 kr0 ?_
    refine d_pu_on 13 rfl rfl rfl (pu_str_index (j := i) rfl rfl rfl (str_at hy)) kr0 kr0 kr0 ?_
    refine d_pu_on 14 rfl rfl rfl (pu_eql rfl rfl) kr0 kr0 kr0 ?_
    first | refine d_pu 15 rfl (pu_pick_t rfl rfl) kr0 kr0 kr0 ?_ | refine d_pu 15 rfl (pu_pick_f rfl rfl) kr0 kr0 kr0 ?_
    refine d_sub _ (sc0 0 rfl (sc0 1 rfl (sc0 5 rfl (sc0 21 rfl .nil)))) ?_
    first | refine d_nilt kr0 ?_ | refine d_nilf kr0 ?_
    refine then_n ?_
    refine swp_cond (b := _) rfl (fun h21 => ?_) (fun h21 => ?_)
    · skip   -- 21 T
      refine swp_skip ?_
      refine then_n ?_
      refine swp_block ?_
      refine swp_region ?_
      refine s_mv rfl ?_
      refine s_pu (pu_add_as ((i + 1 : Nat) : Int) rfl rfl om0 om0 om0) ?_
      refine s_as rfl ?_
      refine swl_sub _ (sc0 0 rfl (sc0 1 rfl (sc0 5 rfl .nil))) ?_
      refine swl_nil ?_
      refine block_n ?_
      have hxy : x = y := by have := of_decide_eq_true h21; exact UInt8.toNat_inj.1 om0
      refine then_n ⟨i + 1, ⟨⟨rfl, rfl, rfl, trivial⟩, rfl, h13'.1, h13'.2, ?_⟩, by omega⟩
      rw [List.take_add_one, List.take_add_one, hx, hy, he, hxy]
    · skip   -- 21 F
      refine swp_exit ?_
      refine then_x ?_
      refine then_x ?_
      refine block_hit rfl ?_
      refine then_n ?_
      refine swp_sr ?_
      refine s_mv rfl ?_
      refine s_as rfl ?_
      refine swl_sub _ (sc0 4 rfl .nil) ?_
      refine swl_nn ?_
      refine swp_ret ?_
      have hne : a[i]? ≠ b[i]? := fun e => by
        rw [hx, hy] at e
        cases e
        rw [decide_eq_true rfl] at h21; cases h21
      rw [lcp_at hi hj he (.inr (.inr hne))]
      exact done_ret [] (.tmp rfl .nil) ⟨rfl, rfl⟩ sp0
  · skip   -- 13 F
    refine d_off 8 rfl rfl rfl rfl kr0 kr0 kr0 ?_
    refine d_off 9 rfl rfl rfl rfl kr0 kr0 kr0 ?_
    refine d_off 10 rfl rfl rfl rfl kr0 kr0 kr0 ?_
    refine d_off 11 rfl rfl rfl rfl kr0 kr0 kr0 ?_
    refine d_off 12 rfl rfl rfl rfl kr0 kr0 kr0 ?_
    refine d_off 13 rfl rfl rfl rfl kr0 kr0 kr0 ?_
    refine d_off 14 rfl rfl rfl rfl kr0 kr0 kr0 ?_
    first | refine d_pu 15 rfl (pu_pick_t rfl rfl) kr0 kr0 kr0 ?_ | refine d_pu 15 rfl (pu_pick_f rfl rfl) kr0 kr0 kr0 ?_
    refine d_sub _ (sc0 0 rfl (sc0 1 rfl (sc0 5 rfl (sc0 21 rfl .nil)))) ?_
    first | refine d_nilt kr0 ?_ | refine d_nilf kr0 ?_
    refine then_n ?_
    refine swp_cond (b := _) rfl (fun h21 => by cases h21) (fun h21 => ?_)
    refine swp_exit ?_
    refine then_x ?_
    refine then_x ?_
    refine block_hit rfl ?_
    refine then_n ?_
    refine swp_sr ?_
    refine s_mv rfl ?_
    refine s_as rfl ?_
    refine swl_sub _ (sc0 4 rfl .nil) ?_
    refine swl_nn ?_
    refine swp_ret ?_
    have h13' : i = a.length ∨ i = b.length := by have := of_decide_eq_false h13; omega
    rw [lcp_at hi hj he (h13'.imp id .inl)]
    exact done_ret [] (.tmp rfl .nil) ⟨rfl, rfl⟩ sp0
set_option maxHeartbeats 1000000 in
theorem ralike_spec (a b : List UInt8) (ha : a.length ≤ 1073741824) (_ : b.length ≤ 1073741824) : Spec Tryz.prog 105 [.string (str a), .string (str b)] [] (fun v L => v = .int .i64 (lcp a b : Nat) ∧ L = []) := by
  refine Spec.of 28 Tryz.func105 rfl rfl rfl ?_
  refine swp_sr ?_
  refine s_as rfl ?_
  refine swl_sub _ (sc0 0 rfl (sc0 1 rfl .nil)) ?_
  refine swl_nn ?_
  refine swp_sr ?_
  refine s_as rfl ?_
  refine swl_sub _ (sc0 0 rfl (sc0 1 rfl (sc0 5 rfl .nil))) ?_
  refine swl_nn ?_
  refine swp_seq ?_
  refine swp_block ?_
  refine swp_loop (ι := Nat) (fun i env L => Sub env [(0, .string (str a)), (1, .string (str b)), (5, .int .i64 (i : Nat))] ∧ L = [] ∧ i ≤ a.length ∧ i ≤ b.length ∧ a.take i = b.take i) (fun i => a.length - i) 0 ⟨⟨rfl, rfl, rfl, trivial⟩, rfl, Nat.zero_le _, Nat.zero_le _, rfl⟩ ?_
  rintro i env L ⟨hsub, rfl, hi, hj, he⟩
  refine swp_sub _ hsub ?_
  clear hsub env
  refine swp_seq ?_
  refine swp_seq ?_
  refine swp_draw [] _ [] (by simp only [List.append_nil]; exact Ent.refl _) kr0 ?_
  refine d_pu 0 rfl (pu_move rfl) kr0 kr0 kr0 ?_
  refine d_pu 1 rfl (pu_move rfl) kr0 kr0 kr0 ?_
  refine d_pu 2 rfl (pu_strln rfl) kr0 kr0 kr0 ?_
  refine d_pu 3 rfl (pu_lss rfl rfl) kr0 kr0 kr0 ?_
  refine d_pu 4 rfl (pu_move rfl) kr0 kr0 kr0 ?_
  refine d_split 10 rfl (fun h10 => ?_) (fun h10 => ?_)
  · skip   -- 10 T
    refine d_pu_on 5 rfl rfl rfl (pu_move rfl) kr0 kr0 kr0 ?_
    refine d_pu_on 6 rfl rfl rfl (pu_move rfl) kr0 kr0 kr0 ?_
    refine d_pu_on 7 rfl rfl rfl (pu_strln rfl) kr0 kr0 kr0 ?_
    refine d_pu_on 8 rfl rfl rfl (pu_lss rfl rfl) kr0 kr0 kr0 ?_
    first | refine d_pu 9 rfl (pu_pick_t rfl rfl) kr0 kr0 kr0 ?_ | refine d_pu 9 rfl (pu_pick_f rfl rfl) kr0 kr0 kr0 ?_
    refine d_pu 10 rfl (pu_move rfl) kr0 kr0 kr0 ?_
    refine d_split 16 rfl (fun h16 => ?_) (fun h16 => ?_)
    · skip   -- 16 T
      have h13' : i < a.length ∧ i < b.length := by have h1 := of_decide_eq_true h10; have h2 := of_decide_eq_true h16; omega
      obtain ⟨x, hx⟩ : ∃ x, a[i]? = some x := ⟨_, List.getElem?_eq_getElem h13'.1⟩
      obtain ⟨y, hy⟩ : ∃ y, b[i]? = some y := ⟨_, List.getElem?_eq_getElem h13'.2⟩
      refine d_pu_on 11 rfl rfl rfl (pu_move rfl) kr0 kr0 kr0 ?_
      refine d_pu_on 12 rfl rfl rfl (pu_move rfl) kr0 kr0 kr0 ?_
      refine d_pu_on 13 rfl rfl rfl (pu_str_index (j := i) rfl rfl rfl (str_at hx)) kr0 kr0 kr0 ?_
      refine d_pu_on 14 rfl rfl rfl (pu_move rfl) kr0 kr0 kr0 ?_
      refine d_pu_on 15 rfl rfl rfl (pu_move rfl) kr0 kr0 kr0 ?_
      refine d_pu_on 16 rfl rfl rfl (pu_str_index (j := i) rfl rfl rfl (str_at hy)) kr0 kr0 kr0 ?_
      refine d_pu_on 17 rfl rfl rfl (pu_eql rfl rfl) kr0 kr0 kr0 ?_
      first | refine d_pu 18 rfl (pu_pick_t rfl rfl) kr0 kr0 kr0 ?_ | refine d_pu 18 rfl (pu_pick_f rfl rfl) kr0 kr0 kr0 ?_
      refine d_sub _ (sc0 0 rfl (sc0 1 rfl (sc0 5 rfl (sc0 24 rfl .nil)))) ?_
      first | refine d_nilt kr0 ?_ | refine d_nilf kr0 ?_
      refine then_n ?_
      refine swp_cond (b := _) rfl (fun h24 => ?_) (fun h24 => ?_)
      · skip   -- 24 T
        refine swp_skip ?_
        refine then_n ?_
        refine swp_block ?_
        refine swp_region ?_
        refine s_mv rfl ?_
        refine s_pu (pu_add_as ((i + 1 : Nat) : Int) rfl rfl om0 om0 om0) ?_
        refine s_as rfl ?_
        refine swl_sub _ (sc0 0 rfl (sc0 1 rfl (sc0 5 rfl .nil))) ?_
        refine swl_nil ?_
        refine block_n ?_
        have hxy : x = y := by have := of_decide_eq_true h24; exact UInt8.toNat_inj.1 om0
        refine then_n ⟨i + 1, ⟨⟨rfl, rfl, rfl, trivial⟩, rfl, h13'.1, h13'.2, ?_⟩, by omega⟩
        rw [List.take_add_one, List.take_add_one, hx, hy, he, hxy]
      · skip   -- 24 F
        refine swp_exit ?_
        refine then_x ?_
        refine then_x ?_
        refine block_hit rfl ?_
        refine then_n ?_
        refine swp_sr ?_
        refine s_mv rfl ?_
        refine s_as rfl ?_
        refine swl_sub _ (sc0 4 rfl .nil) ?_
        refine swl_nn ?_
        refine swp_ret ?_
        have hne : a[i]? ≠ b[i]? := fun e => by
          rw [hx, hy] at e
          cases e
          rw [decide_eq_true rfl] at h24; cases h24
        rw [lcp_at hi hj he (.inr (.inr hne))]
        exact done_ret [] (.tmp rfl .nil) ⟨rfl, rfl⟩ sp0
    · skip   -- 16 F
      refine d_off 11 rfl rfl rfl rfl kr0 kr0 kr0 ?_
      refine d_off 12 rfl rfl rfl rfl kr0 kr0 kr0 ?_
      refine d_off 13 rfl rfl rfl rfl kr0 kr0 kr0 ?_
      refine d_off 14 rfl rfl rfl rfl kr0 kr0 kr0 ?_
      refine d_off 15 rfl rfl rfl rfl kr0 kr0 kr0 ?_
      refine d_off 16 rfl rfl rfl rfl kr0 kr0 kr0 ?_
      refine d_off 17 rfl rfl rfl rfl kr0 kr0 kr0 ?_
      first | refine d_pu 18 rfl (pu_pick_t rfl rfl) kr0 kr0 kr0 ?_ | refine d_pu 18 rfl (pu_pick_f rfl rfl) kr0 kr0 kr0 ?_
      refine d_sub _ (sc0 0 rfl (sc0 1 rfl (sc0 5 rfl (sc0 24 rfl .nil)))) ?_
      first | refine d_nilt kr0 ?_ | refine d_nilf kr0 ?_
      refine then_n ?_
      refine swp_cond (b := _) rfl (fun h24 => by cases h24) (fun h24 => ?_)
      refine swp_exit ?_
      refine then_x ?_
      refine then_x ?_
      refine block_hit rfl ?_
      refine then_n ?_
      refine swp_sr ?_
      refine s_mv rfl ?_
      refine s_as rfl ?_
      refine swl_sub _ (sc0 4 rfl .nil) ?_
      refine swl_nn ?_
      refine swp_ret ?_
      have h13' : i = b.length := by have := of_decide_eq_false h16; omega
      rw [lcp_at hi hj he (.inr (.inl h13'))]
      exact done_ret [] (.tmp rfl .nil) ⟨rfl, rfl⟩ sp0
  · skip   -- 10 F
    refine d_off 5 rfl rfl rfl rfl kr0 kr0 kr0 ?_
    refine d_off 6 rfl rfl rfl rfl kr0 kr0 kr0 ?_
    refine d_off 7 rfl rfl rfl rfl kr0 kr0 kr0 ?_
    refine d_off 8 rfl rfl rfl rfl kr0 kr0 kr0 ?_
    first | refine d_pu 9 rfl (pu_pick_t rfl rfl) kr0 kr0 kr0 ?_ | refine d_pu 9 rfl (pu_pick_f rfl rfl) kr0 kr0 kr0 ?_
    refine d_pu 10 rfl (pu_move rfl) kr0 kr0 kr0 ?_
    refine d_split 16 rfl (fun h16 => by cases h16) (fun h16 => ?_)
    refine d_off 11 rfl rfl rfl rfl kr0 kr0 kr0 ?_
    refine d_off 12 rfl rfl rfl rfl kr0 kr0 kr0 ?_
    refine d_off 13 rfl rfl rfl rfl kr0 kr0 kr0 ?_
    refine d_off 14 rfl rfl rfl rfl kr0 kr0 kr0 ?_
    refine d_off 15 rfl rfl rfl rfl kr0 kr0 kr0 ?_
    refine d_off 16 rfl rfl rfl rfl kr0 kr0 kr0 ?_
    refine d_off 17 rfl rfl rfl rfl kr0 kr0 kr0 ?_
    first | refine d_pu 18 rfl (pu_pick_t rfl rfl) kr0 kr0 kr0 ?_ | refine d_pu 18 rfl (pu_pick_f rfl rfl) kr0 kr0 kr0 ?_
    refine d_sub _ (sc0 0 rfl (sc0 1 rfl (sc0 5 rfl (sc0 24 rfl .nil)))) ?_
    first | refine d_nilt kr0 ?_ | refine d_nilf kr0 ?_
    refine then_n ?_
    refine swp_cond (b := _) rfl (fun h24 => by cases h24) (fun h24 => ?_)
    refine swp_exit ?_
    refine then_x ?_
    refine then_x ?_
    refine block_hit rfl ?_
    refine then_n ?_
    refine swp_sr ?_
    refine s_mv rfl ?_
    refine s_as rfl ?_
    refine swl_sub _ (sc0 4 rfl .nil) ?_
    refine swl_nn ?_
    refine swp_ret ?_
    have h13' : i = a.length := by have := of_decide_eq_false h10; omega
    rw [lcp_at hi hj he (.inl h13')]
    exact done_ret [] (.tmp rfl .nil) ⟨rfl, rfl⟩ sp0
end SX
namespace SX
open Go Go.Proofs
theorem wrongE_at {t : List En} {i : Nat} {e : En} (he : t[i]? = some e) : (255 < e.1.size → wrongE t i = 5) ∧ (¬ 255 < e.1.size → e.2 = 0 → wrongE t i = 1) ∧ (¬ 255 < e.1.size → ¬ e.2 = 0 → i = 0 → wrongE t i = 0) ∧
    ∀ d, ¬ 255 < e.1.size → ¬ e.2 = 0 → 0 < i → t[i - 1]? = some d → wrongE t i = if strEq e.1 d.1 = true then 11 else if strLt e.1 d.1 = true then 10 else 0 := by
  refine ⟨fun h1 => ?_, fun h1 h2 => ?_, fun h1 h2 h3 => ?_, fun d h1 h2 h3 h4 => ?_⟩
  · unfold wrongE; rw [he]; simp only [if_pos h1]
  · unfold wrongE; rw [he]; simp only [if_neg h1, if_pos h2]
  · unfold wrongE; rw [he]; simp only [if_neg h1, if_neg h2, if_pos h3]
  · unfold wrongE; rw [he]; simp only [if_neg h1, if_neg h2, if_neg (Nat.ne_of_gt h3), h4]
set_option maxHeartbeats 2000000 in
theorem tcheck_spec (μ : PH) (v : Value) (t : List En) (h : Row μ v 2 t.length (ens t)) (hsz : t.length ≤ 1048576) : Spec Tryz.prog 89 [v] [ro μ] (fun r L => r = .int .i64 (checkE t) ∧ L = [ro μ]) := by
  refine Spec.of 50 Tryz.func89 rfl rfl rfl ?_
  refine swp_sr ?_
  refine s_as rfl ?_
  refine swl_sub _ (sc0 0 rfl .nil) ?_
  refine swl_nn ?_
  refine swp_seq ?_
  refine swp_sr ?_
  refine s_mv rfl ?_
  refine s_pu (pu_len_row h rfl) ?_
  refine s_mv rfl ?_
  refine swl_sub _ (sc0 0 rfl (sc0 5 rfl (sc0 6 rfl (sc0 7 rfl .nil)))) ?_
  refine swl_nn ?_
  refine swp_block ?_
  refine swp_loop (ι := Nat) (fun i env L => Sub env [(0, v), (5, v), (6, .int .i64 (t.length : Nat)), (7, .int .i64 (i : Nat))] ∧ Ent L [ro μ] ∧ i ≤ t.length ∧ ∀ j < i, wrongE t j = 0) (fun i => t.length - i) 0 ⟨⟨rfl, rfl, rfl, rfl, trivial⟩, Ent.refl _, Nat.zero_le _, fun j hj => by omega⟩ ?_
  rintro i env L ⟨hsub, hE, hi, hw⟩
  refine swp_sub _ hsub ?_
  refine swp_ent hE ?_
  clear hsub hE env L
  refine swp_sr ?_
  refine s_pu (pu_lss rfl rfl) ?_
  refine swl_sub _ (sc0 0 rfl (sc0 5 rfl (sc0 6 rfl (sc0 7 rfl (sc0 8 rfl .nil))))) ?_
  refine swl_nn ?_
  refine swp_seq ?_
  refine swp_cond (b := _) rfl (fun h8 => ?_) (fun h8 => ?_)
  · skip   -- 8 T
    have h8' : i < t.length := by have := of_decide_eq_true h8; omega
    obtain ⟨e, he⟩ : ∃ e, t[i]? = some e := ⟨_, List.getElem?_eq_getElem h8'⟩
    obtain ⟨gb, off, cap, hv, hra, hc0, hc1⟩ := tree_at h he
    obtain ⟨w1, w2, w3, w4⟩ := wrongE_at he
    refine swp_skip ?_
    refine then_n ?_
    refine swp_seq ?_
    refine swp_block ?_
    refine swp_sr ?_
    refine s_mv rfl ?_
    refine s_pu (pu_indexAddr (off + i * 2) (congrArg some hv) rfl om0 om0 (by rw [Int.toNat_natCast])) ?_
    refine s_rd (rd_roA rfl rfl hra) ?_
    refine s_ef (ef_alloc) ?_
    intro b4
    refine s_as rfl ?_
    refine s_ef0 (ef_storeA rfl rfl rfl rfl) ?_
    refine swl_sub _ (sc0 0 rfl (sc0 3 rfl (sc0 4 rfl (sc0 5 rfl (sc0 6 rfl (sc0 7 rfl .nil)))))) ?_
    refine swl_nn ?_
    refine swp_block ?_
    refine swp_sr ?_
    first | refine s_pu (pu_fieldAddr0 rfl) ?_ | refine s_pu (pu_fieldAddr rfl) ?_
    refine s_rd (rd_load rfl rfl) ?_
    refine s_pu (pu_strlen rfl) ?_
    refine s_pu (pu_gtr rfl rfl) ?_
    refine s_as rfl ?_
    refine swl_sub _ (sc0 0 rfl (sc0 3 rfl (sc0 4 rfl (sc0 5 rfl (sc0 6 rfl (sc0 7 rfl (sc0 12 rfl .nil))))))) ?_
    refine swl_nn ?_
    refine swp_cond (b := _) rfl (fun h12 => ?_) (fun h12 => ?_)
    · skip   -- 12 T
      have h12' : 255 < e.1.size := by have := of_decide_eq_true h12; omega
      have hwe := w1 h12'
      refine swp_sr ?_
      refine s_as rfl ?_
      refine swl_sub _ (sc0 2 rfl .nil) ?_
      refine swl_nn ?_
      refine swp_ret ?_
      refine block_r ?_
      refine block_r ?_
      refine then_r ?_
      refine then_r ?_
      refine block_r ?_
      refine then_r ?_
      rw [checkE_at h8' hw (by rw [hwe]; decide), hwe]
      exact done_ret [ro μ] (.tmp rfl .nil) ⟨rfl, rfl⟩ sp0
    · skip   -- 12 F
      have h12' : ¬ 255 < e.1.size := by have := of_decide_eq_false h12; omega
      refine swp_sr ?_
      first | refine s_pu (pu_fieldAddr0 rfl) ?_ | refine s_pu (pu_fieldAddr rfl) ?_
      refine s_rd (rd_load rfl rfl) ?_
      refine s_pu (pu_eql rfl rfl) ?_
      refine s_as rfl ?_
      refine swl_sub _ (sc0 0 rfl (sc0 3 rfl (sc0 4 rfl (sc0 5 rfl (sc0 6 rfl (sc0 7 rfl (sc0 17 rfl .nil))))))) ?_
      refine swl_nn ?_
      refine swp_cond (b := _) rfl (fun h17 => ?_) (fun h17 => ?_)
      · skip   -- 17 T
        have h17' : e.2 = 0 := of_decide_eq_true h17
        have hwe := w2 h12' h17'
        refine swp_sr ?_
        refine s_as rfl ?_
        refine swl_sub _ (sc0 2 rfl .nil) ?_
        refine swl_nn ?_
        refine swp_ret ?_
        refine block_r ?_
        refine block_r ?_
        refine then_r ?_
        refine then_r ?_
        refine block_r ?_
        refine then_r ?_
        rw [checkE_at h8' hw (by rw [hwe]; decide), hwe]
        exact done_ret [ro μ] (.tmp rfl .nil) ⟨rfl, rfl⟩ sp0
      · skip   -- 17 F
        have h17' : ¬ e.2 = 0 := of_decide_eq_false h17
        refine swp_seq ?_
        refine swp_draw [4, 10] _ [] (by simp only [List.append_nil]; exact Ent.refl _) kr0 ?_
        refine d_pu 0 rfl (pu_move rfl) kr0 kr0 kr0 ?_
        refine d_pu 1 rfl (pu_gtr rfl rfl) kr0 kr0 kr0 ?_
        refine d_pu 2 rfl (pu_move rfl) kr0 kr0 kr0 ?_
        refine d_split 24 rfl (fun h24 => ?_) (fun h24 => ?_)
        · skip   -- 24 T
          have hi0 : 0 < i := by have := of_decide_eq_true h24; omega
          obtain ⟨d, hd⟩ : ∃ d, t[i - 1]? = some d := ⟨_, List.getElem?_eq_getElem om0⟩
          obtain ⟨gb', off', cap', hv', hra', hd0, hd1⟩ := tree_at h hd
          have hwe := w4 d h12' h17' hi0 hd
          first | refine d_pu_on 3 rfl rfl rfl (pu_fieldAddr0 rfl) kr0 kr0 kr0 ?_ | refine d_pu_on 3 rfl rfl rfl (pu_fieldAddr rfl) kr0 kr0 kr0 ?_
          refine d_rd_on 4 rfl rfl rfl (rd_load rfl rfl) rfl kr0 kr0 kr0 ?_
          refine d_pu_on 5 rfl rfl rfl (pu_move rfl) kr0 kr0 kr0 ?_
          refine d_pu_on 6 rfl rfl rfl (pu_move rfl) kr0 kr0 kr0 ?_
          refine d_pu_on 7 rfl rfl rfl (pu_sub_as ((i - 1 : Nat) : Int) rfl rfl om0 om0 om0) kr0 kr0 kr0 ?_
          refine d_pu_on 8 rfl rfl rfl (pu_indexAddr (off' + (i - 1) * 2) (congrArg some hv') rfl om0 om0 (by rw [Int.toNat_natCast])) kr0 kr0 kr0 ?_
          first | refine d_pu_on 9 rfl rfl rfl (pu_fieldAddr0 rfl) kr0 kr0 kr0 ?_ | refine d_pu_on 9 rfl rfl rfl (pu_fieldAddr rfl) kr0 kr0 kr0 ?_
          refine d_rd_on 10 rfl rfl rfl (rd_ro rfl hd0) rfl kr0 kr0 kr0 ?_
          refine d_pu_on 11 rfl rfl rfl (pu_str_eql rfl rfl) kr0 kr0 kr0 ?_
          first | refine d_pu 12 rfl (pu_pick_t rfl rfl) kr0 kr0 kr0 ?_ | refine d_pu 12 rfl (pu_pick_f rfl rfl) kr0 kr0 kr0 ?_
          refine d_pu 13 rfl (pu_assign rfl) kr0 kr0 kr0 ?_
          refine d_sub _ (sc0 0 rfl (sc0 3 rfl (sc0 4 rfl (sc0 5 rfl (sc0 6 rfl (sc0 7 rfl (sc0 21 rfl .nil))))))) ?_
          first | refine d_nilt kr0 ?_ | refine d_nilf kr0 ?_
          refine then_n ?_
          refine swp_cond (b := _) rfl (fun h21 => ?_) (fun h21 => ?_)
          · skip   -- 21 T
            refine swp_sr ?_
            refine s_as rfl ?_
            refine swl_sub _ (sc0 2 rfl .nil) ?_
            refine swl_nn ?_
            refine swp_ret ?_
            refine block_r ?_
            refine block_r ?_
            refine then_r ?_
            refine then_r ?_
            refine block_r ?_
            refine then_r ?_
            rw [if_pos h21] at hwe
            rw [checkE_at h8' hw (by rw [hwe]; decide), hwe]
            exact done_ret [ro μ] (.tmp rfl .nil) ⟨rfl, rfl⟩ sp0
          · skip   -- 21 F
            refine swp_seq ?_
            refine swp_draw [4, 10] _ [] (by simp only [List.append_nil]; exact Ent.refl _) kr0 ?_
            refine d_pu 0 rfl (pu_move rfl) kr0 kr0 kr0 ?_
            refine d_pu 1 rfl (pu_gtr rfl rfl) kr0 kr0 kr0 ?_
            refine d_pu 2 rfl (pu_move rfl) kr0 kr0 kr0 ?_
            refine d_split 38 rfl (fun h38 => ?_) (fun h38 => by exfalso; have := of_decide_eq_false h38; omega)
            first | refine d_pu_on 3 rfl rfl rfl (pu_fieldAddr0 rfl) kr0 kr0 kr0 ?_ | refine d_pu_on 3 rfl rfl rfl (pu_fieldAddr rfl) kr0 kr0 kr0 ?_
            refine d_rd_on 4 rfl rfl rfl (rd_load rfl rfl) rfl kr0 kr0 kr0 ?_
            refine d_pu_on 5 rfl rfl rfl (pu_move rfl) kr0 kr0 kr0 ?_
            refine d_pu_on 6 rfl rfl rfl (pu_move rfl) kr0 kr0 kr0 ?_
            refine d_pu_on 7 rfl rfl rfl (pu_sub_as ((i - 1 : Nat) : Int) rfl rfl om0 om0 om0) kr0 kr0 kr0 ?_
            refine d_pu_on 8 rfl rfl rfl (pu_indexAddr (off' + (i - 1) * 2) (congrArg some hv') rfl om0 om0 (by rw [Int.toNat_natCast])) kr0 kr0 kr0 ?_
            first | refine d_pu_on 9 rfl rfl rfl (pu_fieldAddr0 rfl) kr0 kr0 kr0 ?_ | refine d_pu_on 9 rfl rfl rfl (pu_fieldAddr rfl) kr0 kr0 kr0 ?_
            refine d_rd_on 10 rfl rfl rfl (rd_ro rfl hd0) rfl kr0 kr0 kr0 ?_
            refine d_pu_on 11 rfl rfl rfl (pu_str_lss rfl rfl) kr0 kr0 kr0 ?_
            first | refine d_pu 12 rfl (pu_pick_t rfl rfl) kr0 kr0 kr0 ?_ | refine d_pu 12 rfl (pu_pick_f rfl rfl) kr0 kr0 kr0 ?_
            refine d_pu 13 rfl (pu_assign rfl) kr0 kr0 kr0 ?_
            refine d_sub _ (sc0 0 rfl (sc0 5 rfl (sc0 6 rfl (sc0 7 rfl (sc0 35 rfl .nil))))) ?_
            first | refine d_nilt kr0 ?_ | refine d_nilf kr0 ?_
            refine then_n ?_
            refine swp_cond (b := _) rfl (fun h35 => ?_) (fun h35 => ?_)
            · skip   -- 35 T
              refine swp_sr ?_
              refine s_as rfl ?_
              refine swl_sub _ (sc0 2 rfl .nil) ?_
              refine swl_nn ?_
              refine swp_ret ?_
              refine block_r ?_
              refine block_r ?_
              refine then_r ?_
              refine then_r ?_
              refine block_r ?_
              refine then_r ?_
              rw [if_neg (by rw [h21]; exact Bool.false_ne_true), if_pos h35] at hwe
              rw [checkE_at h8' hw (by rw [hwe]; decide), hwe]
              exact done_ret [ro μ] (.tmp rfl .nil) ⟨rfl, rfl⟩ sp0
            · skip   -- 35 F
              refine swp_skip ?_
              refine block_n ?_
              refine block_n ?_
              refine then_n ?_
              refine swp_region ?_
              refine s_pu (pu_add_as ((i + 1 : Nat) : Int) rfl rfl om0 om0 om0) ?_
              refine s_mv rfl ?_
              refine swl_sub _ (sc0 0 rfl (sc0 5 rfl (sc0 6 rfl (sc0 7 rfl .nil)))) ?_
              refine swl_nil ?_
              rw [if_neg (by rw [h21]; exact Bool.false_ne_true), if_neg (by rw [h35]; exact Bool.false_ne_true)] at hwe
              refine then_n ⟨i + 1, ⟨⟨rfl, rfl, rfl, rfl, trivial⟩, Split.ent' sp0, h8', fun j hj => ?_⟩, by omega⟩
              by_cases e1 : j = i
              · subst e1; exact hwe
              · exact hw j om0
        · skip   -- 24 F
          have hi0 : i = 0 := by have := of_decide_eq_false h24; omega
          have hwe := w3 h12' h17' hi0
          refine d_off 3 rfl rfl rfl rfl kr0 kr0 kr0 ?_
          refine d_off 4 rfl rfl rfl rfl kr0 kr0 kr0 ?_
          refine d_off 5 rfl rfl rfl rfl kr0 kr0 kr0 ?_
          refine d_off 6 rfl rfl rfl rfl kr0 kr0 kr0 ?_
          refine d_off 7 rfl rfl rfl rfl kr0 kr0 kr0 ?_
          refine d_off 8 rfl rfl rfl rfl kr0 kr0 kr0 ?_
          refine d_off 9 rfl rfl rfl rfl kr0 kr0 kr0 ?_
          refine d_off 10 rfl rfl rfl rfl kr0 kr0 kr0 ?_
          refine d_off 11 rfl rfl rfl rfl kr0 kr0 kr0 ?_
          first | refine d_pu 12 rfl (pu_pick_t rfl rfl) kr0 kr0 kr0 ?_ | refine d_pu 12 rfl (pu_pick_f rfl rfl) kr0 kr0 kr0 ?_
          refine d_pu 13 rfl (pu_assign rfl) kr0 kr0 kr0 ?_
          refine d_sub _ (sc0 0 rfl (sc0 3 rfl (sc0 4 rfl (sc0 5 rfl (sc0 6 rfl (sc0 7 rfl (sc0 21 rfl .nil))))))) ?_
          first | refine d_nilt kr0 ?_ | refine d_nilf kr0 ?_
          refine then_n ?_
          refine swp_cond (b := _) rfl (fun h21 => by cases h21) (fun h21 => ?_)
          refine swp_seq ?_
          refine swp_draw [4, 10] _ [] (by simp only [List.append_nil]; exact Ent.refl _) kr0 ?_
          refine d_pu 0 rfl (pu_move rfl) kr0 kr0 kr0 ?_
          refine d_pu 1 rfl (pu_gtr rfl rfl) kr0 kr0 kr0 ?_
          refine d_pu 2 rfl (pu_move rfl) kr0 kr0 kr0 ?_
          refine d_split 38 rfl (fun h38 => by exfalso; have := of_decide_eq_true h38; omega) (fun h38 => ?_)
          refine d_off 3 rfl rfl rfl rfl kr0 kr0 kr0 ?_
          refine d_off 4 rfl rfl rfl rfl kr0 kr0 kr0 ?_
          refine d_off 5 rfl rfl rfl rfl kr0 kr0 kr0 ?_
          refine d_off 6 rfl rfl rfl rfl kr0 kr0 kr0 ?_
          refine d_off 7 rfl rfl rfl rfl kr0 kr0 kr0 ?_
          refine d_off 8 rfl rfl rfl rfl kr0 kr0 kr0 ?_
          refine d_off 9 rfl rfl rfl rfl kr0 kr0 kr0 ?_
          refine d_off 10 rfl rfl rfl rfl kr0 kr0 kr0 ?_
          refine d_off 11 rfl rfl rfl rfl kr0 kr0 kr0 ?_
          first | refine d_pu 12 rfl (pu_pick_t rfl rfl) kr0 kr0 kr0 ?_ | refine d_pu 12 rfl (pu_pick_f rfl rfl) kr0 kr0 kr0 ?_
          refine d_pu 13 rfl (pu_assign rfl) kr0 kr0 kr0 ?_
          refine d_sub _ (sc0 0 rfl (sc0 5 rfl (sc0 6 rfl (sc0 7 rfl (sc0 35 rfl .nil))))) ?_
          first | refine d_nilt kr0 ?_ | refine d_nilf kr0 ?_
          refine then_n ?_
          refine swp_cond (b := _) rfl (fun h35 => by cases h35) (fun h35 => ?_)
          refine swp_skip ?_
          refine block_n ?_
          refine block_n ?_
          refine then_n ?_
          refine swp_region ?_
          refine s_pu (pu_add_as ((i + 1 : Nat) : Int) rfl rfl om0 om0 om0) ?_
          refine s_mv rfl ?_
          refine swl_sub _ (sc0 0 rfl (sc0 5 rfl (sc0 6 rfl (sc0 7 rfl .nil)))) ?_
          refine swl_nil ?_
          refine then_n ⟨i + 1, ⟨⟨rfl, rfl, rfl, rfl, trivial⟩, Split.ent' sp0, h8', fun j hj => ?_⟩, by omega⟩
          by_cases e1 : j = i
          · subst e1; exact hwe
          · exact hw j om0
  · skip   -- 8 F
    have h8' := of_decide_eq_false h8
    refine swp_exit ?_
    refine then_x ?_
    refine then_x ?_
    refine block_hit rfl ?_
    refine then_n ?_
    refine swp_sr ?_
    refine s_as rfl ?_
    refine swl_sub _ (sc0 2 rfl .nil) ?_
    refine swl_nn ?_
    refine swp_ret ?_
    rw [checkE_ok fun j hj => hw j om0]
    exact done_ret [ro μ] (.tmp rfl .nil) ⟨rfl, rfl⟩ sp0
end SX
namespace SX
open Go Go.Proofs
def encErr (t : List En) : Int := if 1024 < t.length then 5 else checkE t
def encV (t : List En) : List UInt8 := if encErr t = 0 then encT t else []
theorem wrongE_all {t : List En} (h : checkE t = 0) : ∀ i, i < t.length → wrongE t i = 0 := fun i hi => by
  unfold checkE at h
  cases hf : ((List.range t.length).map (wrongE t)).find? (· ≠ 0) with
  | none =>
    have := (List.find?_eq_none.1 hf) (wrongE t i) (List.mem_map.2 ⟨i, List.mem_range.2 hi, rfl⟩)
    simpa using this
  | some x =>
    rw [hf] at h
    have := List.find?_some hf
    simp at this
    exact absurd h this
theorem check_paths {t : List En} (h : checkE t = 0) : ∀ e ∈ t, (bts e).length ≤ 255 ∧ e.2 ≠ 0 := fun e he => by
  obtain ⟨i, hi⟩ := List.getElem?_of_mem he
  have hl := (List.getElem?_eq_some_iff.1 hi).1
  have hz := wrongE_all h i hl
  obtain ⟨w1, w2, _, _⟩ := wrongE_at hi
  refine ⟨?_, fun h0 => ?_⟩
  · refine Nat.le_of_not_lt fun k => ?_
    rw [w1 k] at hz; cases hz
  · by_cases k : 255 < e.1.size
    · rw [w1 k] at hz; cases hz
    · rw [w2 k h0] at hz; cases hz
set_option maxHeartbeats 4000000 in
theorem tenc_spec (μ : PH) (v : Value) (t : List En) (h : Row μ v 2 t.length (ens t)) (hu : U32s t) : Spec Tryz.prog 45 [v] [ro μ] (fun r L => r = .tuple #[.string (str (encV t)), .int .i64 (encErr t)] ∧ L = [ro μ]) := by
  refine Spec.of 61 Tryz.func45 rfl rfl rfl ?_
  refine swp_sr ?_
  refine s_as rfl ?_
  refine s_as rfl ?_
  refine swl_sub _ (sc0 0 rfl .nil) ?_
  refine swl_nn ?_
  refine swp_seq ?_
  refine swp_sr ?_
  refine s_mv rfl ?_
  refine s_pu (pu_len_row h rfl) ?_
  refine s_pu (pu_gtr rfl rfl) ?_
  refine swl_sub _ (sc0 0 rfl (sc0 12 rfl .nil)) ?_
  refine swl_nn ?_
  refine swp_cond (b := _) rfl (fun h12 => ?_) (fun h12 => ?_)
  · skip   -- 12 T
    refine swp_sr ?_
    refine s_as rfl ?_
    refine s_as rfl ?_
    refine swl_sub _ (sc0 2 rfl (sc0 3 rfl .nil)) ?_
    refine swl_nn ?_
    refine swp_ret ?_
    refine then_r ?_
    have h12' : 1024 < t.length := by have := of_decide_eq_true h12; omega
    have e1 : encErr t = 5 := by unfold encErr; rw [if_pos h12']
    have e2 : encV t = [] := by unfold encV; rw [e1]; rfl
    rw [e1, e2]
    exact done_ret [ro μ] (.tmp rfl (.tmp rfl .nil)) ⟨rfl, rfl⟩ sp0
  · skip   -- 12 F
    have h12' : t.length ≤ 1024 := by have := of_decide_eq_false h12; omega
    have hsz : t.length ≤ 1048576 := by omega
    have e1 : encErr t = checkE t := by unfold encErr; rw [if_neg om0]
    refine swp_skip ?_
    refine then_n ?_
    refine swp_seq ?_
    refine swp_sr ?_
    refine s_mv rfl ?_
    refine s_ef (ef_fn (tcheck_spec μ v t h hsz) rfl rfl sp0) ?_
    rintro v14 L1 ⟨rfl, rfl⟩
    refine swl_app ?_
    refine s_as rfl ?_
    refine swl_sub _ (sc0 0 rfl (sc0 4 rfl .nil)) ?_
    refine swl_nn ?_
    refine swp_sr ?_
    refine s_mv rfl ?_
    refine s_pu (pu_neq rfl rfl) ?_
    refine swl_sub _ (sc0 0 rfl (sc0 4 rfl (sc0 16 rfl .nil))) ?_
    refine swl_nn ?_
    refine swp_cond (b := _) rfl (fun h16 => ?_) (fun h16 => ?_)
    · skip   -- 16 T
      refine swp_sr ?_
      refine s_mv rfl ?_
      refine s_as rfl ?_
      refine s_as rfl ?_
      refine swl_sub _ (sc0 2 rfl (sc0 3 rfl .nil)) ?_
      refine swl_nn ?_
      refine swp_ret ?_
      refine then_r ?_
      have h16' : checkE t ≠ 0 := fun e => by rw [e] at h16; exact absurd h16 (by decide)
      have e2 : encV t = [] := by unfold encV; rw [e1, if_neg h16']
      rw [e1, e2]
      exact done_ret [ro μ] (.tmp rfl (.tmp rfl .nil)) ⟨rfl, rfl⟩ sp0
    · skip   -- 16 F
      have h16' : checkE t = 0 := by
        by_cases e : checkE t = 0
        · exact e
        · rw [decide_eq_false e] at h16; cases h16
      have hp := check_paths h16'
      have e2 : encV t = encT t := by unfold encV; rw [e1, if_pos h16']
      rw [e1, e2, h16']
      refine swp_skip ?_
      refine then_n ?_
      refine swp_sr ?_
      refine s_ef (ef_fn wNew_spec rfl rfl sp0) ?_
      rintro v18 L1 ⟨p, rfl, rfl⟩
      refine swl_app ?_
      refine s_as rfl ?_
      refine swl_sub _ (sc0 0 rfl (sc0 5 rfl .nil)) ?_
      refine swl_nn ?_
      refine swp_sr ?_
      refine s_mv rfl ?_
      refine s_mv rfl ?_
      refine s_pu (pu_len_row h rfl) ?_
      refine s_pu (pu_conv_as rfl (wrap_lt16 om0)) ?_
      refine s_ef (ef_fn (wU16_spec p t.length [] om0 (by decide)) rfl rfl sp0) ?_
      rintro v23 L1 ⟨rfl, rfl⟩
      rw [List.nil_append]
      refine swl_app ?_
      refine swl_sub _ (sc0 0 rfl (sc0 5 rfl .nil)) ?_
      refine swl_nn ?_
      refine swp_sr ?_
      refine s_as rfl ?_
      refine swl_sub _ (sc0 0 rfl (sc0 5 rfl (sc0 6 rfl .nil))) ?_
      refine swl_nn ?_
      refine swp_seq ?_
      refine swp_sr ?_
      refine s_mv rfl ?_
      refine s_pu (pu_len_row h rfl) ?_
      refine s_mv rfl ?_
      refine swl_sub _ (sc0 5 rfl (sc0 6 rfl (sc0 24 rfl (sc0 25 rfl (sc0 26 rfl .nil))))) ?_
      refine swl_nn ?_
      refine swp_block ?_
      refine swp_loop (ι := Nat) (fun i env L => Sub env [(5, .pointer (some ⟨p, 0, none⟩)), (6, .string (str (lastT t i))), (24, v), (25, .int .i64 (t.length : Nat)), (26, .int .i64 (i : Nat))] ∧ Ent L [wrA p (numB 2 t.length ++ encEs [] (t.take i)), ro μ] ∧ i ≤ t.length) (fun i => t.length - i) 0 ⟨⟨rfl, rfl, rfl, rfl, rfl, trivial⟩, by show Ent _ [wrA p (numB 2 t.length ++ []), ro μ]; rw [List.append_nil]; exact Split.ent' sp0, Nat.zero_le _⟩ ?_
      rintro i env L ⟨hsub, hE, hi⟩
      refine swp_sub _ hsub ?_
      refine swp_ent hE ?_
      clear hsub hE env L
      refine swp_sr ?_
      refine s_pu (pu_lss rfl rfl) ?_
      refine swl_sub _ (sc0 5 rfl (sc0 6 rfl (sc0 24 rfl (sc0 25 rfl (sc0 26 rfl (sc0 27 rfl .nil)))))) ?_
      refine swl_nn ?_
      refine swp_seq ?_
      refine swp_cond (b := _) rfl (fun h27 => ?_) (fun h27 => ?_)
      · skip   -- 27 T
        have h27' : i < t.length := by have := of_decide_eq_true h27; omega
        obtain ⟨e, he⟩ : ∃ e, t[i]? = some e := ⟨_, List.getElem?_eq_getElem h27'⟩
        obtain ⟨gb, off, cap, hv, hra, hc0, hc1⟩ := tree_at h he
        have hem := List.mem_of_getElem? he
        have hpl := (hp e hem).1
        obtain ⟨q, hq⟩ : ∃ q : Nat, e.2 = (q : Int) := ⟨e.2.toNat, by have := (hu e hem).1; omega⟩
        have hq2 : q < 4294967296 := by have := (hu e hem).2; omega
        have hbl : (encEs [] (t.take i)).length ≤ 261 * 1024 := Nat.le_trans (encEs_len _ _ fun x hx => (hp x (List.mem_of_mem_take hx)).1) (by rw [List.length_take]; omega)
        have hsucc := encEs_succ he
        have hlsucc := lastT_succ he
        have hll : (lastT t i).length ≤ 255 := lastT_len fun x hx => (hp x hx).1
        have henc : encE1 (lastT t i) e = numB 1 (lcp (lastT t i) (bts e)) ++ numB 1 ((bts e).length - lcp (lastT t i) (bts e)) ++ (bts e).drop (lcp (lastT t i) (bts e)) ++ numB 4 q := by unfold encE1; rw [hq]; rfl
        have hlr := lcp_right (lastT t i) (bts e)
        generalize hbsd : numB 2 t.length ++ encEs [] (t.take i) = bs
        have hbs : bs.length ≤ 300000 := by rw [← hbsd, List.length_append, numB_len]; omega
        generalize hnd : lcp (lastT t i) (bts e) = n at *
        refine swp_skip ?_
        refine then_n ?_
        refine swp_seq ?_
        refine swp_block ?_
        refine swp_sr ?_
        refine s_pu (pu_indexAddr (off + i * 2) (congrArg some hv) rfl om0 om0 (by rw [Int.toNat_natCast])) ?_
        refine s_rd (rd_roA rfl rfl hra) ?_
        refine s_ef (ef_alloc) ?_
        intro b8
        refine s_ef0 (ef_storeA rfl rfl rfl rfl) ?_
        refine swl_sub _ (sc0 5 rfl (sc0 6 rfl (sc0 8 rfl (sc0 24 rfl (sc0 25 rfl (sc0 26 rfl .nil)))))) ?_
        refine swl_nn ?_
        refine swp_sr ?_
        refine s_mv rfl ?_
        first | refine s_pu (pu_fieldAddr0 rfl) ?_ | refine s_pu (pu_fieldAddr rfl) ?_
        refine s_rd (rd_load rfl rfl) ?_
        refine s_ef (ef_fn (alike_spec (lastT t i) (bts e) om0 om0) rfl rfl sp0) ?_
        rintro v33 L1 ⟨rfl, rfl⟩
        rw [hnd]
        refine swl_app ?_
        refine s_as rfl ?_
        refine swl_sub _ (sc0 5 rfl (sc0 8 rfl (sc0 9 rfl (sc0 24 rfl (sc0 25 rfl (sc0 26 rfl .nil)))))) ?_
        refine swl_nn ?_
        refine swp_sr ?_
        refine s_mv rfl ?_
        refine s_mv rfl ?_
        refine s_pu (pu_conv_as rfl (wrap_lt8 om0)) ?_
        refine s_ef (ef_fn (wU8_spec p n bs om0 om0) rfl rfl sp0) ?_
        rintro v37 L1 ⟨rfl, rfl⟩
        refine swl_app ?_
        refine swl_sub _ (sc0 5 rfl (sc0 8 rfl (sc0 9 rfl (sc0 24 rfl (sc0 25 rfl (sc0 26 rfl .nil)))))) ?_
        refine swl_nn ?_
        refine swp_sr ?_
        refine s_mv rfl ?_
        first | refine s_pu (pu_fieldAddr0 rfl) ?_ | refine s_pu (pu_fieldAddr rfl) ?_
        refine s_rd (rd_load rfl rfl) ?_
        refine s_pu (pu_strln (l := bts e) rfl) ?_
        refine s_mv rfl ?_
        refine s_pu (pu_sub_as (((bts e).length - n : Nat) : Int) rfl rfl om0 om0 om0) ?_
        refine s_pu (pu_conv_as rfl (wrap_lt8 om0)) ?_
        refine s_ef (ef_fn (wU8_spec p ((bts e).length - n) (bs ++ numB 1 n) om0 (by rw [List.length_append, numB_len]; omega)) rfl rfl sp0) ?_
        rintro v45 L1 ⟨rfl, rfl⟩
        refine swl_app ?_
        refine swl_sub _ (sc0 5 rfl (sc0 8 rfl (sc0 9 rfl (sc0 24 rfl (sc0 25 rfl (sc0 26 rfl .nil)))))) ?_
        refine swl_nn ?_
        refine swp_sr ?_
        refine s_mv rfl ?_
        first | refine s_pu (pu_fieldAddr0 rfl) ?_ | refine s_pu (pu_fieldAddr rfl) ?_
        refine s_rd (rd_load rfl rfl) ?_
        refine s_mv rfl ?_
        refine s_pu (pu_strlo (l := bts e) n rfl rfl rfl hlr) ?_
        refine s_ef (ef_fn (wRaw_spec p (bs ++ numB 1 n ++ numB 1 ((bts e).length - n)) ((bts e).drop n) (by simp only [List.length_append, numB_len]; omega) (by rw [List.length_drop]; omega)) rfl rfl sp0) ?_
        rintro v51 L1 ⟨rfl, rfl⟩
        refine swl_app ?_
        refine swl_sub _ (sc0 5 rfl (sc0 8 rfl (sc0 24 rfl (sc0 25 rfl (sc0 26 rfl .nil))))) ?_
        refine swl_nn ?_
        refine swp_sr ?_
        refine s_mv rfl ?_
        first | refine s_pu (pu_fieldAddr0 rfl) ?_ | refine s_pu (pu_fieldAddr rfl) ?_
        refine s_rd (rd_load rfl (show _ = some (Value.int .u32 (q : Nat)) by rw [← hq]; rfl)) ?_
        refine s_ef (ef_fn (wU32_spec p q (bs ++ numB 1 n ++ numB 1 ((bts e).length - n) ++ (bts e).drop n) hq2 (by simp only [List.length_append, numB_len, List.length_drop]; omega)) rfl rfl sp0) ?_
        rintro v55 L1 ⟨rfl, rfl⟩
        refine swl_app ?_
        refine swl_sub _ (sc0 5 rfl (sc0 8 rfl (sc0 24 rfl (sc0 25 rfl (sc0 26 rfl .nil))))) ?_
        refine swl_nn ?_
        refine swp_region ?_
        first | refine s_pu (pu_fieldAddr0 rfl) ?_ | refine s_pu (pu_fieldAddr rfl) ?_
        refine s_rd (rd_load rfl rfl) ?_
        refine s_as rfl ?_
        refine swl_sub _ (sc0 5 rfl (sc0 6 rfl (sc0 24 rfl (sc0 25 rfl (sc0 26 rfl .nil))))) ?_
        refine swl_nil ?_
        refine block_n ?_
        refine then_n ?_
        refine swp_region ?_
        refine s_pu (pu_add_as ((i + 1 : Nat) : Int) rfl rfl om0 om0 om0) ?_
        refine s_mv rfl ?_
        refine swl_sub _ (sc0 5 rfl (sc0 6 rfl (sc0 24 rfl (sc0 25 rfl (sc0 26 rfl .nil))))) ?_
        refine swl_nil ?_
        refine then_n ⟨i + 1, ⟨⟨rfl, by rw [hlsucc]; rfl, rfl, rfl, rfl, trivial⟩, ?_, h27'⟩, by omega⟩
        rw [hsucc, henc, ← List.append_assoc, hbsd]
        simp only [← List.append_assoc]
        exact Split.ent' sp0
      · skip   -- 27 F
        have h27' := of_decide_eq_false h27
        obtain rfl : i = t.length := by omega
        rw [List.take_length]
        refine swp_exit ?_
        refine then_x ?_
        refine then_x ?_
        refine block_hit rfl ?_
        refine then_n ?_
        refine swp_sr ?_
        refine s_mv rfl ?_
        refine s_ef (ef_fn (wBytes_spec p (numB 2 t.length ++ encEs [] t) (fun e => by have := congrArg List.length e; rw [List.length_append, numB_len] at this; simp at this)) rfl rfl sp0) ?_
        rintro v60 L1 ⟨rfl, rfl⟩
        refine swl_app ?_
        refine s_as rfl ?_
        refine s_as rfl ?_
        refine swl_sub _ (sc0 2 rfl (sc0 3 rfl .nil)) ?_
        refine swl_nn ?_
        refine swp_ret ?_
        exact done_ret [ro μ] (.tmp rfl (.tmp rfl .nil)) ⟨rfl, rfl⟩ sp0
set_option maxHeartbeats 4000000 in
theorem renc_spec (μ : PH) (v : Value) (t : List En) (h : Row μ v 2 t.length (ens t)) (hu : U32s t) : Spec Tryz.prog 51 [v] [ro μ] (fun r L => r = .tuple #[.string (str (encV t)), .int .i64 (encErr t)] ∧ L = [ro μ]) := by
  refine Spec.of 68 Tryz.func51 rfl rfl rfl ?_
  refine swp_sr ?_
  refine s_as rfl ?_
  refine s_as rfl ?_
  refine swl_sub _ (sc0 0 rfl .nil) ?_
  refine swl_nn ?_
  refine swp_seq ?_
  refine swp_sr ?_
  refine s_mv rfl ?_
  refine s_pu (pu_len_row h rfl) ?_
  refine s_pu (pu_gtr rfl rfl) ?_
  refine swl_sub _ (sc0 0 rfl (sc0 12 rfl .nil)) ?_
  refine swl_nn ?_
  refine swp_cond (b := _) rfl (fun h12 => ?_) (fun h12 => ?_)
  · skip   -- 12 T
    refine swp_sr ?_
    refine s_as rfl ?_
    refine s_as rfl ?_
    refine swl_sub _ (sc0 2 rfl (sc0 3 rfl .nil)) ?_
    refine swl_nn ?_
    refine swp_ret ?_
    refine then_r ?_
    have h12' : 1024 < t.length := by have := of_decide_eq_true h12; omega
    have e1 : encErr t = 5 := by unfold encErr; rw [if_pos h12']
    have e2 : encV t = [] := by unfold encV; rw [e1]; rfl
    rw [e1, e2]
    exact done_ret [ro μ] (.tmp rfl (.tmp rfl .nil)) ⟨rfl, rfl⟩ sp0
  · skip   -- 12 F
    have h12' : t.length ≤ 1024 := by have := of_decide_eq_false h12; omega
    have hsz : t.length ≤ 1048576 := by omega
    have e1 : encErr t = checkE t := by unfold encErr; rw [if_neg om0]
    refine swp_skip ?_
    refine then_n ?_
    refine swp_sr ?_
    refine s_mv rfl ?_
    refine s_ef (ef_fn (check8_spec μ v t h hsz) rfl rfl sp0) ?_
    rintro v14 L1 ⟨rfl, rfl⟩
    refine swl_app ?_
    refine s_as rfl ?_
    refine swl_sub _ (sc0 0 rfl (sc0 4 rfl .nil)) ?_
    refine swl_nn ?_
    refine swp_seq ?_
    refine swp_sr ?_
    refine s_mv rfl ?_
    refine s_pu (pu_neq rfl rfl) ?_
    refine swl_sub _ (sc0 0 rfl (sc0 4 rfl (sc0 16 rfl .nil))) ?_
    refine swl_nn ?_
    refine swp_cond (b := _) rfl (fun h16 => ?_) (fun h16 => ?_)
    · skip   -- 16 T
      refine swp_sr ?_
      refine s_mv rfl ?_
      refine s_as rfl ?_
      refine s_as rfl ?_
      refine swl_sub _ (sc0 2 rfl (sc0 3 rfl .nil)) ?_
      refine swl_nn ?_
      refine swp_ret ?_
      refine then_r ?_
      have h16' : checkE t ≠ 0 := fun e => by rw [e] at h16; exact absurd h16 (by decide)
      have e2 : encV t = [] := by unfold encV; rw [e1, if_neg h16']
      rw [e1, e2]
      exact done_ret [ro μ] (.tmp rfl (.tmp rfl .nil)) ⟨rfl, rfl⟩ sp0
    · skip   -- 16 F
      have h16' : checkE t = 0 := by
        by_cases e : checkE t = 0
        · exact e
        · rw [decide_eq_false e] at h16; cases h16
      have hp := check_paths h16'
      have e2 : encV t = encT t := by unfold encV; rw [e1, if_pos h16']
      rw [e1, e2, h16']
      refine swp_skip ?_
      refine then_n ?_
      refine swp_sr ?_
      refine s_mv rfl ?_
      refine s_pu (pu_len_row h rfl) ?_
      refine s_pu (pu_conv_u64 rfl om0 om0) ?_
      refine s_ef (ef_fn (rNumber_spec t.length 2 (by decide) (by decide) om0) rfl rfl sp0) ?_
      rintro v21 L1 ⟨rfl, rfl⟩
      refine swl_app ?_
      refine s_as rfl ?_
      refine swl_sub _ (sc0 0 rfl (sc0 5 rfl .nil)) ?_
      refine swl_nn ?_
      refine swp_sr ?_
      refine s_as rfl ?_
      refine swl_sub _ (sc0 0 rfl (sc0 5 rfl (sc0 6 rfl .nil))) ?_
      refine swl_nn ?_
      refine swp_seq ?_
      refine swp_sr ?_
      refine s_as rfl ?_
      refine swl_sub _ (sc0 0 rfl (sc0 5 rfl (sc0 6 rfl (sc0 7 rfl .nil)))) ?_
      refine swl_nn ?_
      refine swp_block ?_
      refine swp_loop (ι := Nat) (fun i env L => Sub env [(0, v), (5, .string (str (numB 2 t.length ++ encEs [] (t.take i)))), (6, .string (str (lastT t i))), (7, .int .i64 (i : Nat))] ∧ L = [ro μ] ∧ i ≤ t.length) (fun i => t.length - i) 0 ⟨⟨rfl, by show look _ 5 = some (.string (str (numB 2 t.length ++ []))); rw [List.append_nil]; rfl, rfl, rfl, trivial⟩, rfl, Nat.zero_le _⟩ ?_
      rintro i env L ⟨hsub, rfl, hi⟩
      refine swp_sub _ hsub ?_
      clear hsub env
      refine swp_seq ?_
      refine swp_sr ?_
      refine s_mv rfl ?_
      refine s_mv rfl ?_
      refine s_pu (pu_len_row h rfl) ?_
      refine s_pu (pu_lss rfl rfl) ?_
      refine swl_sub _ (sc0 0 rfl (sc0 5 rfl (sc0 6 rfl (sc0 7 rfl (sc0 25 rfl .nil))))) ?_
      refine swl_nn ?_
      refine swp_cond (b := _) rfl (fun h25 => ?_) (fun h25 => ?_)
      · skip   -- 25 T
        have h27' : i < t.length := by have := of_decide_eq_true h25; omega
        obtain ⟨e, he⟩ : ∃ e, t[i]? = some e := ⟨_, List.getElem?_eq_getElem h27'⟩
        obtain ⟨gb, off, cap, hv, hra, hc0, hc1⟩ := tree_at h he
        have hem := List.mem_of_getElem? he
        have hpl := (hp e hem).1
        obtain ⟨q, hq⟩ : ∃ q : Nat, e.2 = (q : Int) := ⟨e.2.toNat, by have := (hu e hem).1; omega⟩
        have hq2 : q < 4294967296 := by have := (hu e hem).2; omega
        have hbl : (encEs [] (t.take i)).length ≤ 261 * 1024 := Nat.le_trans (encEs_len _ _ fun x hx => (hp x (List.mem_of_mem_take hx)).1) (by rw [List.length_take]; omega)
        have hsucc := encEs_succ he
        have hlsucc := lastT_succ he
        have hll : (lastT t i).length ≤ 255 := lastT_len fun x hx => (hp x hx).1
        have henc : encE1 (lastT t i) e = numB 1 (lcp (lastT t i) (bts e)) ++ numB 1 ((bts e).length - lcp (lastT t i) (bts e)) ++ (bts e).drop (lcp (lastT t i) (bts e)) ++ numB 4 q := by unfold encE1; rw [hq]; rfl
        have hlr := lcp_right (lastT t i) (bts e)
        generalize hbsd : numB 2 t.length ++ encEs [] (t.take i) = bs
        have hbs : bs.length ≤ 300000 := by rw [← hbsd, List.length_append, numB_len]; omega
        generalize hnd : lcp (lastT t i) (bts e) = n at *
        rw [hq] at hc1
        refine swp_skip ?_
        refine then_n ?_
        refine swp_seq ?_
        refine swp_block ?_
        refine swp_sr ?_
        refine s_mv rfl ?_
        refine s_mv rfl ?_
        refine s_mv rfl ?_
        refine s_pu (pu_indexAddr (off + i * 2) (congrArg some hv) rfl om0 om0 (by rw [Int.toNat_natCast])) ?_
        first | refine s_pu (pu_fieldAddr0 rfl) ?_ | refine s_pu (pu_fieldAddr rfl) ?_
        refine s_rd (rd_ro rfl hc0) ?_
        refine s_ef (ef_fn (ralike_spec (lastT t i) (bts e) om0 om0) rfl rfl sp0) ?_
        rintro v34 L1 ⟨rfl, rfl⟩
        rw [hnd]
        refine swl_app ?_
        refine s_as rfl ?_
        refine swl_sub _ (sc0 0 rfl (sc0 5 rfl (sc0 7 rfl (sc0 8 rfl .nil)))) ?_
        refine swl_nn ?_
        refine swp_sr ?_
        refine s_mv rfl ?_
        refine s_mv rfl ?_
        refine s_pu (pu_indexAddr (off + i * 2) (congrArg some hv) rfl om0 om0 (by rw [Int.toNat_natCast])) ?_
        first | refine s_pu (pu_fieldAddr0 rfl) ?_ | refine s_pu (pu_fieldAddr rfl) ?_
        refine s_rd (rd_ro rfl hc0) ?_
        refine s_mv rfl ?_
        refine s_pu (pu_strlo (l := bts e) n rfl rfl rfl hlr) ?_
        refine s_as rfl ?_
        refine swl_sub _ (sc0 0 rfl (sc0 5 rfl (sc0 7 rfl (sc0 8 rfl (sc0 9 rfl .nil))))) ?_
        refine swl_nn ?_
        refine swp_seq ?_
        refine swp_draw [16] _ [] (by simp only [List.append_nil]; exact Ent.refl _) kr0 ?_
        refine d_pu 0 rfl (pu_move rfl) kr0 kr0 kr0 ?_
        refine d_pu 1 rfl (pu_move rfl) kr0 kr0 kr0 ?_
        refine d_pu 2 rfl (pu_conv_u64 rfl om0 om0) kr0 kr0 kr0 ?_
        refine d_pu 5 rfl (pu_move rfl) kr0 kr0 kr0 ?_
        refine d_pu 6 rfl (pu_strln rfl) kr0 kr0 kr0 ?_
        refine d_pu 7 rfl (pu_conv_u64 rfl om0 (by rw [List.length_drop]; omega)) kr0 kr0 kr0 ?_
        refine d_pu 10 rfl (pu_move rfl) kr0 kr0 kr0 ?_
        refine d_pu 12 rfl (pu_move rfl) kr0 kr0 kr0 ?_
        refine d_pu 13 rfl (pu_move rfl) kr0 kr0 kr0 ?_
        refine d_pu 14 rfl (pu_indexAddr (off + i * 2) (congrArg some hv) rfl om0 om0 (by rw [Int.toNat_natCast])) kr0 kr0 kr0 ?_
        first | refine d_pu 15 rfl (pu_fieldAddr0 rfl) kr0 kr0 kr0 ?_ | refine d_pu 15 rfl (pu_fieldAddr rfl) kr0 kr0 kr0 ?_
        refine d_rd 16 rfl (rd_ro rfl hc1) rfl kr0 kr0 kr0 ?_
        refine d_pu 17 rfl (pu_conv_u64 rfl om0 om0) kr0 kr0 kr0 ?_
        refine d_eft 3 rfl kr0 (ef_fn (rNumber_spec n 1 (by decide) (by decide) om0) rfl rfl sp0) ?_
        rintro v45 L1 ⟨rfl, rfl⟩
        refine ⟨_, ent_appC (Split.ent sp0), ?_⟩
        refine d_pu 4 rfl (pu_strcat rfl rfl (by rw [numB_len]; omega)) kr0 kr0 kr0 ?_
        refine d_eft 8 rfl kr0 (ef_fn (rNumber_spec ((bts e).drop n).length 1 (by decide) (by decide) (by rw [List.length_drop]; omega)) rfl rfl sp0) ?_
        rintro v50 L1 ⟨rfl, rfl⟩
        refine ⟨_, ent_appC (Split.ent sp0), ?_⟩
        refine d_pu 9 rfl (pu_strcat rfl rfl (by rw [List.length_append, numB_len, numB_len]; omega)) kr0 kr0 kr0 ?_
        refine d_pu 11 rfl (pu_strcat rfl rfl (by simp only [List.length_append, numB_len, List.length_drop]; omega)) kr0 kr0 kr0 ?_
        first | refine d_fint 18 rfl kr0 kr0 (ef_fn (rNumber_spec q 4 (by decide) (by decide) om0) rfl rfl sp0) ?_ | refine d_finf 18 rfl kr0 kr0 (ef_fn (rNumber_spec q 4 (by decide) (by decide) om0) rfl rfl sp0) ?_
        rintro v60 L1 ⟨rfl, rfl⟩
        refine swd_app ?_
        refine d_pu 19 rfl (pu_strcat rfl rfl (by simp only [List.length_append, numB_len, List.length_drop]; omega)) kr0 kr0 kr0 ?_
        refine d_pu 20 rfl (pu_assign rfl) kr0 kr0 kr0 ?_
        refine d_sub _ (sc0 0 rfl (sc0 5 rfl (sc0 7 rfl .nil))) ?_
        first | refine d_nilt kr0 ?_ | refine d_nilf kr0 ?_
        refine then_n ?_
        refine swp_region ?_
        refine s_mv rfl ?_
        refine s_mv rfl ?_
        refine s_pu (pu_indexAddr (off + i * 2) (congrArg some hv) rfl om0 om0 (by rw [Int.toNat_natCast])) ?_
        first | refine s_pu (pu_fieldAddr0 rfl) ?_ | refine s_pu (pu_fieldAddr rfl) ?_
        refine s_rd (rd_ro rfl hc0) ?_
        refine s_as rfl ?_
        refine swl_sub _ (sc0 0 rfl (sc0 5 rfl (sc0 6 rfl (sc0 7 rfl .nil)))) ?_
        refine swl_nil ?_
        refine block_n ?_
        refine then_n ?_
        refine swp_region ?_
        refine s_mv rfl ?_
        refine s_pu (pu_add_as ((i + 1 : Nat) : Int) rfl rfl om0 om0 om0) ?_
        refine s_as rfl ?_
        refine swl_sub _ (sc0 0 rfl (sc0 5 rfl (sc0 6 rfl (sc0 7 rfl .nil)))) ?_
        refine swl_nil ?_
        refine then_n ⟨i + 1, ⟨⟨rfl, ?_, by rw [hlsucc]; rfl, rfl, trivial⟩, rfl, h27'⟩, by omega⟩
        rw [hsucc, henc, ← List.append_assoc, hbsd]
        simp only [← List.append_assoc]
        rw [List.length_drop]
        rfl
      · skip   -- 25 F
        have h25' := of_decide_eq_false h25
        obtain rfl : i = t.length := by omega
        rw [List.take_length]
        refine swp_exit ?_
        refine then_x ?_
        refine then_x ?_
        refine block_hit rfl ?_
        refine then_n ?_
        refine swp_sr ?_
        refine s_mv rfl ?_
        refine s_as rfl ?_
        refine s_as rfl ?_
        refine swl_sub _ (sc0 2 rfl (sc0 3 rfl .nil)) ?_
        refine swl_nn ?_
        refine swp_ret ?_
        exact done_ret [ro μ] (.tmp rfl (.tmp rfl .nil)) ⟨rfl, rfl⟩ sp0
end SX
