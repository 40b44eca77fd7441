/- Layer 24: contracts of the library's functions: strings.Cut, strings.Split, strconv.Itoa, strconv.Atoi. -/
import Derived.Test.YtpkidbhpfohopaaDoorN1
import Derived.Shelf.Strconv.Itoa3
import Derived.Shelf.Strconv.ErrVarAll
import Derived.Shelf.Strings.Cut
import Derived.Shelf.Strings.Split
noncomputable section
namespace Go.Proofs.YtpkidbhpfohopaaDoor
open Go.RowKit Go.Shelf
set_option linter.unusedVariables false
set_option linter.unusedSimpArgs false
def cutL_ren : Go.Shelf.Ren := ⟨fun | 145 => 17 | 220 => 32 | 219 => 38 | 217 => 45 | 225 => 46 | 224 => 47 | 267 => 48 | 266 => 57 | 314 => 58 | n => n, fun | 9 => 9 | 4 => 4 | 59 => 45 | 3 => 3 | 5 => 5 | 46 => 82 | 146 => 92 | 51 => 91 | n => n, fun | 1 => 0 | n => n⟩
theorem cutL : Go.Proofs.Lays.n145 Tryd.prog cutL_ren := {
  mixed := by kernel_rfl
  f145 := Tryd.func17.trans (congrArg some (by kernel_rfl))
  f217 := Tryd.func45.trans (congrArg some (by kernel_rfl))
  f219 := Tryd.func38.trans (congrArg some (by kernel_rfl))
  f220 := Tryd.func32.trans (congrArg some (by kernel_rfl))
  f224 := Tryd.func47.trans (congrArg some (by kernel_rfl))
  f225 := Tryd.func46.trans (congrArg some (by kernel_rfl))
  f266 := Tryd.func57.trans (congrArg some (by kernel_rfl))
  f267 := Tryd.func48.trans (congrArg some (by kernel_rfl))
  f314 := Tryd.func58.trans (congrArg some (by kernel_rfl))
  t3 := Tryd.underlying3
  a3 := Tryd.isAgg3
  z3 := Tryd.sizeOf3
  v3 := Tryd.zeroValue3
  t4 := Tryd.underlying4
  a4 := Tryd.isAgg4
  z4 := Tryd.sizeOf4
  v4 := Tryd.zeroValue4
  t5 := Tryd.underlying5
  a5 := Tryd.isAgg5
  z5 := Tryd.sizeOf5
  v5 := Tryd.zeroValue5
  t9 := Tryd.underlying9
  a9 := Tryd.isAgg9
  z9 := Tryd.sizeOf9
  v9 := Tryd.zeroValue9
  t46 := Tryd.underlying82
  a46 := Tryd.isAgg82
  z46 := Tryd.sizeOf82
  v46 := Tryd.zeroValue82
  t51 := Tryd.underlying91
  a51 := Tryd.isAgg91
  z51 := Tryd.sizeOf91
  v51 := Tryd.zeroValue91
  t59 := Tryd.underlying45
  a59 := Tryd.isAgg45
  z59 := Tryd.sizeOf45
  v59 := Tryd.zeroValue45
  t146 := Tryd.underlying92
  a146 := Tryd.isAgg92
  z146 := Tryd.sizeOf92
  v146 := Tryd.zeroValue92
  g1 := by kernel_rfl }
def splitL_ren : Go.Shelf.Ren := ⟨fun | 146 => 19 | 221 => 34 | 268 => 40 | 138 => 41 | 143 => 42 | 195 => 50 | 197 => 51 | 218 => 52 | 219 => 38 | 260 => 61 | 217 => 45 | 225 => 46 | 224 => 47 | 267 => 48 | 266 => 57 | 314 => 58 | n => n, fun | 9 => 9 | 31 => 49 | 3 => 3 | 4 => 4 | 0 => 0 | 105 => 84 | 21 => 21 | 5 => 5 | 46 => 82 | 119 => 106 | 139 => 109 | 138 => 108 | 146 => 92 | 51 => 91 | n => n, fun | 1 => 0 | 3 => 2 | 4 => 3 | n => n⟩
theorem splitL : Go.Proofs.Lays.n146 Tryd.prog splitL_ren := {
  mixed := by kernel_rfl
  f138 := Tryd.func41.trans (congrArg some (by kernel_rfl))
  f143 := Tryd.func42.trans (congrArg some (by kernel_rfl))
  f146 := Tryd.func19.trans (congrArg some (by kernel_rfl))
  f195 := Tryd.func50.trans (congrArg some (by kernel_rfl))
  f197 := Tryd.func51.trans (congrArg some (by kernel_rfl))
  f217 := Tryd.func45.trans (congrArg some (by kernel_rfl))
  f218 := Tryd.func52.trans (congrArg some (by kernel_rfl))
  f219 := Tryd.func38.trans (congrArg some (by kernel_rfl))
  f221 := Tryd.func34.trans (congrArg some (by kernel_rfl))
  f224 := Tryd.func47.trans (congrArg some (by kernel_rfl))
  f225 := Tryd.func46.trans (congrArg some (by kernel_rfl))
  f260 := Tryd.func61.trans (congrArg some (by kernel_rfl))
  f266 := Tryd.func57.trans (congrArg some (by kernel_rfl))
  f267 := Tryd.func48.trans (congrArg some (by kernel_rfl))
  f268 := Tryd.func40.trans (congrArg some (by kernel_rfl))
  f314 := Tryd.func58.trans (congrArg some (by kernel_rfl))
  t0 := Tryd.underlying0
  a0 := Tryd.isAgg0
  z0 := Tryd.sizeOf0
  v0 := Tryd.zeroValue0
  t3 := Tryd.underlying3
  a3 := Tryd.isAgg3
  z3 := Tryd.sizeOf3
  v3 := Tryd.zeroValue3
  t4 := Tryd.underlying4
  a4 := Tryd.isAgg4
  z4 := Tryd.sizeOf4
  v4 := Tryd.zeroValue4
  t5 := Tryd.underlying5
  a5 := Tryd.isAgg5
  z5 := Tryd.sizeOf5
  v5 := Tryd.zeroValue5
  t9 := Tryd.underlying9
  a9 := Tryd.isAgg9
  z9 := Tryd.sizeOf9
  v9 := Tryd.zeroValue9
  t21 := Tryd.underlying21
  a21 := Tryd.isAgg21
  z21 := Tryd.sizeOf21
  v21 := Tryd.zeroValue21
  t31 := Tryd.underlying49
  a31 := Tryd.isAgg49
  z31 := Tryd.sizeOf49
  v31 := Tryd.zeroValue49
  t46 := Tryd.underlying82
  a46 := Tryd.isAgg82
  z46 := Tryd.sizeOf82
  v46 := Tryd.zeroValue82
  t51 := Tryd.underlying91
  a51 := Tryd.isAgg91
  z51 := Tryd.sizeOf91
  v51 := Tryd.zeroValue91
  t105 := Tryd.underlying84
  a105 := Tryd.isAgg84
  z105 := Tryd.sizeOf84
  v105 := Tryd.zeroValue84
  t119 := Tryd.underlying106
  a119 := Tryd.isAgg106
  z119 := Tryd.sizeOf106
  t138 := Tryd.underlying108
  a138 := Tryd.isAgg108
  z138 := Tryd.sizeOf108
  v138 := Tryd.zeroValue108
  t139 := Tryd.underlying109
  a139 := Tryd.isAgg109
  z139 := Tryd.sizeOf109
  v139 := Tryd.zeroValue109
  t146 := Tryd.underlying92
  a146 := Tryd.isAgg92
  z146 := Tryd.sizeOf92
  v146 := Tryd.zeroValue92
  g1 := by kernel_rfl
  g3 := by kernel_rfl
  g4 := by kernel_rfl }
def itoaL_ren : Go.Shelf.Ren := ⟨fun | 171 => 30 | 243 => 37 | 246 => 44 | 283 => 53 | 284 => 54 | 285 => 55 | 286 => 56 | 129 => 63 | 317 => 62 | 318 => 64 | 319 => 65 | 320 => 66 | 337 => 72 | 338 => 73 | n => n, fun | 3 => 3 | 9 => 9 | 2 => 2 | 4 => 4 | 171 => 86 | 0 => 0 | 53 => 76 | 37 => 58 | 5 => 5 | 173 => 89 | 212 => 96 | 51 => 91 | 20 => 20 | 213 => 97 | 46 => 82 | 232 => 117 | 233 => 118 | n => n, fun | 17 => 1 | 18 => 6 | 19 => 7 | n => n⟩
theorem itoaL : Go.Proofs.LaysM.n171 Tryd.prog itoaL_ren := {
  mixed := by kernel_rfl
  f129 := Tryd.func63.trans (congrArg some (by kernel_rfl))
  f171 := Tryd.func30.trans (congrArg some (by kernel_rfl))
  f243 := Tryd.func37.trans (congrArg some (by kernel_rfl))
  f246 := Tryd.func44.trans (congrArg some (by kernel_rfl))
  f283 := Tryd.func53.trans (congrArg some (by kernel_rfl))
  f284 := Tryd.func54.trans (congrArg some (by kernel_rfl))
  f285 := Tryd.func55.trans (congrArg some (by kernel_rfl))
  f286 := Tryd.func56.trans (congrArg some (by kernel_rfl))
  f317 := Tryd.func62.trans (congrArg some (by kernel_rfl))
  f318 := Tryd.func64.trans (congrArg some (by kernel_rfl))
  f319 := Tryd.func65.trans (congrArg some (by kernel_rfl))
  f320 := Tryd.func66.trans (congrArg some (by kernel_rfl))
  f337 := Tryd.func72.trans (congrArg some (by kernel_rfl))
  f338 := Tryd.func73.trans (congrArg some (by kernel_rfl))
  t0 := Tryd.underlying0
  a0 := Tryd.isAgg0
  z0 := Tryd.sizeOf0
  v0 := Tryd.zeroValue0
  t2 := Tryd.underlying2
  a2 := Tryd.isAgg2
  z2 := Tryd.sizeOf2
  v2 := Tryd.zeroValue2
  t3 := Tryd.underlying3
  a3 := Tryd.isAgg3
  z3 := Tryd.sizeOf3
  v3 := Tryd.zeroValue3
  t4 := Tryd.underlying4
  a4 := Tryd.isAgg4
  z4 := Tryd.sizeOf4
  v4 := Tryd.zeroValue4
  t5 := Tryd.underlying5
  a5 := Tryd.isAgg5
  z5 := Tryd.sizeOf5
  v5 := Tryd.zeroValue5
  t9 := Tryd.underlying9
  a9 := Tryd.isAgg9
  z9 := Tryd.sizeOf9
  v9 := Tryd.zeroValue9
  t20 := Tryd.underlying20
  a20 := Tryd.isAgg20
  z20 := Tryd.sizeOf20
  v20 := Tryd.zeroValue20
  t37 := Tryd.underlying58
  a37 := Tryd.isAgg58
  z37 := Tryd.sizeOf58
  v37 := Tryd.zeroValue58
  t46 := Tryd.underlying82
  a46 := Tryd.isAgg82
  z46 := Tryd.sizeOf82
  v46 := Tryd.zeroValue82
  t51 := Tryd.underlying91
  a51 := Tryd.isAgg91
  z51 := Tryd.sizeOf91
  v51 := Tryd.zeroValue91
  t53 := Tryd.underlying76
  a53 := Tryd.isAgg76
  z53 := Tryd.sizeOf76
  v53 := Tryd.zeroValue76
  t171 := Tryd.underlying86
  a171 := Tryd.isAgg86
  z171 := Tryd.sizeOf86
  v171 := Tryd.zeroValue86
  t173 := Tryd.underlying89
  a173 := Tryd.isAgg89
  z173 := Tryd.sizeOf89
  v173 := Tryd.zeroValue89
  t212 := Tryd.underlying96
  a212 := Tryd.isAgg96
  z212 := Tryd.sizeOf96
  v212 := Tryd.zeroValue96
  t213 := Tryd.underlying97
  a213 := Tryd.isAgg97
  z213 := Tryd.sizeOf97
  t232 := Tryd.underlying117
  a232 := Tryd.isAgg117
  z232 := Tryd.sizeOf117
  v232 := Tryd.zeroValue117
  t233 := Tryd.underlying118
  a233 := Tryd.isAgg118
  z233 := Tryd.sizeOf118
  v233 := Tryd.zeroValue118
  g17 := by kernel_rfl
  g18 := by kernel_rfl
  g19 := by kernel_rfl
  i0 := by kernel_rfl
  i2 := by kernel_rfl
  i3 := by kernel_rfl
  i4 := by kernel_rfl
  i5 := by kernel_rfl
  i9 := by kernel_rfl
  i20 := by kernel_rfl
  i37 := by kernel_rfl
  i46 := by kernel_rfl
  i51 := by kernel_rfl
  i53 := by kernel_rfl
  i171 := by kernel_rfl
  i173 := by kernel_rfl
  i212 := by kernel_rfl
  i232 := by kernel_rfl
  i233 := by kernel_rfl
  m17 := by kernel_rfl
  m18 := by kernel_rfl
  m19 := by kernel_rfl }
def atoiL_ren : Go.Shelf.Ren := ⟨fun | 172 => 49 | 244 => 59 | 245 => 60 | 247 => 67 | 279 => 68 | 280 => 69 | 281 => 70 | 282 => 71 | 287 => 74 | 316 => 75 | 171 => 30 | 205 => 76 | 321 => 77 | 322 => 78 | 243 => 37 | 246 => 44 | 283 => 53 | 284 => 54 | 285 => 55 | 286 => 56 | 129 => 63 | 317 => 62 | 318 => 64 | 319 => 65 | 320 => 66 | 337 => 72 | 338 => 73 | n => n, fun | 9 => 9 | 3 => 3 | 75 => 62 | 76 => 63 | 4 => 4 | 5 => 5 | 167 => 100 | 37 => 58 | 0 => 0 | 85 => 101 | 2 => 2 | 168 => 103 | 53 => 76 | 175 => 111 | 46 => 82 | 210 => 115 | 127 => 73 | 145 => 122 | 143 => 120 | 21 => 21 | 171 => 86 | 173 => 89 | 212 => 96 | 51 => 91 | 20 => 20 | 213 => 97 | 232 => 117 | 233 => 118 | 80 => 67 | n => n, fun | 15 => 4 | 16 => 5 | 17 => 1 | 18 => 6 | 19 => 7 | n => n⟩
theorem atoiL : Go.Proofs.LaysC.n172 Tryd.prog atoiL_ren := {
  mixed := by kernel_rfl
  f129 := Tryd.func63.trans (congrArg some (by kernel_rfl))
  f171 := Tryd.func30.trans (congrArg some (by kernel_rfl))
  f172 := Tryd.func49.trans (congrArg some (by kernel_rfl))
  f205 := Tryd.func76.trans (congrArg some (by kernel_rfl))
  f243 := Tryd.func37.trans (congrArg some (by kernel_rfl))
  f244 := Tryd.func59.trans (congrArg some (by kernel_rfl))
  f245 := Tryd.func60.trans (congrArg some (by kernel_rfl))
  f246 := Tryd.func44.trans (congrArg some (by kernel_rfl))
  f247 := Tryd.func67.trans (congrArg some (by kernel_rfl))
  f279 := Tryd.func68.trans (congrArg some (by kernel_rfl))
  f280 := Tryd.func69.trans (congrArg some (by kernel_rfl))
  f281 := Tryd.func70.trans (congrArg some (by kernel_rfl))
  f282 := Tryd.func71.trans (congrArg some (by kernel_rfl))
  f283 := Tryd.func53.trans (congrArg some (by kernel_rfl))
  f284 := Tryd.func54.trans (congrArg some (by kernel_rfl))
  f285 := Tryd.func55.trans (congrArg some (by kernel_rfl))
  f286 := Tryd.func56.trans (congrArg some (by kernel_rfl))
  f287 := Tryd.func74.trans (congrArg some (by kernel_rfl))
  f316 := Tryd.func75.trans (congrArg some (by kernel_rfl))
  f317 := Tryd.func62.trans (congrArg some (by kernel_rfl))
  f318 := Tryd.func64.trans (congrArg some (by kernel_rfl))
  f319 := Tryd.func65.trans (congrArg some (by kernel_rfl))
  f320 := Tryd.func66.trans (congrArg some (by kernel_rfl))
  f321 := Tryd.func77.trans (congrArg some (by kernel_rfl))
  f322 := Tryd.func78.trans (congrArg some (by kernel_rfl))
  f337 := Tryd.func72.trans (congrArg some (by kernel_rfl))
  f338 := Tryd.func73.trans (congrArg some (by kernel_rfl))
  t0 := Tryd.underlying0
  a0 := Tryd.isAgg0
  z0 := Tryd.sizeOf0
  v0 := Tryd.zeroValue0
  t2 := Tryd.underlying2
  a2 := Tryd.isAgg2
  z2 := Tryd.sizeOf2
  v2 := Tryd.zeroValue2
  t3 := Tryd.underlying3
  a3 := Tryd.isAgg3
  z3 := Tryd.sizeOf3
  v3 := Tryd.zeroValue3
  t4 := Tryd.underlying4
  a4 := Tryd.isAgg4
  z4 := Tryd.sizeOf4
  v4 := Tryd.zeroValue4
  t5 := Tryd.underlying5
  a5 := Tryd.isAgg5
  z5 := Tryd.sizeOf5
  v5 := Tryd.zeroValue5
  t9 := Tryd.underlying9
  a9 := Tryd.isAgg9
  z9 := Tryd.sizeOf9
  v9 := Tryd.zeroValue9
  t20 := Tryd.underlying20
  a20 := Tryd.isAgg20
  z20 := Tryd.sizeOf20
  v20 := Tryd.zeroValue20
  t21 := Tryd.underlying21
  a21 := Tryd.isAgg21
  z21 := Tryd.sizeOf21
  v21 := Tryd.zeroValue21
  t37 := Tryd.underlying58
  a37 := Tryd.isAgg58
  z37 := Tryd.sizeOf58
  v37 := Tryd.zeroValue58
  t46 := Tryd.underlying82
  a46 := Tryd.isAgg82
  z46 := Tryd.sizeOf82
  v46 := Tryd.zeroValue82
  t51 := Tryd.underlying91
  a51 := Tryd.isAgg91
  z51 := Tryd.sizeOf91
  v51 := Tryd.zeroValue91
  t53 := Tryd.underlying76
  a53 := Tryd.isAgg76
  z53 := Tryd.sizeOf76
  v53 := Tryd.zeroValue76
  t75 := Tryd.underlying62
  a75 := Tryd.isAgg62
  z75 := Tryd.sizeOf62
  v75 := Tryd.zeroValue62
  t76 := Tryd.underlying63
  a76 := Tryd.isAgg63
  z76 := Tryd.sizeOf63
  v76 := Tryd.zeroValue63
  t85 := Tryd.underlying101
  a85 := Tryd.isAgg101
  z85 := Tryd.sizeOf101
  v85 := Tryd.zeroValue101
  t127 := Tryd.underlying73
  a127 := Tryd.isAgg73
  z127 := Tryd.sizeOf73
  v127 := Tryd.zeroValue73
  t143 := Tryd.underlying120
  a143 := Tryd.isAgg120
  z143 := Tryd.sizeOf120
  v143 := Tryd.zeroValue120
  t145 := Tryd.underlying122
  a145 := Tryd.isAgg122
  z145 := Tryd.sizeOf122
  v145 := Tryd.zeroValue122
  t167 := Tryd.underlying100
  a167 := Tryd.isAgg100
  z167 := Tryd.sizeOf100
  v167 := Tryd.zeroValue100
  t168 := Tryd.underlying103
  a168 := Tryd.isAgg103
  z168 := Tryd.sizeOf103
  v168 := Tryd.zeroValue103
  t171 := Tryd.underlying86
  a171 := Tryd.isAgg86
  z171 := Tryd.sizeOf86
  v171 := Tryd.zeroValue86
  t173 := Tryd.underlying89
  a173 := Tryd.isAgg89
  z173 := Tryd.sizeOf89
  v173 := Tryd.zeroValue89
  t175 := Tryd.underlying111
  a175 := Tryd.isAgg111
  z175 := Tryd.sizeOf111
  v175 := Tryd.zeroValue111
  t210 := Tryd.underlying115
  a210 := Tryd.isAgg115
  z210 := Tryd.sizeOf115
  v210 := Tryd.zeroValue115
  t212 := Tryd.underlying96
  a212 := Tryd.isAgg96
  z212 := Tryd.sizeOf96
  v212 := Tryd.zeroValue96
  t213 := Tryd.underlying97
  a213 := Tryd.isAgg97
  z213 := Tryd.sizeOf97
  t232 := Tryd.underlying117
  a232 := Tryd.isAgg117
  z232 := Tryd.sizeOf117
  v232 := Tryd.zeroValue117
  t233 := Tryd.underlying118
  a233 := Tryd.isAgg118
  z233 := Tryd.sizeOf118
  v233 := Tryd.zeroValue118
  g15 := by kernel_rfl
  g16 := by kernel_rfl
  g17 := by kernel_rfl
  g18 := by kernel_rfl
  g19 := by kernel_rfl
  t80 := Tryd.underlying67
  a80 := Tryd.isAgg67
  z80 := Tryd.sizeOf67
  v80 := Tryd.zeroValue67
  i0 := by kernel_rfl
  i2 := by kernel_rfl
  i3 := by kernel_rfl
  i4 := by kernel_rfl
  i5 := by kernel_rfl
  i9 := by kernel_rfl
  i20 := by kernel_rfl
  i21 := by kernel_rfl
  i37 := by kernel_rfl
  i46 := by kernel_rfl
  i51 := by kernel_rfl
  i53 := by kernel_rfl
  i75 := by kernel_rfl
  i76 := by kernel_rfl
  i80 := by kernel_rfl
  i85 := by kernel_rfl
  i127 := by kernel_rfl
  i143 := by kernel_rfl
  i145 := by kernel_rfl
  i167 := by kernel_rfl
  i168 := by kernel_rfl
  i171 := by kernel_rfl
  i173 := by kernel_rfl
  i175 := by kernel_rfl
  i210 := by kernel_rfl
  i212 := by kernel_rfl
  i232 := by kernel_rfl
  i233 := by kernel_rfl
  m15 := by kernel_rfl
  m16 := by kernel_rfl
  m17 := by kernel_rfl
  m18 := by kernel_rfl
  m19 := by kernel_rfl
  c0 := by kernel_rfl
  c2 := by kernel_rfl
  c3 := by kernel_rfl
  c4 := by kernel_rfl
  c5 := by kernel_rfl
  c9 := by kernel_rfl
  c20 := by kernel_rfl
  c21 := by kernel_rfl
  c37 := by kernel_rfl
  c46 := by kernel_rfl
  c51 := by kernel_rfl
  c53 := by kernel_rfl
  c75 := by kernel_rfl
  c76 := by kernel_rfl
  c80 := by kernel_rfl
  c85 := by kernel_rfl
  c127 := by kernel_rfl
  c143 := by kernel_rfl
  c145 := by kernel_rfl
  c167 := by kernel_rfl
  c168 := by kernel_rfl
  c171 := by kernel_rfl
  c173 := by kernel_rfl
  c175 := by kernel_rfl
  c210 := by kernel_rfl
  c212 := by kernel_rfl
  c213 := by kernel_rfl
  c232 := by kernel_rfl
  c233 := by kernel_rfl }
/-! ### the world's -/
theorem var_of {w : World} {n : String} {g : Nat} {cs : Array Value} {t : TypeId} {f : Nat × Nat} (hg : Tryd.prog.globalNamed n = some g) (h : w.heap[g]? = some (.cells cs t f)) : w.var? Tryd.prog n = some cs := by
  unfold World.var?
  rw [hg, Option.bind_some, h]
theorem gMl : Tryd.prog.globalNamed "internal/bytealg.MaxLen" = some 0 := by kernel_rfl
theorem gTab : Tryd.prog.globalNamed "internal/strconv.uint64pow10" = some 1 := by kernel_rfl
theorem gEs : Tryd.prog.globalNamed "strconv.ErrSyntax" = some 4 := by kernel_rfl
theorem gEr : Tryd.prog.globalNamed "strconv.ErrRange" = some 5 := by kernel_rfl
theorem St.cellMl {w : World} (h : St w) : ∃ m, w.cell? ⟨0, 0, none⟩ = some (.int .i64 m) := by
  obtain ⟨m, t, f, e⟩ := h.ml
  exact ⟨m, by simp [World.cell?, e]⟩
theorem St.tabIs {w : World} (h : St w) : Lib.TabIs Tryd.prog w "internal/strconv.uint64pow10" .u64 Lib.pow10Tab := by
  obtain ⟨t, f, e⟩ := h.tab
  exact var_of gTab e
section
variable {F : Nat → Prop} {φ : Nat → RS} {H : Heap} {w w' : World}
/-- A call that makes new blocks at most, and hands back a plain value. -/
theorem below_post (hR : Rel F φ H w) (hb : Below w.heap.size w w') {a : AV} {v : Value} (hv : RV (cx F φ H w') a v) : Post F φ H w ⟨True, True, a, H⟩ v w' := by
  have key : (∀ id k, H.get id = some k → ((φ id).nil = false → w'.heap[(φ id).blk]? = w.heap[(φ id).blk]?)) := fun id k hk hn => hb.block _ ((hR.blk id k hk).lt hn)
  obtain ⟨r1, r2⟩ := Rel.gen (φ' := φ) (H' := H) hR hR.lt (Nat.le_refl _) (fun _ _ => rfl) hb.size (fun b hb' _ => hb.block b hb') (fun b _ h => h) (fun b _ h => h) (fun _ _ h _ => h) (fun le id k hk => .inl ⟨hk, key id k hk⟩) hR.inj hR.forb hb.os hb.tape hb.output
  exact ⟨φ, hv, r1, r2⟩
end
theorem no_blocks {id : Nat} {k : Blk} (h : hp0.get id = some k) : id < hp0.n := by cases h
/-! ### the plain words -/
theorem index_cases (l : List UInt8) (c : UInt8) : (Lib.index l [c] = -1 ∧ ∀ x ∈ l, x ≠ c) ∨ ∃ a b : List UInt8, l = a ++ c :: b ∧ (∀ x ∈ a, x ≠ c) ∧ Lib.index l [c] = a.length := by
  rw [Lib.index_one]
  rcases (show Lib.indexByte l c < 0 ∨ 0 ≤ Lib.indexByte l c from by omega) with h | h
  · have h1 : Lib.indexByte l c = -1 := by have := Lib.indexByte_ge l c; omega
    refine .inl ⟨h1, fun x hx e => ?_⟩
    obtain ⟨k, hk⟩ := List.mem_iff_getElem?.1 hx
    exact Lib.indexByte_none h1 k (by rw [hk, e])
  · obtain ⟨o, ho⟩ := Int.eq_ofNat_of_zero_le h
    obtain ⟨h2, h3⟩ := Lib.indexByte_some ho
    obtain ⟨hlt, hgo⟩ := List.getElem?_eq_some_iff.1 h2
    refine .inr ⟨l.take o, l.drop (o + 1), ?_, fun x hx e => ?_, ?_⟩
    · conv => lhs; rw [← List.take_append_drop o l, List.drop_eq_getElem_cons hlt, hgo]
    · obtain ⟨k, hk⟩ := List.mem_iff_getElem?.1 hx
      rw [List.getElem?_take] at hk
      split at hk
      · rename_i hlt
        exact h3 k hlt (by rw [hk, e])
      · cases hk
    · rw [List.length_take, Nat.min_eq_left (Nat.le_of_lt hlt)]
      exact ho
theorem splitK_spt (c : UInt8) : ∀ (k : Nat) (l : List UInt8), l.count c ≤ k → Lib.splitK [c] 0 k l = spt c l
  | 0, l, h => by
    rw [Lib.splitK, spt_end]
    intro x hx e
    subst e
    have := List.count_pos_iff.2 hx
    omega
  | k + 1, l, h => by
    rw [Lib.splitK]
    rcases index_cases l c with ⟨h1, h2⟩ | ⟨a, b, h1, h2, h3⟩
    · rw [if_pos (by rw [h1]; rfl), spt_end l h2]
    · rw [if_neg (by rw [h3]; simp), h3, Int.toNat_natCast, Nat.add_zero]
      subst h1
      rw [spt_cut a b h2, List.take_left' rfl]
      congr 1
      have hc : b.count c ≤ k := by
        rw [List.count_append, List.count_cons_self] at h
        omega
      rw [show (a ++ c :: b).drop (a.length + [c].length) = b from by
        rw [show a ++ c :: b = (a ++ [c]) ++ b from by simp, show a.length + [c].length = (a ++ [c]).length from by simp, List.drop_left' rfl]]
      exact splitK_spt c k b hc
theorem splitB_spl (c : UInt8) (s : ByteArray) : Lib.splitB ⟨#[c]⟩ 0 (Lib.countB s ⟨#[c]⟩) s = splB c s := by
  have h := Lib.splitB_data ⟨#[c]⟩ 0 (Lib.countB s ⟨#[c]⟩) s
  rw [show (ByteArray.mk #[c]).data.toList = [c] from rfl, splitK_spt c _ _ (by show _ ≤ Lib.count _ _; rw [show (ByteArray.mk #[c]).data.toList = [c] from rfl, Lib.count_one]; exact Nat.le_refl _)] at h
  unfold splB
  rw [← h, List.map_map]
  conv => lhs; rw [← List.map_id (Lib.splitB _ _ _ _)]
  rfl
theorem cut_cases (c : UInt8) (l : List UInt8) : (∃ a b, l = a ++ c :: b ∧ (∀ x ∈ a, x ≠ c) ∧ Lib.cut l [c] = (a, b, true)) ∨ ((∀ x ∈ l, x ≠ c) ∧ Lib.cut l [c] = (l, [], false)) := by
  unfold Lib.cut
  rcases index_cases l c with ⟨h1, h2⟩ | ⟨a, b, h1, h2, h3⟩
  · rw [if_neg (by rw [h1]; decide)]
    exact .inr ⟨h2, rfl⟩
  · rw [if_pos (by rw [h3]; omega), h3, Int.toNat_natCast]
    refine .inl ⟨a, b, h1, h2, ?_⟩
    subst h1
    rw [List.take_left' rfl, show (a ++ c :: b).drop (a.length + [c].length) = b from by
      rw [show a ++ c :: b = (a ++ [c]) ++ b from by simp, show a.length + [c].length = (a ++ [c]).length from by simp, List.drop_left' rfl]]
/-! ### strings.Cut at a line's end -/
def cuL (s : ByteArray) : ByteArray := ofB (Lib.cut (bl s) [10]).1
def cuR (s : ByteArray) : ByteArray := ofB (Lib.cut (bl s) [10]).2.1
def cuE (s : ByteArray) : Bool := (Lib.cut (bl s) [10]).2.2
theorem cu_cases (s : ByteArray) : (bl s = bl (cuL s) ++ 10 :: bl (cuR s) ∧ (∀ x ∈ bl (cuL s), x ≠ 10) ∧ cuE s = true) ∨ ((∀ x ∈ bl s, x ≠ 10) ∧ cuL s = s ∧ bl (cuR s) = [] ∧ cuE s = false) := by
  unfold cuL cuR cuE
  rcases cut_cases 10 (bl s) with ⟨a, b, h1, h2, h3⟩ | ⟨h1, h2⟩
  · rw [h3]
    exact .inl ⟨h1, h2, rfl⟩
  · rw [h2]
    exact .inr ⟨h1, rfl, rfl, rfl⟩
theorem cu_len (s : ByteArray) : (cuL s).size + (cuR s).size ≤ s.size := by
  have e1 := bl_len s
  have e2 := bl_len (cuL s)
  have e3 := bl_len (cuR s)
  rcases cu_cases s with ⟨h1, -, -⟩ | ⟨-, h2, h3, -⟩
  · have := congrArg List.length h1
    simp at this
    omega
  · rw [h3] at e3
    rw [h2]
    simp at e3
    omega
def cCut : Con where
  X := ByteArray
  args := fun s => [.str s, .str ⟨#[10]⟩]
  heap := fun _ => hp0
  pre := fun s => s.size ≤ 100000
  res := fun s => .tup [.str (cuL s), .str (cuR s), .bool (cuE s)]
  heap' := fun _ => hp0
  pure := true
  find := fun args H => match args with
    | [.str s, .str _] => some s
    | _ => none
theorem str_small {s : ByteArray} (h : s.size ≤ 100000) : s.size ≤ maxLen := by unfold maxLen; omega
theorem cCut_ok : cCut.Ok Tryd.prog 17 := by
  refine ⟨Go.MuLone.run_callFunc_enter Tryd.func17 (by decide) rfl, fun _ id k h => no_blocks h, fun _ x => ⟨rfl, fun id k h => (by cases h)⟩, fun s hp F φ w vs hR hv => ?_⟩
  replace hp : s.size ≤ 100000 := hp
  match vs, hv with
  | [v1, v2], hv =>
    obtain ⟨rfl, -⟩ := rv_str_inv (rv_of_rv1 hv.1)
    obtain ⟨rfl, -⟩ := rv_str_inv (rv_of_rv1 hv.2.1)
    obtain ⟨m, hm⟩ := hR.st.st.cellMl
    refine (Any.strings_Cut cutL s ⟨#[10]⟩ m w (by omega) hm).mono fun e w' ⟨h3, n, h4⟩ => ⟨_, h3, ?_⟩
    subst h4
    refine below_post (w' := w.drewN n) hR ⟨rfl, rfl, rfl, Nat.le_refl _, fun _ _ => rfl⟩ (a := cCut.res s) ?_
    have hl := cu_len s
    exact ⟨_, rfl, rv_str (str_small (by omega)), rv_str (str_small (by omega)), rv_bool _, trivial⟩
/-! ### strings.Split at spaces -/
theorem splB_len (c : UInt8) (s : ByteArray) : (splB c s).length ≤ s.size + 1 := by
  unfold splB
  rw [List.length_map, ← bl_len]
  exact spt_len c _
theorem spt_mem_len {c : UInt8} : ∀ {l x : List UInt8}, x ∈ spt c l → x.length ≤ l.length
  | [], x, h => by
    rw [spt] at h
    simp at h
    subst h
    exact Nat.le_refl _
  | y :: r, x, h => by
    rw [spt] at h
    split at h
    · rcases List.mem_cons.1 h with rfl | h
      · exact Nat.zero_le _
      · exact Nat.le_succ_of_le (spt_mem_len h)
    · split at h
      · rename_i a t e
        rcases List.mem_cons.1 h with rfl | h
        · have := spt_mem_len (l := r) (x := a) (by rw [e]; exact List.mem_cons_self ..)
          simp
          omega
        · exact Nat.le_succ_of_le (spt_mem_len (l := r) (by rw [e]; exact List.mem_cons_of_mem _ h))
      · simp at h
        subst h
        simp
theorem splB_mem_len {c : UInt8} {s x : ByteArray} (h : x ∈ splB c s) : x.size ≤ s.size := by
  unfold splB at h
  obtain ⟨l, hl, rfl⟩ := List.mem_map.1 h
  have := spt_mem_len hl
  rw [bl_len] at this
  rw [← bl_len, bl_ofB]
  exact this
theorem reps_strs {C : Cx} : ∀ {xs : List ByteArray}, (∀ x ∈ xs, x.size ≤ maxLen) → Reps C (xs.flatMap (enc .str)) (xs.map Value.string)
  | [], _ => .nil
  | x :: xs, h => Reps.str (h x (List.mem_cons_self ..)) (reps_strs fun y hy => h y (List.mem_cons_of_mem _ hy))
section
variable {F : Nat → Prop} {φ : Nat → RS} {H : Heap} {w : World}
theorem rv_news {w' : World} (r : RS) (k : Blk) : RV (cx F (upd φ H.n r) (H.new k) w') (.slc H.n) r.sl := by
  have := Reps.slc (C := cx F (upd φ H.n r) (H.new k) w') (id := H.n) (Nat.lt_succ_self _) Reps.nil
  rwa [show (cx F (upd φ H.n r) (H.new k) w').φ H.n = r from upd_same _ _ _] at this
theorem new_row (hR : Rel F φ H w) {e : Nat} {t : Ty} {xs : List t.den} {us : List Value} (h1 : t.sz = 1) (hl : us.length = xs.length) (hm : xs.length ≤ maxLen) (hr : Reps (cx F φ H w) (xs.flatMap (enc t)) us) :
    Rel F (upd φ H.n ⟨w.heap.size, xs.length, xs.length, false⟩) (H.new (.seq false e t xs)) (w.alloc (.cells us.toArray e)) ∧ Ext F φ H w (upd φ H.n ⟨w.heap.size, xs.length, xs.length, false⟩) (H.new (.seq false e t xs)) (w.alloc (.cells us.toArray e)) := by
  refine Rel.new hR _ _ rfl (by simp) (fun b hb => Below.heap_alloc w _ b hb) (fun _ => Nat.le_refl _) (fun le => ?_) rfl rfl rfl
  refine ⟨rfl, fun h => (by cases h), us, hr.mono le, ?_⟩
  rw [h1]
  exact ⟨by simp [hl], .inr ⟨w.heap.size, xs.length, us.toArray, rfl, Nat.zero_le _, heap_alloc_new w _, Nat.le_refl _, hm, by simp [hl], by simp only [Nat.mul_one]; exact List.take_of_length_le (by omega)⟩⟩
end
def cSplit : Con where
  X := ByteArray
  args := fun s => [.str s, .str ⟨#[32]⟩]
  heap := fun _ => hp0
  pre := fun s => s.size ≤ 100000
  res := fun _ => .slc 0
  heap' := fun s => ⟨1, [(0, some (.seq false 9 .str (splB 32 s)))]⟩
  pure := false
  find := fun args H => match args with
    | [.str s, .str _] => some s
    | _ => none
theorem cSplit_ok : cSplit.Ok Tryd.prog 19 := by
  refine ⟨Go.MuLone.run_callFunc_enter Tryd.func19 (by decide) rfl, fun _ id k h => no_blocks h, fun h => (by cases h), fun (s : ByteArray) hp F φ w vs hR hv => ?_⟩
  replace hp : s.size ≤ 100000 := hp
  match vs, hv with
  | [v1, v2], hv =>
    obtain ⟨rfl, -⟩ := rv_str_inv (rv_of_rv1 hv.1)
    obtain ⟨rfl, -⟩ := rv_str_inv (rv_of_rv1 hv.2.1)
    obtain ⟨m, hm⟩ := hR.st.st.cellMl
    refine (Any.strings_Split splitL (by kernel_rfl) s ⟨#[32]⟩ m w (by omega) hm (Nat.le_refl 1)).mono fun e w' ⟨h3, h4⟩ => ⟨_, h3, ?_⟩
    have hl := splB_len 32 s
    have h5 := Lib.splitB_all ⟨#[32]⟩ (Nat.le_refl 1) 0 _ s rfl
    rw [splitB_spl] at h4 h5
    subst h4
    rw [← h5]
    obtain ⟨r1, r2⟩ := new_row (e := 9) (t := .str) (xs := splB 32 s) (us := (splB 32 s).map Value.string) hR rfl (by simp) (by unfold maxLen; omega) (reps_strs fun x hx => by
      have := splB_mem_len hx
      unfold maxLen; omega)
    exact ⟨_, rv_news (H := hp0) ⟨w.heap.size, (splB 32 s).length, (splB 32 s).length, false⟩ _, r1, r2⟩
/-! ### strconv.Itoa -/
/-- The text of a number. (Nothing that the kernel could reckon.) -/
noncomputable def itoaF : {f : Int → ByteArray // ∀ n, f n = ofB (Lib.itoa n)} := Classical.choice ⟨⟨_, fun _ => rfl⟩⟩
noncomputable def itoaB (n : Int) : ByteArray := itoaF.1 n
theorem itoaB_eq (n : Int) : itoaB n = ofB (Lib.itoa n) := itoaF.2 n
theorem bl_itoaB (n : Int) : bl (itoaB n) = Lib.itoa n := by rw [itoaB_eq]; rfl
theorem decDigits_len : ∀ (k u : Nat), u < 10 ^ (k + 1) → (Lib.decDigits u).length ≤ k + 1
  | 0, u, h => by
    rw [Lib.decDigits, dif_pos (by omega)]
    exact Nat.le_refl _
  | k + 1, u, h => by
    rw [Lib.decDigits]
    split
    · simp
    · have := decDigits_len k (u / 10) (by rw [Nat.pow_succ] at h; omega)
      simp
      omega
theorem itoa_len {n : Int} (h0 : -9223372036854775808 ≤ n) (h1 : n ≤ 9223372036854775807) : (itoaB n).size ≤ 20 := by
  rw [← bl_len, bl_itoaB]
  unfold Lib.itoa
  split
  · have := decDigits_len 18 n.natAbs (by omega)
    simp
    omega
  · have := decDigits_len 18 n.toNat (by omega)
    omega
noncomputable def cItoa : Con where
  X := Int
  args := fun n => [.int .i64 n]
  heap := fun _ => hp0
  pre := fun _ => True
  res := fun n => .str (itoaB n)
  heap' := fun _ => hp0
  pure := true
  find := fun args H => match args with
    | [.int _ n] => some n
    | _ => none
theorem cItoa_ok : cItoa.Ok Tryd.prog 30 := by
  refine ⟨Go.MuLone.run_callFunc_enter Tryd.func30 (by decide) rfl, fun _ id k h => no_blocks h, fun _ x => ⟨rfl, fun id k h => (by cases h)⟩, fun (n : Int) hp F φ w vs hR hv => ?_⟩
  match vs, hv with
  | [v1], hv =>
    obtain ⟨rfl, hmin, hmax⟩ := rv_int_inv (rv_of_rv1 hv.1)
    have hmin : -9223372036854775808 ≤ n := hmin
    have hmax : n ≤ 9223372036854775807 := hmax
    refine (Any.strconv_Itoa itoaL n hmin hmax w hR.st.st.tabIs).mono fun e w' ⟨h3, k, os, h4⟩ => ⟨_, h3, ?_⟩
    have hl := itoa_len hmin hmax
    refine below_post hR (by subst h4; exact ⟨rfl, rfl, rfl, by simp [Go.Sort.grow], fun b hb => by show (w.heap ++ os)[b]? = _; rw [Array.getElem?_append_left hb]⟩) (a := cItoa.res n) ?_
    show RV _ (.str (itoaB n)) _
    rw [show (Value.string ⟨(Lib.itoa n).toArray⟩) = .string (itoaB n) from by rw [itoaB_eq]; rfl]
    exact rv_str (by unfold maxLen; omega)
/-! ### strconv.Atoi -/
def atO (s : ByteArray) : Bool := match Lib.atoiAll (bl s) with
  | .ok _ => true
  | _ => false
def atV (s : ByteArray) : Int := match Lib.atoiAll (bl s) with
  | .ok v => v
  | .range => Lib.atoiSat (bl s)
  | _ => 0
def cAtoiT : Con where
  X := ByteArray
  args := fun s => [.str s]
  heap := fun _ => hp0
  pre := fun s => s.size ≤ 100000 ∧ atO s = true
  res := fun s => .tup [.int .i64 (atV s), .ifz]
  heap' := fun _ => hp0
  pure := true
  find := fun args H => match args with
    | [.str s] => some s
    | _ => none
def cAtoiF : Con where
  X := ByteArray
  args := fun s => [.str s]
  heap := fun _ => hp0
  pre := fun s => s.size ≤ 100000 ∧ atO s = false
  res := fun s => .tup [.int .i64 (atV s), .ifn]
  heap' := fun _ => hp0
  pure := true
  find := fun args H => match args with
    | [.str s] => some s
    | _ => none
theorem atSat_in (l : List UInt8) : IntKind.i64.min ≤ Lib.atoiSat l ∧ Lib.atoiSat l ≤ IntKind.i64.max := by
  unfold Lib.atoiSat
  split <;> decide
theorem cAtoiT_ok : cAtoiT.Ok Tryd.prog 49 := by
  refine ⟨Go.MuLone.run_callFunc_enter Tryd.func49 (by decide) rfl, fun _ id k h => no_blocks h, fun _ x => ⟨rfl, fun id k h => (by cases h)⟩, fun (s : ByteArray) hp F φ w vs hR hv => ?_⟩
  replace hp : s.size ≤ 100000 ∧ atO s = true := hp
  obtain ⟨hp, ho⟩ := hp
  match vs, hv with
  | [v1], hv =>
    obtain ⟨rfl, -⟩ := rv_str_inv (rv_of_rv1 hv.1)
    rcases ha : Lib.atoiAll (bl s) with v | _ | _
    rotate_left
    · unfold atO at ho; rw [ha] at ho; cases ho
    · unfold atO at ho; rw [ha] at ho; cases ho
    · have hv : atV s = v := by unfold atV; rw [ha]
      obtain ⟨b1, b2⟩ := Lib.atoiAll_bounds ha
      refine (Any.strconv_Atoi_ok atoiL s (by omega) v ha w).mono fun e w' ⟨h3, h4⟩ => ⟨_, h3, ?_⟩
      refine below_post hR ?_ (a := cAtoiT.res s) ?_
      · rcases h4 with rfl | ⟨t, rfl⟩
        · exact Below.refl _ _
        · exact Lib.bytesWorld_below _ _ _
      · show RV _ (.tup [.int .i64 (atV s), .ifz]) _
        rw [hv]
        exact ⟨_, rfl, rv_int ⟨b1, by show v ≤ 9223372036854775807; omega⟩, Reps.ifz .nil, trivial⟩
theorem cAtoiF_ok : cAtoiF.Ok Tryd.prog 49 := by
  refine ⟨Go.MuLone.run_callFunc_enter Tryd.func49 (by decide) rfl, fun _ id k h => no_blocks h, fun _ x => ⟨rfl, fun id k h => (by cases h)⟩, fun (s : ByteArray) hp F φ w vs hR hv => ?_⟩
  replace hp : s.size ≤ 100000 ∧ atO s = false := hp
  obtain ⟨hp, ho⟩ := hp
  match vs, hv with
  | [v1], hv =>
    obtain ⟨rfl, -⟩ := rv_str_inv (rv_of_rv1 hv.1)
    have hst := hR.st.st
    rcases ha : Lib.atoiAll (bl s) with v | _ | _
    · unfold atO at ho; rw [ha] at ho; cases ho
    · have hv : atV s = 0 := by unfold atV; rw [ha]
      obtain ⟨tp, p, t, f, he⟩ := hst.es
      refine (Any.strconv_Atoi_syntax_var atoiL s (by omega) ha tp p w (var_of gEs he)).mono fun e w' ⟨N, h3, _, _, h4⟩ => ⟨_, h3, ?_⟩
      refine below_post hR h4 (a := cAtoiF.res s) ?_
      show RV _ (.tup [.int .i64 (atV s), .ifn]) _
      rw [hv]
      exact ⟨_, rfl, rv_int ⟨by decide, by decide⟩, Reps.ifn .nil, trivial⟩
    · have hv : atV s = Lib.atoiSat (bl s) := by unfold atV; rw [ha]
      obtain ⟨tp, p, t, f, he⟩ := hst.er
      refine (Any.strconv_Atoi_range_var atoiL s (by omega) ha tp p w (var_of gEr he)).mono fun e w' ⟨N, h3, _, _, h4⟩ => ⟨_, h3, ?_⟩
      refine below_post hR h4 (a := cAtoiF.res s) ?_
      show RV _ (.tup [.int .i64 (atV s), .ifn]) _
      rw [hv]
      exact ⟨_, rfl, rv_int (atSat_in _), Reps.ifn .nil, trivial⟩
end Go.Proofs.YtpkidbhpfohopaaDoor
