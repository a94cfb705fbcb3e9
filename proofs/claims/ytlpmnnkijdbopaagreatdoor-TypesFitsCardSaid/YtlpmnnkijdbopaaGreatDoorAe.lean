/- The first seat's program and the A-machine's functions. -/
import Derived.Test.YtlpmnnkijdbopaaGreatDoorAd
import Derived.Test.YtlpmnnkijdbopaaGreatDoorTa
import Derived.Test.YtlpmnnkijdbopaaGreatDoorChecked
import Derived.KernelRfl
set_option linter.unusedSectionVars false
set_option linter.unnecessarySimpa false
set_option linter.deprecated false
set_option linter.unusedVariables false
set_option linter.unusedSimpArgs false
namespace Go.AM.T
noncomputable def link : Link := ⟨Go.Proofs.Tryz.prog, fun g => fnIx.getD g 0, fun t => t⟩
end Go.AM.T

/- MADE BY amfit.py: each function of the program is what the A-machine runs. -/
namespace Go.AM.T
theorem pm3 (p) : mFun link (envP p) c3 Go.Proofs.Tryz.f4 = true := by kernel_rfl
theorem pm4 (p) : mFun link (envP p) c4 Go.Proofs.Tryz.f5 = true := by kernel_rfl
theorem pm6 (p) : mFun link (envP p) c6 Go.Proofs.Tryz.f7 = true := by kernel_rfl
theorem pm7 (p) : mFun link (envP p) c7 Go.Proofs.Tryz.f15 = true := by kernel_rfl
theorem pm8 (p) : mFun link (envP p) c8 Go.Proofs.Tryz.f36 = true := by kernel_rfl
theorem pm9 (p) : mFun link (envP p) c9 Go.Proofs.Tryz.f14 = true := by kernel_rfl
theorem pm10 (p) : mFun link (envP p) c10 Go.Proofs.Tryz.f8 = true := by kernel_rfl
theorem pm11 (p) : mFun link (envP p) c11 Go.Proofs.Tryz.f16 = true := by kernel_rfl
theorem pm14 (p) : mFun link (envP p) c14 Go.Proofs.Tryz.f29 = true := by kernel_rfl
theorem pm16 (p) : mFun link (envP p) c16 Go.Proofs.Tryz.f6 = true := by kernel_rfl
theorem pm17 (p) : mFun link (envP p) c17 Go.Proofs.Tryz.f27 = true := by kernel_rfl
theorem pm18 (p) : mFun link (envP p) c18 Go.Proofs.Tryz.f33 = true := by kernel_rfl
theorem pm19 (p) : mFun link (envP p) c19 Go.Proofs.Tryz.f24 = true := by kernel_rfl
theorem pm20 (p) : mFun link (envP p) c20 Go.Proofs.Tryz.f19 = true := by kernel_rfl
theorem pm21 (p) : mFun link (envP p) c21 Go.Proofs.Tryz.f25 = true := by kernel_rfl
theorem pm22 (p) : mFun link (envP p) c22 Go.Proofs.Tryz.f20 = true := by kernel_rfl
theorem pm23 (p) : mFun link (envP p) c23 Go.Proofs.Tryz.f21 = true := by kernel_rfl
theorem pm24 (p) : mFun link (envP p) c24 Go.Proofs.Tryz.f22 = true := by kernel_rfl
theorem pm25 (p) : mFun link (envP p) c25 Go.Proofs.Tryz.f23 = true := by kernel_rfl
theorem pm26 (p) : mFun link (envP p) c26 Go.Proofs.Tryz.f41 = true := by kernel_rfl
theorem pm27 (p) : mFun link (envP p) c27 Go.Proofs.Tryz.f40 = true := by kernel_rfl
theorem pm28 (p) : mFun link (envP p) c28 Go.Proofs.Tryz.f37 = true := by kernel_rfl
theorem pm29 (p) : mFun link (envP p) c29 Go.Proofs.Tryz.f39 = true := by kernel_rfl
theorem pm30 (p) : mFun link (envP p) c30 Go.Proofs.Tryz.f38 = true := by kernel_rfl
theorem pm31 (p) : mFun link (envP p) c31 Go.Proofs.Tryz.f17 = true := by kernel_rfl
theorem pm32 (p) : mFun link (envP p) c32 Go.Proofs.Tryz.f18 = true := by kernel_rfl
theorem pm33 (p) : mFun link (envP p) c33 Go.Proofs.Tryz.f110 = true := by kernel_rfl
theorem pm34 (p) : mFun link (envP p) c34 Go.Proofs.Tryz.f111 = true := by kernel_rfl
theorem pm35 (p) : mFun link (envP p) c35 Go.Proofs.Tryz.f26 = true := by kernel_rfl
theorem pm37 (p) : mFun link (envP p) c37 Go.Proofs.Tryz.f52 = true := by kernel_rfl
theorem pm38 (p) : mFun link (envP p) c38 Go.Proofs.Tryz.f42 = true := by kernel_rfl
theorem pm39 (p) : mFun link (envP p) c39 Go.Proofs.Tryz.f44 = true := by kernel_rfl
theorem pm40 (p) : mFun link (envP p) c40 Go.Proofs.Tryz.f43 = true := by kernel_rfl
theorem pm41 (p) : mFun link (envP p) c41 Go.Proofs.Tryz.f45 = true := by kernel_rfl
theorem pm43 (p) : mFun link (envP p) c43 Go.Proofs.Tryz.f46 = true := by kernel_rfl
theorem pm44 (p) : mFun link (envP p) c44 Go.Proofs.Tryz.f47 = true := by kernel_rfl
theorem pm45 (p) : mFun link (envP p) c45 Go.Proofs.Tryz.f48 = true := by kernel_rfl
theorem pm46 (p) : mFun link (envP p) c46 Go.Proofs.Tryz.f51 = true := by kernel_rfl
theorem pm47 (p) : mFun link (envP p) c47 Go.Proofs.Tryz.f50 = true := by kernel_rfl
theorem pm48 (p) : mFun link (envP p) c48 Go.Proofs.Tryz.f49 = true := by kernel_rfl
theorem pm49 (p) : mFun link (envP p) c49 Go.Proofs.Tryz.f57 = true := by kernel_rfl
theorem pm50 (p) : mFun link (envP p) c50 Go.Proofs.Tryz.f53 = true := by kernel_rfl
theorem pm51 (p) : mFun link (envP p) c51 Go.Proofs.Tryz.f56 = true := by kernel_rfl
theorem pm52 (p) : mFun link (envP p) c52 Go.Proofs.Tryz.f55 = true := by kernel_rfl
theorem pm53 (p) : mFun link (envP p) c53 Go.Proofs.Tryz.f90 = true := by kernel_rfl
theorem pm54 (p) : mFun link (envP p) c54 Go.Proofs.Tryz.f91 = true := by kernel_rfl
theorem pm55 (p) : mFun link (envP p) c55 Go.Proofs.Tryz.f58 = true := by kernel_rfl
theorem pm56 (p) : mFun link (envP p) c56 Go.Proofs.Tryz.f59 = true := by kernel_rfl
theorem pm57 (p) : mFun link (envP p) c57 Go.Proofs.Tryz.f65 = true := by kernel_rfl
theorem pm58 (p) : mFun link (envP p) c58 Go.Proofs.Tryz.f66 = true := by kernel_rfl
theorem pm59 (p) : mFun link (envP p) c59 Go.Proofs.Tryz.f67 = true := by kernel_rfl
theorem pm61 (p) : mFun link (envP p) c61 Go.Proofs.Tryz.f60 = true := by kernel_rfl
theorem pm62 (p) : mFun link (envP p) c62 Go.Proofs.Tryz.f61 = true := by kernel_rfl
theorem pm63 (p) : mFun link (envP p) c63 Go.Proofs.Tryz.f62 = true := by kernel_rfl
theorem pm64 (p) : mFun link (envP p) c64 Go.Proofs.Tryz.f63 = true := by kernel_rfl
theorem pm65 (p) : mFun link (envP p) c65 Go.Proofs.Tryz.f64 = true := by kernel_rfl
theorem pm66 (p) : mFun link (envP p) c66 Go.Proofs.Tryz.f68 = true := by kernel_rfl
theorem pm67 (p) : mFun link (envP p) c67 Go.Proofs.Tryz.f69 = true := by kernel_rfl
theorem pm68 (p) : mFun link (envP p) c68 Go.Proofs.Tryz.f73 = true := by kernel_rfl
theorem pm69 (p) : mFun link (envP p) c69 Go.Proofs.Tryz.f81 = true := by kernel_rfl
theorem pm70 (p) : mFun link (envP p) c70 Go.Proofs.Tryz.f82 = true := by kernel_rfl
theorem pm71 (p) : mFun link (envP p) c71 Go.Proofs.Tryz.f83 = true := by kernel_rfl
theorem pm72 (p) : mFun link (envP p) c72 Go.Proofs.Tryz.f84 = true := by kernel_rfl
theorem pm73 (p) : mFun link (envP p) c73 Go.Proofs.Tryz.f85 = true := by kernel_rfl
theorem pm74 (p) : mFun link (envP p) c74 Go.Proofs.Tryz.f86 = true := by kernel_rfl
theorem pm75 (p) : mFun link (envP p) c75 Go.Proofs.Tryz.f87 = true := by kernel_rfl
theorem pm76 (p) : mFun link (envP p) c76 Go.Proofs.Tryz.f88 = true := by kernel_rfl
theorem pm77 (p) : mFun link (envP p) c77 Go.Proofs.Tryz.f89 = true := by kernel_rfl
theorem pm78 (p) : mFun link (envP p) c78 Go.Proofs.Tryz.f72 = true := by kernel_rfl
theorem pm79 (p) : mFun link (envP p) c79 Go.Proofs.Tryz.f70 = true := by kernel_rfl
theorem pm80 (p) : mFun link (envP p) c80 Go.Proofs.Tryz.f71 = true := by kernel_rfl
theorem pm81 (p) : mFun link (envP p) c81 Go.Proofs.Tryz.f108 = true := by kernel_rfl
theorem pm82 (p) : mFun link (envP p) c82 Go.Proofs.Tryz.f98 = true := by kernel_rfl
theorem pm83 (p) : mFun link (envP p) c83 Go.Proofs.Tryz.f94 = true := by kernel_rfl
theorem pm84 (p) : mFun link (envP p) c84 Go.Proofs.Tryz.f95 = true := by kernel_rfl
theorem pm85 (p) : mFun link (envP p) c85 Go.Proofs.Tryz.f92 = true := by kernel_rfl
theorem pm86 (p) : mFun link (envP p) c86 Go.Proofs.Tryz.f93 = true := by kernel_rfl
theorem pm87 (p) : mFun link (envP p) c87 Go.Proofs.Tryz.f96 = true := by kernel_rfl
theorem pm88 (p) : mFun link (envP p) c88 Go.Proofs.Tryz.f97 = true := by kernel_rfl
theorem pm89 (p) : mFun link (envP p) c89 Go.Proofs.Tryz.f104 = true := by kernel_rfl
theorem pm90 (p) : mFun link (envP p) c90 Go.Proofs.Tryz.f105 = true := by kernel_rfl
theorem pm91 (p) : mFun link (envP p) c91 Go.Proofs.Tryz.f106 = true := by kernel_rfl
theorem pm92 (p) : mFun link (envP p) c92 Go.Proofs.Tryz.f107 = true := by kernel_rfl
theorem pm93 (p) : mFun link (envP p) c93 Go.Proofs.Tryz.f103 = true := by kernel_rfl
theorem pm94 (p) : mFun link (envP p) c94 Go.Proofs.Tryz.f109 = true := by kernel_rfl
theorem pm95 (p) : mFun link (envP p) c95 Go.Proofs.Tryz.f112 = true := by kernel_rfl
theorem pm96 (p) : mFun link (envP p) c96 Go.Proofs.Tryz.f113 = true := by kernel_rfl
theorem pm97 (p) : mFun link (envP p) c97 Go.Proofs.Tryz.f114 = true := by kernel_rfl
theorem pm98 (p) : mFun link (envP p) c98 Go.Proofs.Tryz.f115 = true := by kernel_rfl
theorem pm99 (p) : mFun link (envP p) c99 Go.Proofs.Tryz.f119 = true := by kernel_rfl
theorem pm100 (p) : mFun link (envP p) c100 Go.Proofs.Tryz.f120 = true := by kernel_rfl
theorem pm101 (p) : mFun link (envP p) c101 Go.Proofs.Tryz.f121 = true := by kernel_rfl
theorem pm102 (p) : mFun link (envP p) c102 Go.Proofs.Tryz.f123 = true := by kernel_rfl
theorem pm103 (p) : mFun link (envP p) c103 Go.Proofs.Tryz.f122 = true := by kernel_rfl
theorem pm104 (p) : mFun link (envP p) c104 Go.Proofs.Tryz.f124 = true := by kernel_rfl
theorem pm105 (p) : mFun link (envP p) c105 Go.Proofs.Tryz.f129 = true := by kernel_rfl
theorem pm106 (p) : mFun link (envP p) c106 Go.Proofs.Tryz.f130 = true := by kernel_rfl
theorem pm107 (p) : mFun link (envP p) c107 Go.Proofs.Tryz.f131 = true := by kernel_rfl
theorem pm108 (p) : mFun link (envP p) c108 Go.Proofs.Tryz.f7 = true := by kernel_rfl
theorem pm109 (p) : mFun link (envP p) c109 Go.Proofs.Tryz.f20 = true := by kernel_rfl
theorem pm110 (p) : mFun link (envP p) c110 Go.Proofs.Tryz.f47 = true := by kernel_rfl
theorem pm111 (p) : mFun link (envP p) c111 Go.Proofs.Tryz.f69 = true := by kernel_rfl
theorem pm113 (p) : mFun link (envP p) c113 Go.Proofs.Tryz.f15 = true := by kernel_rfl
theorem pm117 (p) : mFun link (envP p) c117 Go.Proofs.Tryz.f10 = true := by kernel_rfl
theorem pm118 (p) : mFun link (envP p) c118 Go.Proofs.Tryz.f12 = true := by kernel_rfl
theorem pm121 (p) : mFun link (envP p) c121 Go.Proofs.Tryz.f31 = true := by kernel_rfl
theorem pm122 (p) : mFun link (envP p) c122 Go.Proofs.Tryz.f54 = true := by kernel_rfl
theorem pm125 (p) : mFun link (envP p) c125 Go.Proofs.Tryz.f76 = true := by kernel_rfl
theorem pm126 (p) : mFun link (envP p) c126 Go.Proofs.Tryz.f78 = true := by kernel_rfl
theorem pm127 (p) : mFun link (envP p) c127 Go.Proofs.Tryz.f77 = true := by kernel_rfl
theorem pm130 (p) : mFun link (envP p) c130 Go.Proofs.Tryz.f99 = true := by kernel_rfl
theorem pm131 (p) : mFun link (envP p) c131 Go.Proofs.Tryz.f3 = true := by kernel_rfl
theorem pm132 (p) : mFun link (envP p) c132 Go.Proofs.Tryz.f9 = true := by kernel_rfl
theorem pm133 (p) : mFun link (envP p) c133 Go.Proofs.Tryz.f11 = true := by kernel_rfl
theorem pm134 (p) : mFun link (envP p) c134 Go.Proofs.Tryz.f13 = true := by kernel_rfl
theorem pm135 (p) : mFun link (envP p) c135 Go.Proofs.Tryz.f28 = true := by kernel_rfl
theorem pm136 (p) : mFun link (envP p) c136 Go.Proofs.Tryz.f30 = true := by kernel_rfl
theorem pm137 (p) : mFun link (envP p) c137 Go.Proofs.Tryz.f32 = true := by kernel_rfl
theorem pm138 (p) : mFun link (envP p) c138 Go.Proofs.Tryz.f34 = true := by kernel_rfl
theorem pm139 (p) : mFun link (envP p) c139 Go.Proofs.Tryz.f35 = true := by kernel_rfl
theorem pk3 : link.P.funcs[link.fn 3]? = some Go.Proofs.Tryz.f4 := by kernel_rfl
theorem pk4 : link.P.funcs[link.fn 4]? = some Go.Proofs.Tryz.f5 := by kernel_rfl
theorem pk6 : link.P.funcs[link.fn 6]? = some Go.Proofs.Tryz.f7 := by kernel_rfl
theorem pk7 : link.P.funcs[link.fn 7]? = some Go.Proofs.Tryz.f15 := by kernel_rfl
theorem pk8 : link.P.funcs[link.fn 8]? = some Go.Proofs.Tryz.f36 := by kernel_rfl
theorem pk9 : link.P.funcs[link.fn 9]? = some Go.Proofs.Tryz.f14 := by kernel_rfl
theorem pk10 : link.P.funcs[link.fn 10]? = some Go.Proofs.Tryz.f8 := by kernel_rfl
theorem pk11 : link.P.funcs[link.fn 11]? = some Go.Proofs.Tryz.f16 := by kernel_rfl
theorem pk14 : link.P.funcs[link.fn 14]? = some Go.Proofs.Tryz.f29 := by kernel_rfl
theorem pk16 : link.P.funcs[link.fn 16]? = some Go.Proofs.Tryz.f6 := by kernel_rfl
theorem pk17 : link.P.funcs[link.fn 17]? = some Go.Proofs.Tryz.f27 := by kernel_rfl
theorem pk18 : link.P.funcs[link.fn 18]? = some Go.Proofs.Tryz.f33 := by kernel_rfl
theorem pk19 : link.P.funcs[link.fn 19]? = some Go.Proofs.Tryz.f24 := by kernel_rfl
theorem pk20 : link.P.funcs[link.fn 20]? = some Go.Proofs.Tryz.f19 := by kernel_rfl
theorem pk21 : link.P.funcs[link.fn 21]? = some Go.Proofs.Tryz.f25 := by kernel_rfl
theorem pk22 : link.P.funcs[link.fn 22]? = some Go.Proofs.Tryz.f20 := by kernel_rfl
theorem pk23 : link.P.funcs[link.fn 23]? = some Go.Proofs.Tryz.f21 := by kernel_rfl
theorem pk24 : link.P.funcs[link.fn 24]? = some Go.Proofs.Tryz.f22 := by kernel_rfl
theorem pk25 : link.P.funcs[link.fn 25]? = some Go.Proofs.Tryz.f23 := by kernel_rfl
theorem pk26 : link.P.funcs[link.fn 26]? = some Go.Proofs.Tryz.f41 := by kernel_rfl
theorem pk27 : link.P.funcs[link.fn 27]? = some Go.Proofs.Tryz.f40 := by kernel_rfl
theorem pk28 : link.P.funcs[link.fn 28]? = some Go.Proofs.Tryz.f37 := by kernel_rfl
theorem pk29 : link.P.funcs[link.fn 29]? = some Go.Proofs.Tryz.f39 := by kernel_rfl
theorem pk30 : link.P.funcs[link.fn 30]? = some Go.Proofs.Tryz.f38 := by kernel_rfl
theorem pk31 : link.P.funcs[link.fn 31]? = some Go.Proofs.Tryz.f17 := by kernel_rfl
theorem pk32 : link.P.funcs[link.fn 32]? = some Go.Proofs.Tryz.f18 := by kernel_rfl
theorem pk33 : link.P.funcs[link.fn 33]? = some Go.Proofs.Tryz.f110 := by kernel_rfl
theorem pk34 : link.P.funcs[link.fn 34]? = some Go.Proofs.Tryz.f111 := by kernel_rfl
theorem pk35 : link.P.funcs[link.fn 35]? = some Go.Proofs.Tryz.f26 := by kernel_rfl
theorem pk37 : link.P.funcs[link.fn 37]? = some Go.Proofs.Tryz.f52 := by kernel_rfl
theorem pk38 : link.P.funcs[link.fn 38]? = some Go.Proofs.Tryz.f42 := by kernel_rfl
theorem pk39 : link.P.funcs[link.fn 39]? = some Go.Proofs.Tryz.f44 := by kernel_rfl
theorem pk40 : link.P.funcs[link.fn 40]? = some Go.Proofs.Tryz.f43 := by kernel_rfl
theorem pk41 : link.P.funcs[link.fn 41]? = some Go.Proofs.Tryz.f45 := by kernel_rfl
theorem pk43 : link.P.funcs[link.fn 43]? = some Go.Proofs.Tryz.f46 := by kernel_rfl
theorem pk44 : link.P.funcs[link.fn 44]? = some Go.Proofs.Tryz.f47 := by kernel_rfl
theorem pk45 : link.P.funcs[link.fn 45]? = some Go.Proofs.Tryz.f48 := by kernel_rfl
theorem pk46 : link.P.funcs[link.fn 46]? = some Go.Proofs.Tryz.f51 := by kernel_rfl
theorem pk47 : link.P.funcs[link.fn 47]? = some Go.Proofs.Tryz.f50 := by kernel_rfl
theorem pk48 : link.P.funcs[link.fn 48]? = some Go.Proofs.Tryz.f49 := by kernel_rfl
theorem pk49 : link.P.funcs[link.fn 49]? = some Go.Proofs.Tryz.f57 := by kernel_rfl
theorem pk50 : link.P.funcs[link.fn 50]? = some Go.Proofs.Tryz.f53 := by kernel_rfl
theorem pk51 : link.P.funcs[link.fn 51]? = some Go.Proofs.Tryz.f56 := by kernel_rfl
theorem pk52 : link.P.funcs[link.fn 52]? = some Go.Proofs.Tryz.f55 := by kernel_rfl
theorem pk53 : link.P.funcs[link.fn 53]? = some Go.Proofs.Tryz.f90 := by kernel_rfl
theorem pk54 : link.P.funcs[link.fn 54]? = some Go.Proofs.Tryz.f91 := by kernel_rfl
theorem pk55 : link.P.funcs[link.fn 55]? = some Go.Proofs.Tryz.f58 := by kernel_rfl
theorem pk56 : link.P.funcs[link.fn 56]? = some Go.Proofs.Tryz.f59 := by kernel_rfl
theorem pk57 : link.P.funcs[link.fn 57]? = some Go.Proofs.Tryz.f65 := by kernel_rfl
theorem pk58 : link.P.funcs[link.fn 58]? = some Go.Proofs.Tryz.f66 := by kernel_rfl
theorem pk59 : link.P.funcs[link.fn 59]? = some Go.Proofs.Tryz.f67 := by kernel_rfl
theorem pk61 : link.P.funcs[link.fn 61]? = some Go.Proofs.Tryz.f60 := by kernel_rfl
theorem pk62 : link.P.funcs[link.fn 62]? = some Go.Proofs.Tryz.f61 := by kernel_rfl
theorem pk63 : link.P.funcs[link.fn 63]? = some Go.Proofs.Tryz.f62 := by kernel_rfl
theorem pk64 : link.P.funcs[link.fn 64]? = some Go.Proofs.Tryz.f63 := by kernel_rfl
theorem pk65 : link.P.funcs[link.fn 65]? = some Go.Proofs.Tryz.f64 := by kernel_rfl
theorem pk66 : link.P.funcs[link.fn 66]? = some Go.Proofs.Tryz.f68 := by kernel_rfl
theorem pk67 : link.P.funcs[link.fn 67]? = some Go.Proofs.Tryz.f69 := by kernel_rfl
theorem pk68 : link.P.funcs[link.fn 68]? = some Go.Proofs.Tryz.f73 := by kernel_rfl
theorem pk69 : link.P.funcs[link.fn 69]? = some Go.Proofs.Tryz.f81 := by kernel_rfl
theorem pk70 : link.P.funcs[link.fn 70]? = some Go.Proofs.Tryz.f82 := by kernel_rfl
theorem pk71 : link.P.funcs[link.fn 71]? = some Go.Proofs.Tryz.f83 := by kernel_rfl
theorem pk72 : link.P.funcs[link.fn 72]? = some Go.Proofs.Tryz.f84 := by kernel_rfl
theorem pk73 : link.P.funcs[link.fn 73]? = some Go.Proofs.Tryz.f85 := by kernel_rfl
theorem pk74 : link.P.funcs[link.fn 74]? = some Go.Proofs.Tryz.f86 := by kernel_rfl
theorem pk75 : link.P.funcs[link.fn 75]? = some Go.Proofs.Tryz.f87 := by kernel_rfl
theorem pk76 : link.P.funcs[link.fn 76]? = some Go.Proofs.Tryz.f88 := by kernel_rfl
theorem pk77 : link.P.funcs[link.fn 77]? = some Go.Proofs.Tryz.f89 := by kernel_rfl
theorem pk78 : link.P.funcs[link.fn 78]? = some Go.Proofs.Tryz.f72 := by kernel_rfl
theorem pk79 : link.P.funcs[link.fn 79]? = some Go.Proofs.Tryz.f70 := by kernel_rfl
theorem pk80 : link.P.funcs[link.fn 80]? = some Go.Proofs.Tryz.f71 := by kernel_rfl
theorem pk81 : link.P.funcs[link.fn 81]? = some Go.Proofs.Tryz.f108 := by kernel_rfl
theorem pk82 : link.P.funcs[link.fn 82]? = some Go.Proofs.Tryz.f98 := by kernel_rfl
theorem pk83 : link.P.funcs[link.fn 83]? = some Go.Proofs.Tryz.f94 := by kernel_rfl
theorem pk84 : link.P.funcs[link.fn 84]? = some Go.Proofs.Tryz.f95 := by kernel_rfl
theorem pk85 : link.P.funcs[link.fn 85]? = some Go.Proofs.Tryz.f92 := by kernel_rfl
theorem pk86 : link.P.funcs[link.fn 86]? = some Go.Proofs.Tryz.f93 := by kernel_rfl
theorem pk87 : link.P.funcs[link.fn 87]? = some Go.Proofs.Tryz.f96 := by kernel_rfl
theorem pk88 : link.P.funcs[link.fn 88]? = some Go.Proofs.Tryz.f97 := by kernel_rfl
theorem pk89 : link.P.funcs[link.fn 89]? = some Go.Proofs.Tryz.f104 := by kernel_rfl
theorem pk90 : link.P.funcs[link.fn 90]? = some Go.Proofs.Tryz.f105 := by kernel_rfl
theorem pk91 : link.P.funcs[link.fn 91]? = some Go.Proofs.Tryz.f106 := by kernel_rfl
theorem pk92 : link.P.funcs[link.fn 92]? = some Go.Proofs.Tryz.f107 := by kernel_rfl
theorem pk93 : link.P.funcs[link.fn 93]? = some Go.Proofs.Tryz.f103 := by kernel_rfl
theorem pk94 : link.P.funcs[link.fn 94]? = some Go.Proofs.Tryz.f109 := by kernel_rfl
theorem pk95 : link.P.funcs[link.fn 95]? = some Go.Proofs.Tryz.f112 := by kernel_rfl
theorem pk96 : link.P.funcs[link.fn 96]? = some Go.Proofs.Tryz.f113 := by kernel_rfl
theorem pk97 : link.P.funcs[link.fn 97]? = some Go.Proofs.Tryz.f114 := by kernel_rfl
theorem pk98 : link.P.funcs[link.fn 98]? = some Go.Proofs.Tryz.f115 := by kernel_rfl
theorem pk99 : link.P.funcs[link.fn 99]? = some Go.Proofs.Tryz.f119 := by kernel_rfl
theorem pk100 : link.P.funcs[link.fn 100]? = some Go.Proofs.Tryz.f120 := by kernel_rfl
theorem pk101 : link.P.funcs[link.fn 101]? = some Go.Proofs.Tryz.f121 := by kernel_rfl
theorem pk102 : link.P.funcs[link.fn 102]? = some Go.Proofs.Tryz.f123 := by kernel_rfl
theorem pk103 : link.P.funcs[link.fn 103]? = some Go.Proofs.Tryz.f122 := by kernel_rfl
theorem pk104 : link.P.funcs[link.fn 104]? = some Go.Proofs.Tryz.f124 := by kernel_rfl
theorem pk105 : link.P.funcs[link.fn 105]? = some Go.Proofs.Tryz.f129 := by kernel_rfl
theorem pk106 : link.P.funcs[link.fn 106]? = some Go.Proofs.Tryz.f130 := by kernel_rfl
theorem pk107 : link.P.funcs[link.fn 107]? = some Go.Proofs.Tryz.f131 := by kernel_rfl
theorem pk108 : link.P.funcs[link.fn 108]? = some Go.Proofs.Tryz.f7 := by kernel_rfl
theorem pk109 : link.P.funcs[link.fn 109]? = some Go.Proofs.Tryz.f20 := by kernel_rfl
theorem pk110 : link.P.funcs[link.fn 110]? = some Go.Proofs.Tryz.f47 := by kernel_rfl
theorem pk111 : link.P.funcs[link.fn 111]? = some Go.Proofs.Tryz.f69 := by kernel_rfl
theorem pk113 : link.P.funcs[link.fn 113]? = some Go.Proofs.Tryz.f15 := by kernel_rfl
theorem pk117 : link.P.funcs[link.fn 117]? = some Go.Proofs.Tryz.f10 := by kernel_rfl
theorem pk118 : link.P.funcs[link.fn 118]? = some Go.Proofs.Tryz.f12 := by kernel_rfl
theorem pk121 : link.P.funcs[link.fn 121]? = some Go.Proofs.Tryz.f31 := by kernel_rfl
theorem pk122 : link.P.funcs[link.fn 122]? = some Go.Proofs.Tryz.f54 := by kernel_rfl
theorem pk125 : link.P.funcs[link.fn 125]? = some Go.Proofs.Tryz.f76 := by kernel_rfl
theorem pk126 : link.P.funcs[link.fn 126]? = some Go.Proofs.Tryz.f78 := by kernel_rfl
theorem pk127 : link.P.funcs[link.fn 127]? = some Go.Proofs.Tryz.f77 := by kernel_rfl
theorem pk130 : link.P.funcs[link.fn 130]? = some Go.Proofs.Tryz.f99 := by kernel_rfl
theorem pk131 : link.P.funcs[link.fn 131]? = some Go.Proofs.Tryz.f3 := by kernel_rfl
theorem pk132 : link.P.funcs[link.fn 132]? = some Go.Proofs.Tryz.f9 := by kernel_rfl
theorem pk133 : link.P.funcs[link.fn 133]? = some Go.Proofs.Tryz.f11 := by kernel_rfl
theorem pk134 : link.P.funcs[link.fn 134]? = some Go.Proofs.Tryz.f13 := by kernel_rfl
theorem pk135 : link.P.funcs[link.fn 135]? = some Go.Proofs.Tryz.f28 := by kernel_rfl
theorem pk136 : link.P.funcs[link.fn 136]? = some Go.Proofs.Tryz.f30 := by kernel_rfl
theorem pk137 : link.P.funcs[link.fn 137]? = some Go.Proofs.Tryz.f32 := by kernel_rfl
theorem pk138 : link.P.funcs[link.fn 138]? = some Go.Proofs.Tryz.f34 := by kernel_rfl
theorem pk139 : link.P.funcs[link.fn 139]? = some Go.Proofs.Tryz.f35 := by kernel_rfl
theorem fits (p) : AllI (fun g f => ∃ fn, link.P.funcs[link.fn g]? = some fn ∧ mFun link (envP p) f fn = true) 0 fnTab := ⟨⟨_, pk3, pm3 p⟩, ⟨_, pk4, pm4 p⟩, ⟨_, pk6, pm6 p⟩, ⟨_, pk7, pm7 p⟩, ⟨_, pk8, pm8 p⟩, ⟨_, pk9, pm9 p⟩, ⟨_, pk10, pm10 p⟩, ⟨_, pk11, pm11 p⟩, ⟨_, pk14, pm14 p⟩, ⟨_, pk16, pm16 p⟩, ⟨_, pk17, pm17 p⟩, ⟨_, pk18, pm18 p⟩, ⟨_, pk19, pm19 p⟩, ⟨_, pk20, pm20 p⟩, ⟨_, pk21, pm21 p⟩, ⟨_, pk22, pm22 p⟩, ⟨_, pk23, pm23 p⟩, ⟨_, pk24, pm24 p⟩, ⟨_, pk25, pm25 p⟩, ⟨_, pk26, pm26 p⟩, ⟨_, pk27, pm27 p⟩, ⟨_, pk28, pm28 p⟩, ⟨_, pk29, pm29 p⟩, ⟨_, pk30, pm30 p⟩, ⟨_, pk31, pm31 p⟩, ⟨_, pk32, pm32 p⟩, ⟨_, pk33, pm33 p⟩, ⟨_, pk34, pm34 p⟩, ⟨_, pk35, pm35 p⟩, ⟨_, pk37, pm37 p⟩, ⟨_, pk38, pm38 p⟩, ⟨_, pk39, pm39 p⟩, ⟨_, pk40, pm40 p⟩, ⟨_, pk41, pm41 p⟩, ⟨_, pk43, pm43 p⟩, ⟨_, pk44, pm44 p⟩, ⟨_, pk45, pm45 p⟩, ⟨_, pk46, pm46 p⟩, ⟨_, pk47, pm47 p⟩, ⟨_, pk48, pm48 p⟩, ⟨_, pk49, pm49 p⟩, ⟨_, pk50, pm50 p⟩, ⟨_, pk51, pm51 p⟩, ⟨_, pk52, pm52 p⟩, ⟨_, pk53, pm53 p⟩, ⟨_, pk54, pm54 p⟩, ⟨_, pk55, pm55 p⟩, ⟨_, pk56, pm56 p⟩, ⟨_, pk57, pm57 p⟩, ⟨_, pk58, pm58 p⟩, ⟨_, pk59, pm59 p⟩, ⟨_, pk61, pm61 p⟩, ⟨_, pk62, pm62 p⟩, ⟨_, pk63, pm63 p⟩, ⟨_, pk64, pm64 p⟩, ⟨_, pk65, pm65 p⟩, ⟨_, pk66, pm66 p⟩, ⟨_, pk67, pm67 p⟩, ⟨_, pk68, pm68 p⟩, ⟨_, pk69, pm69 p⟩, ⟨_, pk70, pm70 p⟩, ⟨_, pk71, pm71 p⟩, ⟨_, pk72, pm72 p⟩, ⟨_, pk73, pm73 p⟩, ⟨_, pk74, pm74 p⟩, ⟨_, pk75, pm75 p⟩, ⟨_, pk76, pm76 p⟩, ⟨_, pk77, pm77 p⟩, ⟨_, pk78, pm78 p⟩, ⟨_, pk79, pm79 p⟩, ⟨_, pk80, pm80 p⟩, ⟨_, pk81, pm81 p⟩, ⟨_, pk82, pm82 p⟩, ⟨_, pk83, pm83 p⟩, ⟨_, pk84, pm84 p⟩, ⟨_, pk85, pm85 p⟩, ⟨_, pk86, pm86 p⟩, ⟨_, pk87, pm87 p⟩, ⟨_, pk88, pm88 p⟩, ⟨_, pk89, pm89 p⟩, ⟨_, pk90, pm90 p⟩, ⟨_, pk91, pm91 p⟩, ⟨_, pk92, pm92 p⟩, ⟨_, pk93, pm93 p⟩, ⟨_, pk94, pm94 p⟩, ⟨_, pk95, pm95 p⟩, ⟨_, pk96, pm96 p⟩, ⟨_, pk97, pm97 p⟩, ⟨_, pk98, pm98 p⟩, ⟨_, pk99, pm99 p⟩, ⟨_, pk100, pm100 p⟩, ⟨_, pk101, pm101 p⟩, ⟨_, pk102, pm102 p⟩, ⟨_, pk103, pm103 p⟩, ⟨_, pk104, pm104 p⟩, ⟨_, pk105, pm105 p⟩, ⟨_, pk106, pm106 p⟩, ⟨_, pk107, pm107 p⟩, ⟨_, pk108, pm108 p⟩, ⟨_, pk109, pm109 p⟩, ⟨_, pk110, pm110 p⟩, ⟨_, pk111, pm111 p⟩, ⟨_, pk113, pm113 p⟩, ⟨_, pk117, pm117 p⟩, ⟨_, pk118, pm118 p⟩, ⟨_, pk121, pm121 p⟩, ⟨_, pk122, pm122 p⟩, ⟨_, pk125, pm125 p⟩, ⟨_, pk126, pm126 p⟩, ⟨_, pk127, pm127 p⟩, ⟨_, pk130, pm130 p⟩, ⟨_, pk131, pm131 p⟩, ⟨_, pk132, pm132 p⟩, ⟨_, pk133, pm133 p⟩, ⟨_, pk134, pm134 p⟩, ⟨_, pk135, pm135 p⟩, ⟨_, pk136, pm136 p⟩, ⟨_, pk137, pm137 p⟩, ⟨_, pk138, pm138 p⟩, ⟨_, pk139, pm139 p⟩, trivial⟩
end Go.AM.T

/- The first seat's program fits, whatever is known of the library by itself. -/
namespace Go.AM.T
theorem fit0 : Fit link env0 where
  mixed := Go.Proofs.Tryz.checked.mixed
  glob _ _ h := by cases h
  prim _ _ h := by cases h
  fn g f h := by
    have := (fits fun _ => none).get (j := g) (f := f) h
    rwa [Nat.zero_add] at this
end Go.AM.T
