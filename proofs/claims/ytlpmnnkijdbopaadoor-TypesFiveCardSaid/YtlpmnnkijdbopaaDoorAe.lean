/- The first seat's program and the A-machine's functions. -/
import Derived.Test.YtlpmnnkijdbopaaDoorAd
import Derived.Test.YtlpmnnkijdbopaaDoorTa
import Derived.Test.YtlpmnnkijdbopaaDoorChecked
import Derived.KernelRfl
set_option linter.unusedSectionVars false
set_option linter.unnecessarySimpa false
set_option linter.deprecated false
set_option linter.unusedVariables false
set_option linter.unusedSimpArgs false
namespace Go.AM.T
noncomputable def link : Link := ⟨Go.Proofs.Tryd.prog, fun g => fnIx.getD g 0, fun t => t⟩
end Go.AM.T

/- MADE BY amfit.py: each function of the program is what the A-machine runs. -/
namespace Go.AM.T
theorem pm3 (p) : mFun link (envP p) c3 Go.Proofs.Tryd.f4 = true := by kernel_rfl
theorem pm4 (p) : mFun link (envP p) c4 Go.Proofs.Tryd.f5 = true := by kernel_rfl
theorem pm6 (p) : mFun link (envP p) c6 Go.Proofs.Tryd.f6 = true := by kernel_rfl
theorem pm7 (p) : mFun link (envP p) c7 Go.Proofs.Tryd.f14 = true := by kernel_rfl
theorem pm8 (p) : mFun link (envP p) c8 Go.Proofs.Tryd.f9 = true := by kernel_rfl
theorem pm9 (p) : mFun link (envP p) c9 Go.Proofs.Tryd.f15 = true := by kernel_rfl
theorem pm10 (p) : mFun link (envP p) c10 Go.Proofs.Tryd.f17 = true := by kernel_rfl
theorem pm11 (p) : mFun link (envP p) c11 Go.Proofs.Tryd.f16 = true := by kernel_rfl
theorem pm12 (p) : mFun link (envP p) c12 Go.Proofs.Tryd.f11 = true := by kernel_rfl
theorem pm13 (p) : mFun link (envP p) c13 Go.Proofs.Tryd.f7 = true := by kernel_rfl
theorem pm19 (p) : mFun link (envP p) c19 Go.Proofs.Tryd.f22 = true := by kernel_rfl
theorem pm20 (p) : mFun link (envP p) c20 Go.Proofs.Tryd.f19 = true := by kernel_rfl
theorem pm21 (p) : mFun link (envP p) c21 Go.Proofs.Tryd.f21 = true := by kernel_rfl
theorem pm22 (p) : mFun link (envP p) c22 Go.Proofs.Tryd.f20 = true := by kernel_rfl
theorem pm23 (p) : mFun link (envP p) c23 Go.Proofs.Tryd.f32 = true := by kernel_rfl
theorem pm24 (p) : mFun link (envP p) c24 Go.Proofs.Tryd.f33 = true := by kernel_rfl
theorem pm25 (p) : mFun link (envP p) c25 Go.Proofs.Tryd.f34 = true := by kernel_rfl
theorem pm26 (p) : mFun link (envP p) c26 Go.Proofs.Tryd.f31 = true := by kernel_rfl
theorem pm27 (p) : mFun link (envP p) c27 Go.Proofs.Tryd.f30 = true := by kernel_rfl
theorem pm28 (p) : mFun link (envP p) c28 Go.Proofs.Tryd.f27 = true := by kernel_rfl
theorem pm29 (p) : mFun link (envP p) c29 Go.Proofs.Tryd.f29 = true := by kernel_rfl
theorem pm30 (p) : mFun link (envP p) c30 Go.Proofs.Tryd.f28 = true := by kernel_rfl
theorem pm31 (p) : mFun link (envP p) c31 Go.Proofs.Tryd.f18 = true := by kernel_rfl
theorem pm37 (p) : mFun link (envP p) c37 Go.Proofs.Tryd.f39 = true := by kernel_rfl
theorem pm38 (p) : mFun link (envP p) c38 Go.Proofs.Tryd.f35 = true := by kernel_rfl
theorem pm43 (p) : mFun link (envP p) c43 Go.Proofs.Tryd.f36 = true := by kernel_rfl
theorem pm44 (p) : mFun link (envP p) c44 Go.Proofs.Tryd.f25 = true := by kernel_rfl
theorem pm45 (p) : mFun link (envP p) c45 Go.Proofs.Tryd.f37 = true := by kernel_rfl
theorem pm46 (p) : mFun link (envP p) c46 Go.Proofs.Tryd.f48 = true := by kernel_rfl
theorem pm47 (p) : mFun link (envP p) c47 Go.Proofs.Tryd.f47 = true := by kernel_rfl
theorem pm48 (p) : mFun link (envP p) c48 Go.Proofs.Tryd.f46 = true := by kernel_rfl
theorem pm49 (p) : mFun link (envP p) c49 Go.Proofs.Tryd.f45 = true := by kernel_rfl
theorem pm50 (p) : mFun link (envP p) c50 Go.Proofs.Tryd.f38 = true := by kernel_rfl
theorem pm51 (p) : mFun link (envP p) c51 Go.Proofs.Tryd.f44 = true := by kernel_rfl
theorem pm52 (p) : mFun link (envP p) c52 Go.Proofs.Tryd.f43 = true := by kernel_rfl
theorem pm53 (p) : mFun link (envP p) c53 Go.Proofs.Tryd.f70 = true := by kernel_rfl
theorem pm54 (p) : mFun link (envP p) c54 Go.Proofs.Tryd.f71 = true := by kernel_rfl
theorem pm55 (p) : mFun link (envP p) c55 Go.Proofs.Tryd.f49 = true := by kernel_rfl
theorem pm56 (p) : mFun link (envP p) c56 Go.Proofs.Tryd.f50 = true := by kernel_rfl
theorem pm66 (p) : mFun link (envP p) c66 Go.Proofs.Tryd.f40 = true := by kernel_rfl
theorem pm67 (p) : mFun link (envP p) c67 Go.Proofs.Tryd.f41 = true := by kernel_rfl
theorem pm68 (p) : mFun link (envP p) c68 Go.Proofs.Tryd.f51 = true := by kernel_rfl
theorem pm69 (p) : mFun link (envP p) c69 Go.Proofs.Tryd.f61 = true := by kernel_rfl
theorem pm70 (p) : mFun link (envP p) c70 Go.Proofs.Tryd.f62 = true := by kernel_rfl
theorem pm71 (p) : mFun link (envP p) c71 Go.Proofs.Tryd.f63 = true := by kernel_rfl
theorem pm72 (p) : mFun link (envP p) c72 Go.Proofs.Tryd.f64 = true := by kernel_rfl
theorem pm73 (p) : mFun link (envP p) c73 Go.Proofs.Tryd.f65 = true := by kernel_rfl
theorem pm74 (p) : mFun link (envP p) c74 Go.Proofs.Tryd.f66 = true := by kernel_rfl
theorem pm75 (p) : mFun link (envP p) c75 Go.Proofs.Tryd.f67 = true := by kernel_rfl
theorem pm76 (p) : mFun link (envP p) c76 Go.Proofs.Tryd.f68 = true := by kernel_rfl
theorem pm77 (p) : mFun link (envP p) c77 Go.Proofs.Tryd.f69 = true := by kernel_rfl
theorem pm78 (p) : mFun link (envP p) c78 Go.Proofs.Tryd.f74 = true := by kernel_rfl
theorem pm79 (p) : mFun link (envP p) c79 Go.Proofs.Tryd.f72 = true := by kernel_rfl
theorem pm80 (p) : mFun link (envP p) c80 Go.Proofs.Tryd.f73 = true := by kernel_rfl
theorem pm81 (p) : mFun link (envP p) c81 Go.Proofs.Tryd.f84 = true := by kernel_rfl
theorem pm82 (p) : mFun link (envP p) c82 Go.Proofs.Tryd.f85 = true := by kernel_rfl
theorem pm87 (p) : mFun link (envP p) c87 Go.Proofs.Tryd.f52 = true := by kernel_rfl
theorem pm88 (p) : mFun link (envP p) c88 Go.Proofs.Tryd.f53 = true := by kernel_rfl
theorem pm89 (p) : mFun link (envP p) c89 Go.Proofs.Tryd.f80 = true := by kernel_rfl
theorem pm90 (p) : mFun link (envP p) c90 Go.Proofs.Tryd.f81 = true := by kernel_rfl
theorem pm91 (p) : mFun link (envP p) c91 Go.Proofs.Tryd.f82 = true := by kernel_rfl
theorem pm92 (p) : mFun link (envP p) c92 Go.Proofs.Tryd.f83 = true := by kernel_rfl
theorem pm93 (p) : mFun link (envP p) c93 Go.Proofs.Tryd.f79 = true := by kernel_rfl
theorem pm99 (p) : mFun link (envP p) c99 Go.Proofs.Tryd.f89 = true := by kernel_rfl
theorem pm108 (p) : mFun link (envP p) c108 Go.Proofs.Tryd.f6 = true := by kernel_rfl
theorem pm109 (p) : mFun link (envP p) c109 Go.Proofs.Tryd.f20 = true := by kernel_rfl
theorem pm110 (p) : mFun link (envP p) c110 Go.Proofs.Tryd.f25 = true := by kernel_rfl
theorem pm111 (p) : mFun link (envP p) c111 Go.Proofs.Tryd.f41 = true := by kernel_rfl
theorem pm112 (p) : mFun link (envP p) c112 Go.Proofs.Tryd.f7 = true := by kernel_rfl
theorem pm113 (p) : mFun link (envP p) c113 Go.Proofs.Tryd.f14 = true := by kernel_rfl
theorem pm114 (p) : mFun link (envP p) c114 Go.Proofs.Tryd.f3 = true := by kernel_rfl
theorem pm115 (p) : mFun link (envP p) c115 Go.Proofs.Tryd.f8 = true := by kernel_rfl
theorem pm116 (p) : mFun link (envP p) c116 Go.Proofs.Tryd.f10 = true := by kernel_rfl
theorem pm117 (p) : mFun link (envP p) c117 Go.Proofs.Tryd.f12 = true := by kernel_rfl
theorem pm118 (p) : mFun link (envP p) c118 Go.Proofs.Tryd.f13 = true := by kernel_rfl
theorem pm119 (p) : mFun link (envP p) c119 Go.Proofs.Tryd.f24 = true := by kernel_rfl
theorem pm120 (p) : mFun link (envP p) c120 Go.Proofs.Tryd.f23 = true := by kernel_rfl
theorem pm121 (p) : mFun link (envP p) c121 Go.Proofs.Tryd.f26 = true := by kernel_rfl
theorem pm122 (p) : mFun link (envP p) c122 Go.Proofs.Tryd.f42 = true := by kernel_rfl
theorem pm125 (p) : mFun link (envP p) c125 Go.Proofs.Tryd.f56 = true := by kernel_rfl
theorem pm126 (p) : mFun link (envP p) c126 Go.Proofs.Tryd.f58 = true := by kernel_rfl
theorem pm127 (p) : mFun link (envP p) c127 Go.Proofs.Tryd.f57 = true := by kernel_rfl
theorem pm130 (p) : mFun link (envP p) c130 Go.Proofs.Tryd.f75 = true := by kernel_rfl
theorem pk3 : link.P.funcs[link.fn 3]? = some Go.Proofs.Tryd.f4 := by kernel_rfl
theorem pk4 : link.P.funcs[link.fn 4]? = some Go.Proofs.Tryd.f5 := by kernel_rfl
theorem pk6 : link.P.funcs[link.fn 6]? = some Go.Proofs.Tryd.f6 := by kernel_rfl
theorem pk7 : link.P.funcs[link.fn 7]? = some Go.Proofs.Tryd.f14 := by kernel_rfl
theorem pk8 : link.P.funcs[link.fn 8]? = some Go.Proofs.Tryd.f9 := by kernel_rfl
theorem pk9 : link.P.funcs[link.fn 9]? = some Go.Proofs.Tryd.f15 := by kernel_rfl
theorem pk10 : link.P.funcs[link.fn 10]? = some Go.Proofs.Tryd.f17 := by kernel_rfl
theorem pk11 : link.P.funcs[link.fn 11]? = some Go.Proofs.Tryd.f16 := by kernel_rfl
theorem pk12 : link.P.funcs[link.fn 12]? = some Go.Proofs.Tryd.f11 := by kernel_rfl
theorem pk13 : link.P.funcs[link.fn 13]? = some Go.Proofs.Tryd.f7 := by kernel_rfl
theorem pk19 : link.P.funcs[link.fn 19]? = some Go.Proofs.Tryd.f22 := by kernel_rfl
theorem pk20 : link.P.funcs[link.fn 20]? = some Go.Proofs.Tryd.f19 := by kernel_rfl
theorem pk21 : link.P.funcs[link.fn 21]? = some Go.Proofs.Tryd.f21 := by kernel_rfl
theorem pk22 : link.P.funcs[link.fn 22]? = some Go.Proofs.Tryd.f20 := by kernel_rfl
theorem pk23 : link.P.funcs[link.fn 23]? = some Go.Proofs.Tryd.f32 := by kernel_rfl
theorem pk24 : link.P.funcs[link.fn 24]? = some Go.Proofs.Tryd.f33 := by kernel_rfl
theorem pk25 : link.P.funcs[link.fn 25]? = some Go.Proofs.Tryd.f34 := by kernel_rfl
theorem pk26 : link.P.funcs[link.fn 26]? = some Go.Proofs.Tryd.f31 := by kernel_rfl
theorem pk27 : link.P.funcs[link.fn 27]? = some Go.Proofs.Tryd.f30 := by kernel_rfl
theorem pk28 : link.P.funcs[link.fn 28]? = some Go.Proofs.Tryd.f27 := by kernel_rfl
theorem pk29 : link.P.funcs[link.fn 29]? = some Go.Proofs.Tryd.f29 := by kernel_rfl
theorem pk30 : link.P.funcs[link.fn 30]? = some Go.Proofs.Tryd.f28 := by kernel_rfl
theorem pk31 : link.P.funcs[link.fn 31]? = some Go.Proofs.Tryd.f18 := by kernel_rfl
theorem pk37 : link.P.funcs[link.fn 37]? = some Go.Proofs.Tryd.f39 := by kernel_rfl
theorem pk38 : link.P.funcs[link.fn 38]? = some Go.Proofs.Tryd.f35 := by kernel_rfl
theorem pk43 : link.P.funcs[link.fn 43]? = some Go.Proofs.Tryd.f36 := by kernel_rfl
theorem pk44 : link.P.funcs[link.fn 44]? = some Go.Proofs.Tryd.f25 := by kernel_rfl
theorem pk45 : link.P.funcs[link.fn 45]? = some Go.Proofs.Tryd.f37 := by kernel_rfl
theorem pk46 : link.P.funcs[link.fn 46]? = some Go.Proofs.Tryd.f48 := by kernel_rfl
theorem pk47 : link.P.funcs[link.fn 47]? = some Go.Proofs.Tryd.f47 := by kernel_rfl
theorem pk48 : link.P.funcs[link.fn 48]? = some Go.Proofs.Tryd.f46 := by kernel_rfl
theorem pk49 : link.P.funcs[link.fn 49]? = some Go.Proofs.Tryd.f45 := by kernel_rfl
theorem pk50 : link.P.funcs[link.fn 50]? = some Go.Proofs.Tryd.f38 := by kernel_rfl
theorem pk51 : link.P.funcs[link.fn 51]? = some Go.Proofs.Tryd.f44 := by kernel_rfl
theorem pk52 : link.P.funcs[link.fn 52]? = some Go.Proofs.Tryd.f43 := by kernel_rfl
theorem pk53 : link.P.funcs[link.fn 53]? = some Go.Proofs.Tryd.f70 := by kernel_rfl
theorem pk54 : link.P.funcs[link.fn 54]? = some Go.Proofs.Tryd.f71 := by kernel_rfl
theorem pk55 : link.P.funcs[link.fn 55]? = some Go.Proofs.Tryd.f49 := by kernel_rfl
theorem pk56 : link.P.funcs[link.fn 56]? = some Go.Proofs.Tryd.f50 := by kernel_rfl
theorem pk66 : link.P.funcs[link.fn 66]? = some Go.Proofs.Tryd.f40 := by kernel_rfl
theorem pk67 : link.P.funcs[link.fn 67]? = some Go.Proofs.Tryd.f41 := by kernel_rfl
theorem pk68 : link.P.funcs[link.fn 68]? = some Go.Proofs.Tryd.f51 := by kernel_rfl
theorem pk69 : link.P.funcs[link.fn 69]? = some Go.Proofs.Tryd.f61 := by kernel_rfl
theorem pk70 : link.P.funcs[link.fn 70]? = some Go.Proofs.Tryd.f62 := by kernel_rfl
theorem pk71 : link.P.funcs[link.fn 71]? = some Go.Proofs.Tryd.f63 := by kernel_rfl
theorem pk72 : link.P.funcs[link.fn 72]? = some Go.Proofs.Tryd.f64 := by kernel_rfl
theorem pk73 : link.P.funcs[link.fn 73]? = some Go.Proofs.Tryd.f65 := by kernel_rfl
theorem pk74 : link.P.funcs[link.fn 74]? = some Go.Proofs.Tryd.f66 := by kernel_rfl
theorem pk75 : link.P.funcs[link.fn 75]? = some Go.Proofs.Tryd.f67 := by kernel_rfl
theorem pk76 : link.P.funcs[link.fn 76]? = some Go.Proofs.Tryd.f68 := by kernel_rfl
theorem pk77 : link.P.funcs[link.fn 77]? = some Go.Proofs.Tryd.f69 := by kernel_rfl
theorem pk78 : link.P.funcs[link.fn 78]? = some Go.Proofs.Tryd.f74 := by kernel_rfl
theorem pk79 : link.P.funcs[link.fn 79]? = some Go.Proofs.Tryd.f72 := by kernel_rfl
theorem pk80 : link.P.funcs[link.fn 80]? = some Go.Proofs.Tryd.f73 := by kernel_rfl
theorem pk81 : link.P.funcs[link.fn 81]? = some Go.Proofs.Tryd.f84 := by kernel_rfl
theorem pk82 : link.P.funcs[link.fn 82]? = some Go.Proofs.Tryd.f85 := by kernel_rfl
theorem pk87 : link.P.funcs[link.fn 87]? = some Go.Proofs.Tryd.f52 := by kernel_rfl
theorem pk88 : link.P.funcs[link.fn 88]? = some Go.Proofs.Tryd.f53 := by kernel_rfl
theorem pk89 : link.P.funcs[link.fn 89]? = some Go.Proofs.Tryd.f80 := by kernel_rfl
theorem pk90 : link.P.funcs[link.fn 90]? = some Go.Proofs.Tryd.f81 := by kernel_rfl
theorem pk91 : link.P.funcs[link.fn 91]? = some Go.Proofs.Tryd.f82 := by kernel_rfl
theorem pk92 : link.P.funcs[link.fn 92]? = some Go.Proofs.Tryd.f83 := by kernel_rfl
theorem pk93 : link.P.funcs[link.fn 93]? = some Go.Proofs.Tryd.f79 := by kernel_rfl
theorem pk99 : link.P.funcs[link.fn 99]? = some Go.Proofs.Tryd.f89 := by kernel_rfl
theorem pk108 : link.P.funcs[link.fn 108]? = some Go.Proofs.Tryd.f6 := by kernel_rfl
theorem pk109 : link.P.funcs[link.fn 109]? = some Go.Proofs.Tryd.f20 := by kernel_rfl
theorem pk110 : link.P.funcs[link.fn 110]? = some Go.Proofs.Tryd.f25 := by kernel_rfl
theorem pk111 : link.P.funcs[link.fn 111]? = some Go.Proofs.Tryd.f41 := by kernel_rfl
theorem pk112 : link.P.funcs[link.fn 112]? = some Go.Proofs.Tryd.f7 := by kernel_rfl
theorem pk113 : link.P.funcs[link.fn 113]? = some Go.Proofs.Tryd.f14 := by kernel_rfl
theorem pk114 : link.P.funcs[link.fn 114]? = some Go.Proofs.Tryd.f3 := by kernel_rfl
theorem pk115 : link.P.funcs[link.fn 115]? = some Go.Proofs.Tryd.f8 := by kernel_rfl
theorem pk116 : link.P.funcs[link.fn 116]? = some Go.Proofs.Tryd.f10 := by kernel_rfl
theorem pk117 : link.P.funcs[link.fn 117]? = some Go.Proofs.Tryd.f12 := by kernel_rfl
theorem pk118 : link.P.funcs[link.fn 118]? = some Go.Proofs.Tryd.f13 := by kernel_rfl
theorem pk119 : link.P.funcs[link.fn 119]? = some Go.Proofs.Tryd.f24 := by kernel_rfl
theorem pk120 : link.P.funcs[link.fn 120]? = some Go.Proofs.Tryd.f23 := by kernel_rfl
theorem pk121 : link.P.funcs[link.fn 121]? = some Go.Proofs.Tryd.f26 := by kernel_rfl
theorem pk122 : link.P.funcs[link.fn 122]? = some Go.Proofs.Tryd.f42 := by kernel_rfl
theorem pk125 : link.P.funcs[link.fn 125]? = some Go.Proofs.Tryd.f56 := by kernel_rfl
theorem pk126 : link.P.funcs[link.fn 126]? = some Go.Proofs.Tryd.f58 := by kernel_rfl
theorem pk127 : link.P.funcs[link.fn 127]? = some Go.Proofs.Tryd.f57 := by kernel_rfl
theorem pk130 : link.P.funcs[link.fn 130]? = some Go.Proofs.Tryd.f75 := by kernel_rfl
theorem fits (p) : AllI (fun g f => ∃ fn, link.P.funcs[link.fn g]? = some fn ∧ mFun link (envP p) f fn = true) 0 fnTab := ⟨⟨_, pk3, pm3 p⟩, ⟨_, pk4, pm4 p⟩, ⟨_, pk6, pm6 p⟩, ⟨_, pk7, pm7 p⟩, ⟨_, pk8, pm8 p⟩, ⟨_, pk9, pm9 p⟩, ⟨_, pk10, pm10 p⟩, ⟨_, pk11, pm11 p⟩, ⟨_, pk12, pm12 p⟩, ⟨_, pk13, pm13 p⟩, ⟨_, pk19, pm19 p⟩, ⟨_, pk20, pm20 p⟩, ⟨_, pk21, pm21 p⟩, ⟨_, pk22, pm22 p⟩, ⟨_, pk23, pm23 p⟩, ⟨_, pk24, pm24 p⟩, ⟨_, pk25, pm25 p⟩, ⟨_, pk26, pm26 p⟩, ⟨_, pk27, pm27 p⟩, ⟨_, pk28, pm28 p⟩, ⟨_, pk29, pm29 p⟩, ⟨_, pk30, pm30 p⟩, ⟨_, pk31, pm31 p⟩, ⟨_, pk37, pm37 p⟩, ⟨_, pk38, pm38 p⟩, ⟨_, pk43, pm43 p⟩, ⟨_, pk44, pm44 p⟩, ⟨_, pk45, pm45 p⟩, ⟨_, pk46, pm46 p⟩, ⟨_, pk47, pm47 p⟩, ⟨_, pk48, pm48 p⟩, ⟨_, pk49, pm49 p⟩, ⟨_, pk50, pm50 p⟩, ⟨_, pk51, pm51 p⟩, ⟨_, pk52, pm52 p⟩, ⟨_, pk53, pm53 p⟩, ⟨_, pk54, pm54 p⟩, ⟨_, pk55, pm55 p⟩, ⟨_, pk56, pm56 p⟩, ⟨_, pk66, pm66 p⟩, ⟨_, pk67, pm67 p⟩, ⟨_, pk68, pm68 p⟩, ⟨_, pk69, pm69 p⟩, ⟨_, pk70, pm70 p⟩, ⟨_, pk71, pm71 p⟩, ⟨_, pk72, pm72 p⟩, ⟨_, pk73, pm73 p⟩, ⟨_, pk74, pm74 p⟩, ⟨_, pk75, pm75 p⟩, ⟨_, pk76, pm76 p⟩, ⟨_, pk77, pm77 p⟩, ⟨_, pk78, pm78 p⟩, ⟨_, pk79, pm79 p⟩, ⟨_, pk80, pm80 p⟩, ⟨_, pk81, pm81 p⟩, ⟨_, pk82, pm82 p⟩, ⟨_, pk87, pm87 p⟩, ⟨_, pk88, pm88 p⟩, ⟨_, pk89, pm89 p⟩, ⟨_, pk90, pm90 p⟩, ⟨_, pk91, pm91 p⟩, ⟨_, pk92, pm92 p⟩, ⟨_, pk93, pm93 p⟩, ⟨_, pk99, pm99 p⟩, ⟨_, pk108, pm108 p⟩, ⟨_, pk109, pm109 p⟩, ⟨_, pk110, pm110 p⟩, ⟨_, pk111, pm111 p⟩, ⟨_, pk112, pm112 p⟩, ⟨_, pk113, pm113 p⟩, ⟨_, pk114, pm114 p⟩, ⟨_, pk115, pm115 p⟩, ⟨_, pk116, pm116 p⟩, ⟨_, pk117, pm117 p⟩, ⟨_, pk118, pm118 p⟩, ⟨_, pk119, pm119 p⟩, ⟨_, pk120, pm120 p⟩, ⟨_, pk121, pm121 p⟩, ⟨_, pk122, pm122 p⟩, ⟨_, pk125, pm125 p⟩, ⟨_, pk126, pm126 p⟩, ⟨_, pk127, pm127 p⟩, ⟨_, pk130, pm130 p⟩, trivial⟩
end Go.AM.T

/- The first seat's program fits, whatever is known of the library by itself. -/
namespace Go.AM.T
theorem fit0 : Fit link env0 where
  mixed := Go.Proofs.Tryd.checked.mixed
  glob _ _ h := by cases h
  prim _ _ h := by cases h
  fn g f h := by
    have := (fits fun _ => none).get (j := g) (f := f) h
    rwa [Nat.zero_add] at this
end Go.AM.T
