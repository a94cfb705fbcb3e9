/- The seat's program and the A-machine's functions. -/
import Derived.Test.YtbdpkblldffkcaaGreatDoorAd
import Derived.Test.YtbdpkblldffkcaaGreatDoorTa
import Derived.Test.YtbdpkblldffkcaaGreatDoorChecked
import Derived.KernelRfl
import Derived.Laws.Externs
set_option linter.unusedSectionVars false
set_option linter.unnecessarySimpa false
set_option linter.deprecated false
set_option linter.unusedVariables false
set_option linter.unusedSimpArgs false
namespace Go.AM.T
noncomputable def link : Link := ⟨Go.Proofs.Tryz.prog, fun g => fnIx.getD g 0, fun t => t⟩
end Go.AM.T

/- MADE BY amfit.py: each function of the program is what the A-machine runs. -/
namespace Go.AM.T
theorem pm9 (p) : mFun link (envP p) c9 Go.Proofs.Tryz.f7 = true := by kernel_rfl
theorem pm38 (p) : mFun link (envP p) c38 Go.Proofs.Tryz.f11 = true := by kernel_rfl
theorem pm50 (p) : mFun link (envP p) c50 Go.Proofs.Tryz.f29 = true := by kernel_rfl
theorem pm55 (p) : mFun link (envP p) c55 Go.Proofs.Tryz.f21 = true := by kernel_rfl
theorem pm56 (p) : mFun link (envP p) c56 Go.Proofs.Tryz.f22 = true := by kernel_rfl
theorem pm82 (p) : mFun link (envP p) c82 Go.Proofs.Tryz.f61 = true := by kernel_rfl
theorem pm125 (p) : mFun link (envP p) c125 Go.Proofs.Tryz.f88 = true := by kernel_rfl
theorem pm127 (p) : mFun link (envP p) c127 Go.Proofs.Tryz.f89 = true := by kernel_rfl
theorem pm130 (p) : mFun link (envP p) c130 Go.Proofs.Tryz.f95 = true := by kernel_rfl
theorem pm140 (p) : mFun link (envP p) c140 Go.Proofs.Tryz.f3 = true := by kernel_rfl
theorem pm141 (p) : mFun link (envP p) c141 Go.Proofs.Tryz.f4 = true := by kernel_rfl
theorem pm142 (p) : mFun link (envP p) c142 Go.Proofs.Tryz.f5 = true := by kernel_rfl
theorem pm143 (p) : mFun link (envP p) c143 Go.Proofs.Tryz.f6 = true := by kernel_rfl
theorem pm144 (p) : mFun link (envP p) c144 Go.Proofs.Tryz.f9 = true := by kernel_rfl
theorem pm145 (p) : mFun link (envP p) c145 Go.Proofs.Tryz.f10 = true := by kernel_rfl
theorem pm146 (p) : mFun link (envP p) c146 Go.Proofs.Tryz.f8 = true := by kernel_rfl
theorem pm147 (p) : mFun link (envP p) c147 Go.Proofs.Tryz.f12 = true := by kernel_rfl
theorem pm148 (p) : mFun link (envP p) c148 Go.Proofs.Tryz.f13 = true := by kernel_rfl
theorem pm149 (p) : mFun link (envP p) c149 Go.Proofs.Tryz.f14 = true := by kernel_rfl
theorem pm150 (p) : mFun link (envP p) c150 Go.Proofs.Tryz.f15 = true := by kernel_rfl
theorem pm151 (p) : mFun link (envP p) c151 Go.Proofs.Tryz.f16 = true := by kernel_rfl
theorem pm152 (p) : mFun link (envP p) c152 Go.Proofs.Tryz.f17 = true := by kernel_rfl
theorem pm153 (p) : mFun link (envP p) c153 Go.Proofs.Tryz.f18 = true := by kernel_rfl
theorem pm154 (p) : mFun link (envP p) c154 Go.Proofs.Tryz.f19 = true := by kernel_rfl
theorem pm155 (p) : mFun link (envP p) c155 Go.Proofs.Tryz.f20 = true := by kernel_rfl
theorem pm156 (p) : mFun link (envP p) c156 Go.Proofs.Tryz.f24 = true := by kernel_rfl
theorem pm157 (p) : mFun link (envP p) c157 Go.Proofs.Tryz.f25 = true := by kernel_rfl
theorem pm158 (p) : mFun link (envP p) c158 Go.Proofs.Tryz.f26 = true := by kernel_rfl
theorem pm159 (p) : mFun link (envP p) c159 Go.Proofs.Tryz.f27 = true := by kernel_rfl
theorem pm160 (p) : mFun link (envP p) c160 Go.Proofs.Tryz.f28 = true := by kernel_rfl
theorem pm161 (p) : mFun link (envP p) c161 Go.Proofs.Tryz.f30 = true := by kernel_rfl
theorem pm162 (p) : mFun link (envP p) c162 Go.Proofs.Tryz.f32 = true := by kernel_rfl
theorem pm163 (p) : mFun link (envP p) c163 Go.Proofs.Tryz.f31 = true := by kernel_rfl
theorem pm164 (p) : mFun link (envP p) c164 Go.Proofs.Tryz.f34 = true := by kernel_rfl
theorem pm165 (p) : mFun link (envP p) c165 Go.Proofs.Tryz.f35 = true := by kernel_rfl
theorem pm166 (p) : mFun link (envP p) c166 Go.Proofs.Tryz.f23 = true := by kernel_rfl
theorem pm167 (p) : mFun link (envP p) c167 Go.Proofs.Tryz.f38 = true := by kernel_rfl
theorem pm168 (p) : mFun link (envP p) c168 Go.Proofs.Tryz.f33 = true := by kernel_rfl
theorem pm169 (p) : mFun link (envP p) c169 Go.Proofs.Tryz.f39 = true := by kernel_rfl
theorem pm170 (p) : mFun link (envP p) c170 Go.Proofs.Tryz.f40 = true := by kernel_rfl
theorem pm171 (p) : mFun link (envP p) c171 Go.Proofs.Tryz.f42 = true := by kernel_rfl
theorem pm172 (p) : mFun link (envP p) c172 Go.Proofs.Tryz.f36 = true := by kernel_rfl
theorem pm173 (p) : mFun link (envP p) c173 Go.Proofs.Tryz.f37 = true := by kernel_rfl
theorem pm174 (p) : mFun link (envP p) c174 Go.Proofs.Tryz.f45 = true := by kernel_rfl
theorem pm175 (p) : mFun link (envP p) c175 Go.Proofs.Tryz.f46 = true := by kernel_rfl
theorem pm176 (p) : mFun link (envP p) c176 Go.Proofs.Tryz.f47 = true := by kernel_rfl
theorem pm177 (p) : mFun link (envP p) c177 Go.Proofs.Tryz.f48 = true := by kernel_rfl
theorem pm178 (p) : mFun link (envP p) c178 Go.Proofs.Tryz.f49 = true := by kernel_rfl
theorem pm179 (p) : mFun link (envP p) c179 Go.Proofs.Tryz.f50 = true := by kernel_rfl
theorem pm180 (p) : mFun link (envP p) c180 Go.Proofs.Tryz.f51 = true := by kernel_rfl
theorem pm181 (p) : mFun link (envP p) c181 Go.Proofs.Tryz.f52 = true := by kernel_rfl
theorem pm182 (p) : mFun link (envP p) c182 Go.Proofs.Tryz.f53 = true := by kernel_rfl
theorem pm183 (p) : mFun link (envP p) c183 Go.Proofs.Tryz.f54 = true := by kernel_rfl
theorem pm184 (p) : mFun link (envP p) c184 Go.Proofs.Tryz.f55 = true := by kernel_rfl
theorem pm185 (p) : mFun link (envP p) c185 Go.Proofs.Tryz.f41 = true := by kernel_rfl
theorem pm186 (p) : mFun link (envP p) c186 Go.Proofs.Tryz.f43 = true := by kernel_rfl
theorem pm187 (p) : mFun link (envP p) c187 Go.Proofs.Tryz.f44 = true := by kernel_rfl
theorem pm188 (p) : mFun link (envP p) c188 Go.Proofs.Tryz.f56 = true := by kernel_rfl
theorem pm189 (p) : mFun link (envP p) c189 Go.Proofs.Tryz.f64 = true := by kernel_rfl
theorem pm190 (p) : mFun link (envP p) c190 Go.Proofs.Tryz.f63 = true := by kernel_rfl
theorem pm191 (p) : mFun link (envP p) c191 Go.Proofs.Tryz.f65 = true := by kernel_rfl
theorem pm192 (p) : mFun link (envP p) c192 Go.Proofs.Tryz.f66 = true := by kernel_rfl
theorem pm193 (p) : mFun link (envP p) c193 Go.Proofs.Tryz.f62 = true := by kernel_rfl
theorem pm194 (p) : mFun link (envP p) c194 Go.Proofs.Tryz.f67 = true := by kernel_rfl
theorem pm195 (p) : mFun link (envP p) c195 Go.Proofs.Tryz.f68 = true := by kernel_rfl
theorem pm196 (p) : mFun link (envP p) c196 Go.Proofs.Tryz.f58 = true := by kernel_rfl
theorem pm197 (p) : mFun link (envP p) c197 Go.Proofs.Tryz.f57 = true := by kernel_rfl
theorem pm198 (p) : mFun link (envP p) c198 Go.Proofs.Tryz.f59 = true := by kernel_rfl
theorem pm199 (p) : mFun link (envP p) c199 Go.Proofs.Tryz.f60 = true := by kernel_rfl
theorem pm200 (p) : mFun link (envP p) c200 Go.Proofs.Tryz.f69 = true := by kernel_rfl
theorem pm202 (p) : mFun link (envP p) c202 Go.Proofs.Tryz.f76 = true := by kernel_rfl
theorem pm204 (p) : mFun link (envP p) c204 Go.Proofs.Tryz.f72 = true := by kernel_rfl
theorem pm205 (p) : mFun link (envP p) c205 Go.Proofs.Tryz.f71 = true := by kernel_rfl
theorem pm206 (p) : mFun link (envP p) c206 Go.Proofs.Tryz.f73 = true := by kernel_rfl
theorem pm209 (p) : mFun link (envP p) c209 Go.Proofs.Tryz.f80 = true := by kernel_rfl
theorem pm210 (p) : mFun link (envP p) c210 Go.Proofs.Tryz.f79 = true := by kernel_rfl
theorem pm212 (p) : mFun link (envP p) c212 Go.Proofs.Tryz.f83 = true := by kernel_rfl
theorem pm213 (p) : mFun link (envP p) c213 Go.Proofs.Tryz.f85 = true := by kernel_rfl
theorem pm215 (p) : mFun link (envP p) c215 Go.Proofs.Tryz.f86 = true := by kernel_rfl
theorem pk9 : link.P.funcs[link.fn 9]? = some Go.Proofs.Tryz.f7 := by kernel_rfl
theorem pk38 : link.P.funcs[link.fn 38]? = some Go.Proofs.Tryz.f11 := by kernel_rfl
theorem pk50 : link.P.funcs[link.fn 50]? = some Go.Proofs.Tryz.f29 := by kernel_rfl
theorem pk55 : link.P.funcs[link.fn 55]? = some Go.Proofs.Tryz.f21 := by kernel_rfl
theorem pk56 : link.P.funcs[link.fn 56]? = some Go.Proofs.Tryz.f22 := by kernel_rfl
theorem pk82 : link.P.funcs[link.fn 82]? = some Go.Proofs.Tryz.f61 := by kernel_rfl
theorem pk125 : link.P.funcs[link.fn 125]? = some Go.Proofs.Tryz.f88 := by kernel_rfl
theorem pk127 : link.P.funcs[link.fn 127]? = some Go.Proofs.Tryz.f89 := by kernel_rfl
theorem pk130 : link.P.funcs[link.fn 130]? = some Go.Proofs.Tryz.f95 := by kernel_rfl
theorem pk140 : link.P.funcs[link.fn 140]? = some Go.Proofs.Tryz.f3 := by kernel_rfl
theorem pk141 : link.P.funcs[link.fn 141]? = some Go.Proofs.Tryz.f4 := by kernel_rfl
theorem pk142 : link.P.funcs[link.fn 142]? = some Go.Proofs.Tryz.f5 := by kernel_rfl
theorem pk143 : link.P.funcs[link.fn 143]? = some Go.Proofs.Tryz.f6 := by kernel_rfl
theorem pk144 : link.P.funcs[link.fn 144]? = some Go.Proofs.Tryz.f9 := by kernel_rfl
theorem pk145 : link.P.funcs[link.fn 145]? = some Go.Proofs.Tryz.f10 := by kernel_rfl
theorem pk146 : link.P.funcs[link.fn 146]? = some Go.Proofs.Tryz.f8 := by kernel_rfl
theorem pk147 : link.P.funcs[link.fn 147]? = some Go.Proofs.Tryz.f12 := by kernel_rfl
theorem pk148 : link.P.funcs[link.fn 148]? = some Go.Proofs.Tryz.f13 := by kernel_rfl
theorem pk149 : link.P.funcs[link.fn 149]? = some Go.Proofs.Tryz.f14 := by kernel_rfl
theorem pk150 : link.P.funcs[link.fn 150]? = some Go.Proofs.Tryz.f15 := by kernel_rfl
theorem pk151 : link.P.funcs[link.fn 151]? = some Go.Proofs.Tryz.f16 := by kernel_rfl
theorem pk152 : link.P.funcs[link.fn 152]? = some Go.Proofs.Tryz.f17 := by kernel_rfl
theorem pk153 : link.P.funcs[link.fn 153]? = some Go.Proofs.Tryz.f18 := by kernel_rfl
theorem pk154 : link.P.funcs[link.fn 154]? = some Go.Proofs.Tryz.f19 := by kernel_rfl
theorem pk155 : link.P.funcs[link.fn 155]? = some Go.Proofs.Tryz.f20 := by kernel_rfl
theorem pk156 : link.P.funcs[link.fn 156]? = some Go.Proofs.Tryz.f24 := by kernel_rfl
theorem pk157 : link.P.funcs[link.fn 157]? = some Go.Proofs.Tryz.f25 := by kernel_rfl
theorem pk158 : link.P.funcs[link.fn 158]? = some Go.Proofs.Tryz.f26 := by kernel_rfl
theorem pk159 : link.P.funcs[link.fn 159]? = some Go.Proofs.Tryz.f27 := by kernel_rfl
theorem pk160 : link.P.funcs[link.fn 160]? = some Go.Proofs.Tryz.f28 := by kernel_rfl
theorem pk161 : link.P.funcs[link.fn 161]? = some Go.Proofs.Tryz.f30 := by kernel_rfl
theorem pk162 : link.P.funcs[link.fn 162]? = some Go.Proofs.Tryz.f32 := by kernel_rfl
theorem pk163 : link.P.funcs[link.fn 163]? = some Go.Proofs.Tryz.f31 := by kernel_rfl
theorem pk164 : link.P.funcs[link.fn 164]? = some Go.Proofs.Tryz.f34 := by kernel_rfl
theorem pk165 : link.P.funcs[link.fn 165]? = some Go.Proofs.Tryz.f35 := by kernel_rfl
theorem pk166 : link.P.funcs[link.fn 166]? = some Go.Proofs.Tryz.f23 := by kernel_rfl
theorem pk167 : link.P.funcs[link.fn 167]? = some Go.Proofs.Tryz.f38 := by kernel_rfl
theorem pk168 : link.P.funcs[link.fn 168]? = some Go.Proofs.Tryz.f33 := by kernel_rfl
theorem pk169 : link.P.funcs[link.fn 169]? = some Go.Proofs.Tryz.f39 := by kernel_rfl
theorem pk170 : link.P.funcs[link.fn 170]? = some Go.Proofs.Tryz.f40 := by kernel_rfl
theorem pk171 : link.P.funcs[link.fn 171]? = some Go.Proofs.Tryz.f42 := by kernel_rfl
theorem pk172 : link.P.funcs[link.fn 172]? = some Go.Proofs.Tryz.f36 := by kernel_rfl
theorem pk173 : link.P.funcs[link.fn 173]? = some Go.Proofs.Tryz.f37 := by kernel_rfl
theorem pk174 : link.P.funcs[link.fn 174]? = some Go.Proofs.Tryz.f45 := by kernel_rfl
theorem pk175 : link.P.funcs[link.fn 175]? = some Go.Proofs.Tryz.f46 := by kernel_rfl
theorem pk176 : link.P.funcs[link.fn 176]? = some Go.Proofs.Tryz.f47 := by kernel_rfl
theorem pk177 : link.P.funcs[link.fn 177]? = some Go.Proofs.Tryz.f48 := by kernel_rfl
theorem pk178 : link.P.funcs[link.fn 178]? = some Go.Proofs.Tryz.f49 := by kernel_rfl
theorem pk179 : link.P.funcs[link.fn 179]? = some Go.Proofs.Tryz.f50 := by kernel_rfl
theorem pk180 : link.P.funcs[link.fn 180]? = some Go.Proofs.Tryz.f51 := by kernel_rfl
theorem pk181 : link.P.funcs[link.fn 181]? = some Go.Proofs.Tryz.f52 := by kernel_rfl
theorem pk182 : link.P.funcs[link.fn 182]? = some Go.Proofs.Tryz.f53 := by kernel_rfl
theorem pk183 : link.P.funcs[link.fn 183]? = some Go.Proofs.Tryz.f54 := by kernel_rfl
theorem pk184 : link.P.funcs[link.fn 184]? = some Go.Proofs.Tryz.f55 := by kernel_rfl
theorem pk185 : link.P.funcs[link.fn 185]? = some Go.Proofs.Tryz.f41 := by kernel_rfl
theorem pk186 : link.P.funcs[link.fn 186]? = some Go.Proofs.Tryz.f43 := by kernel_rfl
theorem pk187 : link.P.funcs[link.fn 187]? = some Go.Proofs.Tryz.f44 := by kernel_rfl
theorem pk188 : link.P.funcs[link.fn 188]? = some Go.Proofs.Tryz.f56 := by kernel_rfl
theorem pk189 : link.P.funcs[link.fn 189]? = some Go.Proofs.Tryz.f64 := by kernel_rfl
theorem pk190 : link.P.funcs[link.fn 190]? = some Go.Proofs.Tryz.f63 := by kernel_rfl
theorem pk191 : link.P.funcs[link.fn 191]? = some Go.Proofs.Tryz.f65 := by kernel_rfl
theorem pk192 : link.P.funcs[link.fn 192]? = some Go.Proofs.Tryz.f66 := by kernel_rfl
theorem pk193 : link.P.funcs[link.fn 193]? = some Go.Proofs.Tryz.f62 := by kernel_rfl
theorem pk194 : link.P.funcs[link.fn 194]? = some Go.Proofs.Tryz.f67 := by kernel_rfl
theorem pk195 : link.P.funcs[link.fn 195]? = some Go.Proofs.Tryz.f68 := by kernel_rfl
theorem pk196 : link.P.funcs[link.fn 196]? = some Go.Proofs.Tryz.f58 := by kernel_rfl
theorem pk197 : link.P.funcs[link.fn 197]? = some Go.Proofs.Tryz.f57 := by kernel_rfl
theorem pk198 : link.P.funcs[link.fn 198]? = some Go.Proofs.Tryz.f59 := by kernel_rfl
theorem pk199 : link.P.funcs[link.fn 199]? = some Go.Proofs.Tryz.f60 := by kernel_rfl
theorem pk200 : link.P.funcs[link.fn 200]? = some Go.Proofs.Tryz.f69 := by kernel_rfl
theorem pk202 : link.P.funcs[link.fn 202]? = some Go.Proofs.Tryz.f76 := by kernel_rfl
theorem pk204 : link.P.funcs[link.fn 204]? = some Go.Proofs.Tryz.f72 := by kernel_rfl
theorem pk205 : link.P.funcs[link.fn 205]? = some Go.Proofs.Tryz.f71 := by kernel_rfl
theorem pk206 : link.P.funcs[link.fn 206]? = some Go.Proofs.Tryz.f73 := by kernel_rfl
theorem pk209 : link.P.funcs[link.fn 209]? = some Go.Proofs.Tryz.f80 := by kernel_rfl
theorem pk210 : link.P.funcs[link.fn 210]? = some Go.Proofs.Tryz.f79 := by kernel_rfl
theorem pk212 : link.P.funcs[link.fn 212]? = some Go.Proofs.Tryz.f83 := by kernel_rfl
theorem pk213 : link.P.funcs[link.fn 213]? = some Go.Proofs.Tryz.f85 := by kernel_rfl
theorem pk215 : link.P.funcs[link.fn 215]? = some Go.Proofs.Tryz.f86 := by kernel_rfl
theorem fits (p) : AllI (fun g f => ∃ fn, link.P.funcs[link.fn g]? = some fn ∧ mFun link (envP p) f fn = true) 0 fnTab := ⟨⟨_, pk9, pm9 p⟩, ⟨_, pk38, pm38 p⟩, ⟨_, pk50, pm50 p⟩, ⟨_, pk55, pm55 p⟩, ⟨_, pk56, pm56 p⟩, ⟨_, pk82, pm82 p⟩, ⟨_, pk125, pm125 p⟩, ⟨_, pk127, pm127 p⟩, ⟨_, pk130, pm130 p⟩, ⟨_, pk140, pm140 p⟩, ⟨_, pk141, pm141 p⟩, ⟨_, pk142, pm142 p⟩, ⟨_, pk143, pm143 p⟩, ⟨_, pk144, pm144 p⟩, ⟨_, pk145, pm145 p⟩, ⟨_, pk146, pm146 p⟩, ⟨_, pk147, pm147 p⟩, ⟨_, pk148, pm148 p⟩, ⟨_, pk149, pm149 p⟩, ⟨_, pk150, pm150 p⟩, ⟨_, pk151, pm151 p⟩, ⟨_, pk152, pm152 p⟩, ⟨_, pk153, pm153 p⟩, ⟨_, pk154, pm154 p⟩, ⟨_, pk155, pm155 p⟩, ⟨_, pk156, pm156 p⟩, ⟨_, pk157, pm157 p⟩, ⟨_, pk158, pm158 p⟩, ⟨_, pk159, pm159 p⟩, ⟨_, pk160, pm160 p⟩, ⟨_, pk161, pm161 p⟩, ⟨_, pk162, pm162 p⟩, ⟨_, pk163, pm163 p⟩, ⟨_, pk164, pm164 p⟩, ⟨_, pk165, pm165 p⟩, ⟨_, pk166, pm166 p⟩, ⟨_, pk167, pm167 p⟩, ⟨_, pk168, pm168 p⟩, ⟨_, pk169, pm169 p⟩, ⟨_, pk170, pm170 p⟩, ⟨_, pk171, pm171 p⟩, ⟨_, pk172, pm172 p⟩, ⟨_, pk173, pm173 p⟩, ⟨_, pk174, pm174 p⟩, ⟨_, pk175, pm175 p⟩, ⟨_, pk176, pm176 p⟩, ⟨_, pk177, pm177 p⟩, ⟨_, pk178, pm178 p⟩, ⟨_, pk179, pm179 p⟩, ⟨_, pk180, pm180 p⟩, ⟨_, pk181, pm181 p⟩, ⟨_, pk182, pm182 p⟩, ⟨_, pk183, pm183 p⟩, ⟨_, pk184, pm184 p⟩, ⟨_, pk185, pm185 p⟩, ⟨_, pk186, pm186 p⟩, ⟨_, pk187, pm187 p⟩, ⟨_, pk188, pm188 p⟩, ⟨_, pk189, pm189 p⟩, ⟨_, pk190, pm190 p⟩, ⟨_, pk191, pm191 p⟩, ⟨_, pk192, pm192 p⟩, ⟨_, pk193, pm193 p⟩, ⟨_, pk194, pm194 p⟩, ⟨_, pk195, pm195 p⟩, ⟨_, pk196, pm196 p⟩, ⟨_, pk197, pm197 p⟩, ⟨_, pk198, pm198 p⟩, ⟨_, pk199, pm199 p⟩, ⟨_, pk200, pm200 p⟩, ⟨_, pk202, pm202 p⟩, ⟨_, pk204, pm204 p⟩, ⟨_, pk205, pm205 p⟩, ⟨_, pk206, pm206 p⟩, ⟨_, pk209, pm209 p⟩, ⟨_, pk210, pm210 p⟩, ⟨_, pk212, pm212 p⟩, ⟨_, pk213, pm213 p⟩, ⟨_, pk215, pm215 p⟩, trivial⟩
end Go.AM.T

/- The first seat's program fits, whatever is known of the library by itself. -/
namespace Go.AM.T
theorem fit0 : Fit link env0 where
  mixed := Go.Proofs.Tryz.checked.mixed
  glob _ _ h := by cases h
  prim _ _ h := by cases h
  fn g f h := by
    have := (fits fun _ => none).get (j := g) (f := f) h
    rwa [Nat.zero_add] at this
end Go.AM.T

/- The library's search for a byte is what the A-machine takes it for; the program fits. -/
namespace Go.AM.T
set_option linter.unusedVariables false
set_option linter.unusedSimpArgs false

theorem byte_get (s : ByteArray) (k : Nat) (h : k < s.size) : ∃ x, s.data.toList.drop k = x :: s.data.toList.drop (k + 1) ∧ s[k]! = x := by
  have hk : k < s.data.toList.length := by simpa using h
  refine ⟨s.data.toList[k], List.drop_eq_getElem_cons hk, ?_⟩
  rw [getElem!_pos s k h]
  simp [ByteArray.getElem_eq_getElem_data]
theorem idx_from (s : ByteArray) (c : UInt8) : ∀ (m k : Nat), k + m = s.size → (match (List.range' k m).find? fun i => s[i]! == c with | some i => (i : Int) | none => -1) = idxB c (s.data.toList.drop k) k
  | 0, k, h => by
    have : s.data.toList.drop k = [] := by
      apply List.drop_eq_nil_of_le
      have : s.data.toList.length = s.size := Array.length_toList
      omega
    rw [this]; rfl
  | m + 1, k, h => by
    obtain ⟨x, h1, h2⟩ := byte_get s k (by omega)
    rw [h1, List.range'_succ, List.find?_cons, h2]
    unfold idxB
    cases hx : x == c
    · simpa using idx_from s c m (k + 1) (by omega)
    · simp
theorem firstIdx_eq (s : ByteArray) (c : UInt8) : firstIdx s c = idxB c s.data.toList 0 := by
  have := idx_from s c s.size 0 (by omega)
  rw [← List.range_eq_range', List.drop_zero] at this
  rw [← this]; rfl
theorem idx_ok : ∀ args H v H', idxP args H = some (v, H') → ∀ w ρ xs, HR link w ρ H → GL link env w ρ H → VRs link w ρ (Own ρ H) args xs → CallOk link w ρ H (link.fn 203) xs.toArray v H' := by
  intro args H v H' h w ρ xs hr hg hx
  unfold idxP at h
  split at h
  case h_2 => cases h
  rename_i t c
  injection h with h; injection h with h1 h2
  subst h1; subst h2
  cases hx with
  | cons hx1 hx2 =>
  cases hx2 with
  | cons hx2 hx3 =>
  cases hx3
  generalize hs : AV.str t = sv at hx1
  cases hx1 <;> cases hs
  rename_i s
  cases hx2
  have hf : link.P.funcs[link.fn 203]? = some Go.Proofs.Tryz.f77 := by kernel_rfl
  have he : Extern.find Go.Proofs.Tryz.f77 = some Extern.BytealgIndexByte.indexByte := by kernel_rfl
  have := run_callFunc_extern hf (by kernel_rfl) (by kernel_rfl) (by kernel_rfl) he #[.string s, .int .u8 c] w
  rw [run_indexByte_string] at this
  refine .inl ⟨_, w, ρ, this, Ext.refl _ _ _, hr, ?_⟩
  rw [firstIdx_eq]
  exact .int _ _
theorem fit : Fit link env where
  mixed := fit0.mixed
  glob _ _ h := by cases h
  prim g p h := by
    by_cases hg : g = 203
    · subst hg
      have : p = idxP := by
        have h' : (some idxP : Option _) = some p := h
        injection h' with h'; exact h'.symm
      subst this
      exact idx_ok
    · exfalso
      have : env.prim g = none := by
        show (match g with | 203 => some idxP | _ => none) = none
        split
        · exact absurd rfl hg
        · rfl
      rw [this] at h; cases h
  fn g f h := by
    have := (fits env.prim).get (j := g) (f := f) h
    rwa [Nat.zero_add] at this
end Go.AM.T
