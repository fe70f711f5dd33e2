/- What an act does to a ledger and to the model of it: the law's switch. -/
import Derived.Test.YtjibcecekjmnlaaActsQ
import Derived.Deep.RegionHeld3
import Derived.Deep.CutRange
import Derived.Deep.CutBlock
namespace Go.Proofs.Ytjibcecekjmnlaa
open Go.RowKit Go.Kpt
set_option linter.unusedVariables false

/-- A block of a function's text by its number. -/
def blockOf (k : Nat) : Code → Option Code
  | .loop c => blockOf k c
  | .seq a b => match blockOf k a with
    | some c => some c
    | none => blockOf k b
  | .block j c => if j = k then some (.block j c) else blockOf k c
  | .scope c => blockOf k c
  | .cond _ a b => match blockOf k a with
    | some c => some c
    | none => blockOf k b
  | _ => none
noncomputable def swCode : Code := ((Try.f7.body.bind (blockOf 2)).getD .skip)

set_option maxRecDepth 100000 in
set_option maxHeartbeats 16000000 in
theorem acts_0 (w wb : World) (b mb lb fb i q : Nat) (s : Lg) (K F A N R : Int) (ok : Bool) (hs : Ok s i) (hs' : Ok s i.succ) (hn1 : i + 1 ≤ 1000) (hX : QX w wb b mb lb fb s s i q (K, F, A, N)) (hwF : (Lit.int .i64 F).wf = true)
    (hR : (askI s F).1 = R) (hok : (askI s F).2 = ok) (hb5 : bits .and .i64 K 7 = 0) (Q0 : Exit → Act → World → Prop) (J0 K0 : Act → World → Prop)
    (x0 x1 x2 x5 x9 x10 x11 x12 x13 x14 x15 x16 x17 x18 x19 x20 x21 x22 x23 x24 x25 x26 x27 x28 x29 x30 x31 x32 x33 x34 x36 x37 x38 x39 x40 x41 x42 x43 x44 x45 x46 x47 x49 x50 x51 x52 x53 x54 x55 x56 x57 x58 x59 x60 x61 x62 x63 x64 x65 x66 x67 x68 x69 x70 x71 x72 x73 x74 x75 x76 x77 x78 x79 x80 x81 x82 x83 x84 x85 x86 x87 x88 x89 x90 x91 x92 x93 x94 x95 x96 x97 x98 x99 x100 x101 x102 x103 x104 x105 x106 x107 x108 x109 x110 x111 x112 x113 x114 x115 x116 x117 x118 x119 x120 x121 x122 x123 x124 x125 x126 x127 x128 x129 x130 x131 x132 x133 x134 x135 x136 x137 x138 x139 x140 x141 x142 x143 x144 x145 x146 x147 x148 x149 x150 x151 x152 x153 x154 x155 x156 x157 x158 x159 x160 x161 x162 x163 x164 x165 x166 x167 x168 x169 x170 x171 x172 x173 x174 x175 x176 x177 x178 x179 x180 x181 x182 x183 x184 x185 x186 x187 x188 x189 x190 x191 x192 x193 x194 x195 x196 x197 x198 x199 x200 x201 x202 x203 x204 x205 x206 x207 x208 x209 x210 x211 x212 x213 x214 x215 x216 x217 x218 x219 x220 x221 x222 x223 x224 x225 x226 x227 x228 x229 x230 x231 x232 x233 x234 x235 x236 x237 : Value)
    (h1 : ∀ (a' : Act) (w' : World), (∃ u2 u9 u10 u11 u12 u13 u35 u36 u37 u38 u39 u40 u41 u42 u43 u44 u45 u46 u47 u48 u49 u50 u51 u52 u53 u54 u55 u56 u57 u58 u59 u60 u61 u62 u63 u64 u65 u66 u67 u68 u69 u70 u71 u72 u73 u74 u75 u76 u77 u78 u79 u80 u81 u82 u83 u84 u85 u86 u87 u88 u89 u90 u91 u92 u93 u94 u95 u96 u97 u98 u99 u100 u101 u102 u103 u104 u105 u106 u107 u108 u109 u110 u111 u112 u113 u114 u115 u116 u117 u118 u119 u120 u121 u122 u123 u124 u125 u126 u127 u128 u129 u130 u131 u132 u133 u134 u135 u136 u137 u138 u139 u140 u141 u142 u143 u144 u145 u146 u147 u148 u149 u150 u151 u152 u153 u154 u155 u156 u157 u158 u159 u160 u161 u162 u163 u164 u165 u166 u167 u168 u169 u170 u171 u172 u173 u174 u175 u176 u177 u178 u179 u180 u181 u182 u183 u184 u185 u186 u187 u188 u189 u190 u191 u192 u193 u194 u195 u196 u197 u198 u199 u200 u201 u202 u203 u204 u205 u206 u207 u208 u209 u210 u211 u212 u213 u214 u215 u216 u217 u218 u219 u220 u221 u222 u223 u224 u225 u226 u227 u228 u229 u230 u231 u232 u233 u234 u235 u236 u237, (u35 = .int .i64 i ∧ ∃ (s2 : Lg), Ok s2 (i + 1) ∧ QA w w' b mb lb fb s2 s2 (i + 1)) ∧ a' = { tmps := #[x0, x1, u2, .pointer (some ⟨b, 0, none⟩), .pointer (some ⟨mb, 0, none⟩), x5, .pointer (some ⟨q, 0, none⟩), .int .i64 R, .bool ok, u9, u10, u11, u12, u13, x14, x15, x16, x17, x18, x19, x20, x21, x22, x23, x24, x25, x26, x27, x28, x29, x30, x31, x32, x33, x34, u35, u36, u37, u38, u39, u40, u41, u42, u43, u44, u45, u46, u47, u48, u49, u50, u51, u52, u53, u54, u55, u56, u57, u58, u59, u60, u61, u62, u63, u64, u65, u66, u67, u68, u69, u70, u71, u72, u73, u74, u75, u76, u77, u78, u79, u80, u81, u82, u83, u84, u85, u86, u87, u88, u89, u90, u91, u92, u93, u94, u95, u96, u97, u98, u99, u100, u101, u102, u103, u104, u105, u106, u107, u108, u109, u110, u111, u112, u113, u114, u115, u116, u117, u118, u119, u120, u121, u122, u123, u124, u125, u126, u127, u128, u129, u130, u131, u132, u133, u134, u135, u136, u137, u138, u139, u140, u141, u142, u143, u144, u145, u146, u147, u148, u149, u150, u151, u152, u153, u154, u155, u156, u157, u158, u159, u160, u161, u162, u163, u164, u165, u166, u167, u168, u169, u170, u171, u172, u173, u174, u175, u176, u177, u178, u179, u180, u181, u182, u183, u184, u185, u186, u187, u188, u189, u190, u191, u192, u193, u194, u195, u196, u197, u198, u199, u200, u201, u202, u203, u204, u205, u206, u207, u208, u209, u210, u211, u212, u213, u214, u215, u216, u217, u218, u219, u220, u221, u222, u223, u224, u225, u226, u227, u228, u229, u230, u231, u232, u233, u234, u235, u236, u237], defers := [] }) → J0 a' w')
    (h2 : ∀ (a' : Act) (w' : World), Met J0 a' w' → K0 a' w') :
    Code.wp Try.prog swCode (Exit.then K0 Q0) { tmps := #[x0, x1, x2, .pointer (some ⟨b, 0, none⟩), .pointer (some ⟨mb, 0, none⟩), x5, .pointer (some ⟨q, 0, none⟩), .int .i64 R, .bool ok, x9, x10, x11, x12, x13, x14, x15, x16, x17, x18, x19, x20, x21, x22, x23, x24, x25, x26, x27, x28, x29, x30, x31, x32, x33, x34, .int .i64 i, x36, x37, x38, x39, x40, x41, x42, x43, x44, x45, x46, x47, .int .i64 0, x49, x50, x51, x52, x53, x54, x55, x56, x57, x58, x59, x60, x61, x62, x63, x64, x65, x66, x67, x68, x69, x70, x71, x72, x73, x74, x75, x76, x77, x78, x79, x80, x81, x82, x83, x84, x85, x86, x87, x88, x89, x90, x91, x92, x93, x94, x95, x96, x97, x98, x99, x100, x101, x102, x103, x104, x105, x106, x107, x108, x109, x110, x111, x112, x113, x114, x115, x116, x117, x118, x119, x120, x121, x122, x123, x124, x125, x126, x127, x128, x129, x130, x131, x132, x133, x134, x135, x136, x137, x138, x139, x140, x141, x142, x143, x144, x145, x146, x147, x148, x149, x150, x151, x152, x153, x154, x155, x156, x157, x158, x159, x160, x161, x162, x163, x164, x165, x166, x167, x168, x169, x170, x171, x172, x173, x174, x175, x176, x177, x178, x179, x180, x181, x182, x183, x184, x185, x186, x187, x188, x189, x190, x191, x192, x193, x194, x195, x196, x197, x198, x199, x200, x201, x202, x203, x204, x205, x206, x207, x208, x209, x210, x211, x212, x213, x214, x215, x216, x217, x218, x219, x220, x221, x222, x223, x224, x225, x226, x227, x228, x229, x230, x231, x232, x233, x234, x235, x236, x237], defers := [] } wb := by
  dsimp only at h1 ⊢
  conv => arg 2; whnf
  obtain ⟨p0, p1, p2, p3⟩ := hX.cells
  have ho := ok_setAI hs hn1 A N
  have cA := fun (W : World) (t : Lg) (m : Nat) (hW : QX w W b mb lb fb s t m q (K, F, A, N)) => qx_setA s t hs.good A N W hW
  have cM := fun (W : World) (t : Lg) (hW : QX w W b mb lb fb t s i q (K, F, A, N)) => qx_msetA t s hs A N W hW
  have hD := hX.drew
  clear hX p0 p1 p2 p3 hs hs' hwF hR hok
  rcases hp : setAI s A N with ⟨r1, s2⟩
  rw [hp] at ho
  simp only [hp] at cA cM
  clear hp
  go_wp2_with fail
  go_region_held3 (fun W => W.cell? ⟨q, 1, none⟩ = some (.int .i64 F) ∧ W.cell? ⟨q, 2, none⟩ = some (.int .i64 A) ∧ W.cell? ⟨q, 3, none⟩ = some (.int .i64 N))
    (first | exact hD.cells.2 | exact hX1.cells.2 | exact hX2.cells.2)
    (first
    | (go_at_call 10; refine (cA _ _ _ hD).mono ?_; rintro e W1 ⟨rfl, hX1⟩)
    | (go_at_call 17; refine (cM _ _ hX1).mono ?_; rintro e W2 ⟨rfl, hX2⟩))
  go_wp2_with fail
  go_meet
  case rel => exact ⟨rfl, s2, ho, hX2.qa⟩

set_option maxRecDepth 100000 in
set_option maxHeartbeats 16000000 in
theorem acts_1 (w wb : World) (b mb lb fb i q : Nat) (s : Lg) (K F A N R : Int) (ok : Bool) (hs : Ok s i) (hs' : Ok s i.succ) (hn1 : i + 1 ≤ 1000) (hX : QX w wb b mb lb fb s s i q (K, F, A, N)) (hwF : (Lit.int .i64 F).wf = true)
    (hR : (askI s F).1 = R) (hok : (askI s F).2 = ok) (hb5 : bits .and .i64 K 7 = 1) (Q0 : Exit → Act → World → Prop) (J0 K0 : Act → World → Prop)
    (x0 x1 x2 x5 x9 x10 x11 x12 x13 x14 x15 x16 x17 x18 x19 x20 x21 x22 x23 x24 x25 x26 x27 x28 x29 x30 x31 x32 x33 x34 x36 x37 x38 x39 x40 x41 x42 x43 x44 x45 x46 x47 x49 x50 x51 x52 x53 x54 x55 x56 x57 x58 x59 x60 x61 x62 x63 x64 x65 x66 x67 x68 x69 x70 x71 x72 x73 x74 x75 x76 x77 x78 x79 x80 x81 x82 x83 x84 x85 x86 x87 x88 x89 x90 x91 x92 x93 x94 x95 x96 x97 x98 x99 x100 x101 x102 x103 x104 x105 x106 x107 x108 x109 x110 x111 x112 x113 x114 x115 x116 x117 x118 x119 x120 x121 x122 x123 x124 x125 x126 x127 x128 x129 x130 x131 x132 x133 x134 x135 x136 x137 x138 x139 x140 x141 x142 x143 x144 x145 x146 x147 x148 x149 x150 x151 x152 x153 x154 x155 x156 x157 x158 x159 x160 x161 x162 x163 x164 x165 x166 x167 x168 x169 x170 x171 x172 x173 x174 x175 x176 x177 x178 x179 x180 x181 x182 x183 x184 x185 x186 x187 x188 x189 x190 x191 x192 x193 x194 x195 x196 x197 x198 x199 x200 x201 x202 x203 x204 x205 x206 x207 x208 x209 x210 x211 x212 x213 x214 x215 x216 x217 x218 x219 x220 x221 x222 x223 x224 x225 x226 x227 x228 x229 x230 x231 x232 x233 x234 x235 x236 x237 : Value)
    (h1 : ∀ (a' : Act) (w' : World), (∃ u2 u9 u10 u11 u12 u13 u35 u36 u37 u38 u39 u40 u41 u42 u43 u44 u45 u46 u47 u48 u49 u50 u51 u52 u53 u54 u55 u56 u57 u58 u59 u60 u61 u62 u63 u64 u65 u66 u67 u68 u69 u70 u71 u72 u73 u74 u75 u76 u77 u78 u79 u80 u81 u82 u83 u84 u85 u86 u87 u88 u89 u90 u91 u92 u93 u94 u95 u96 u97 u98 u99 u100 u101 u102 u103 u104 u105 u106 u107 u108 u109 u110 u111 u112 u113 u114 u115 u116 u117 u118 u119 u120 u121 u122 u123 u124 u125 u126 u127 u128 u129 u130 u131 u132 u133 u134 u135 u136 u137 u138 u139 u140 u141 u142 u143 u144 u145 u146 u147 u148 u149 u150 u151 u152 u153 u154 u155 u156 u157 u158 u159 u160 u161 u162 u163 u164 u165 u166 u167 u168 u169 u170 u171 u172 u173 u174 u175 u176 u177 u178 u179 u180 u181 u182 u183 u184 u185 u186 u187 u188 u189 u190 u191 u192 u193 u194 u195 u196 u197 u198 u199 u200 u201 u202 u203 u204 u205 u206 u207 u208 u209 u210 u211 u212 u213 u214 u215 u216 u217 u218 u219 u220 u221 u222 u223 u224 u225 u226 u227 u228 u229 u230 u231 u232 u233 u234 u235 u236 u237, (u35 = .int .i64 i ∧ ∃ (s2 : Lg), Ok s2 (i + 1) ∧ QA w w' b mb lb fb s2 s2 (i + 1)) ∧ a' = { tmps := #[x0, x1, u2, .pointer (some ⟨b, 0, none⟩), .pointer (some ⟨mb, 0, none⟩), x5, .pointer (some ⟨q, 0, none⟩), .int .i64 R, .bool ok, u9, u10, u11, u12, u13, x14, x15, x16, x17, x18, x19, x20, x21, x22, x23, x24, x25, x26, x27, x28, x29, x30, x31, x32, x33, x34, u35, u36, u37, u38, u39, u40, u41, u42, u43, u44, u45, u46, u47, u48, u49, u50, u51, u52, u53, u54, u55, u56, u57, u58, u59, u60, u61, u62, u63, u64, u65, u66, u67, u68, u69, u70, u71, u72, u73, u74, u75, u76, u77, u78, u79, u80, u81, u82, u83, u84, u85, u86, u87, u88, u89, u90, u91, u92, u93, u94, u95, u96, u97, u98, u99, u100, u101, u102, u103, u104, u105, u106, u107, u108, u109, u110, u111, u112, u113, u114, u115, u116, u117, u118, u119, u120, u121, u122, u123, u124, u125, u126, u127, u128, u129, u130, u131, u132, u133, u134, u135, u136, u137, u138, u139, u140, u141, u142, u143, u144, u145, u146, u147, u148, u149, u150, u151, u152, u153, u154, u155, u156, u157, u158, u159, u160, u161, u162, u163, u164, u165, u166, u167, u168, u169, u170, u171, u172, u173, u174, u175, u176, u177, u178, u179, u180, u181, u182, u183, u184, u185, u186, u187, u188, u189, u190, u191, u192, u193, u194, u195, u196, u197, u198, u199, u200, u201, u202, u203, u204, u205, u206, u207, u208, u209, u210, u211, u212, u213, u214, u215, u216, u217, u218, u219, u220, u221, u222, u223, u224, u225, u226, u227, u228, u229, u230, u231, u232, u233, u234, u235, u236, u237], defers := [] }) → J0 a' w')
    (h2 : ∀ (a' : Act) (w' : World), Met J0 a' w' → K0 a' w') :
    Code.wp Try.prog swCode (Exit.then K0 Q0) { tmps := #[x0, x1, x2, .pointer (some ⟨b, 0, none⟩), .pointer (some ⟨mb, 0, none⟩), x5, .pointer (some ⟨q, 0, none⟩), .int .i64 R, .bool ok, x9, x10, x11, x12, x13, x14, x15, x16, x17, x18, x19, x20, x21, x22, x23, x24, x25, x26, x27, x28, x29, x30, x31, x32, x33, x34, .int .i64 i, x36, x37, x38, x39, x40, x41, x42, x43, x44, x45, x46, x47, .int .i64 1, x49, x50, x51, x52, x53, x54, x55, x56, x57, x58, x59, x60, x61, x62, x63, x64, x65, x66, x67, x68, x69, x70, x71, x72, x73, x74, x75, x76, x77, x78, x79, x80, x81, x82, x83, x84, x85, x86, x87, x88, x89, x90, x91, x92, x93, x94, x95, x96, x97, x98, x99, x100, x101, x102, x103, x104, x105, x106, x107, x108, x109, x110, x111, x112, x113, x114, x115, x116, x117, x118, x119, x120, x121, x122, x123, x124, x125, x126, x127, x128, x129, x130, x131, x132, x133, x134, x135, x136, x137, x138, x139, x140, x141, x142, x143, x144, x145, x146, x147, x148, x149, x150, x151, x152, x153, x154, x155, x156, x157, x158, x159, x160, x161, x162, x163, x164, x165, x166, x167, x168, x169, x170, x171, x172, x173, x174, x175, x176, x177, x178, x179, x180, x181, x182, x183, x184, x185, x186, x187, x188, x189, x190, x191, x192, x193, x194, x195, x196, x197, x198, x199, x200, x201, x202, x203, x204, x205, x206, x207, x208, x209, x210, x211, x212, x213, x214, x215, x216, x217, x218, x219, x220, x221, x222, x223, x224, x225, x226, x227, x228, x229, x230, x231, x232, x233, x234, x235, x236, x237], defers := [] } wb := by
  dsimp only at h1 ⊢
  conv => arg 2; whnf
  obtain ⟨p0, p1, p2, p3⟩ := hX.cells
  have ho := ok_setFI hs hn1 F A N
  have cA := fun (W : World) (t : Lg) (m : Nat) (hW : QX w W b mb lb fb s t m q (K, F, A, N)) => qx_setF s t hs.good F A N W hW
  have cM := fun (W : World) (t : Lg) (hW : QX w W b mb lb fb t s i q (K, F, A, N)) => qx_msetF t s hs F A N W hW
  have hD := hX.drew
  clear hX p0 p1 p2 p3 hs hs' hwF hR hok
  rcases hp : setFI s F A N with ⟨r1, s2⟩
  rw [hp] at ho
  simp only [hp] at cA cM
  clear hp
  go_wp2_with fail
  go_region_held3 (fun W => W.cell? ⟨q, 1, none⟩ = some (.int .i64 F) ∧ W.cell? ⟨q, 2, none⟩ = some (.int .i64 A) ∧ W.cell? ⟨q, 3, none⟩ = some (.int .i64 N))
    (first | exact hD.cells.2 | exact hX1.cells.2 | exact hX2.cells.2)
    (first
    | (go_at_call 11; refine (cA _ _ _ hD).mono ?_; rintro e W1 ⟨rfl, hX1⟩)
    | (go_at_call 18; refine (cM _ _ hX1).mono ?_; rintro e W2 ⟨rfl, hX2⟩))
  go_wp2_with fail
  go_meet
  case rel => exact ⟨rfl, s2, ho, hX2.qa⟩
end Go.Proofs.Ytjibcecekjmnlaa
