/-
  One round of the document's Of.
-/
import Derived.Test.YtlekepigndlbhaaDoorShaP
namespace Go.Proofs.YtlekepigndlbhaaDoor
open Go.ChangeShapes Go.WideShapes Go.ChangeAt Go.RowKit

def findBlock (n : Nat) : Code → Option Code
  | .block m c => if m = n then some (.block m c) else findBlock n c
  | .loop c => findBlock n c
  | .seq a b => match findBlock n a with
    | some c => some c
    | none => findBlock n b
  | .scope c => findBlock n c
  | .cond _ a b => match findBlock n a with
    | some c => some c
    | none => findBlock n b
  | _ => none
noncomputable def blk5 : Code := ((Tryd.f16.body.bind (findBlock 5)).getD .skip)

theorem put8 (r : V8) (x0 x1 x2 x3 x4 x5 x6 x7 : Value) : ((((((((r.l.map wv).toArray.setIfInBounds 7 x7).setIfInBounds 6 x6).setIfInBounds 5 x5).setIfInBounds 4 x4).setIfInBounds 3 x3).setIfInBounds 2 x2).setIfInBounds 1 x1).setIfInBounds 0 x0 = #[x0, x1, x2, x3, x4, x5, x6, x7] := by
  simp only [V8.l, List.map_cons, List.map_nil, List.setIfInBounds_toArray, List.set_cons_zero, List.set_cons_succ]
theorem put7 (r : V8) (x1 x2 x3 x4 x5 x6 x7 : Value) : (((((((r.l.map wv).toArray.setIfInBounds 7 x7).setIfInBounds 6 x6).setIfInBounds 5 x5).setIfInBounds 4 x4).setIfInBounds 3 x3).setIfInBounds 2 x2).setIfInBounds 1 x1 = #[wv r.a, x1, x2, x3, x4, x5, x6, x7] := by
  simp only [V8.l, List.map_cons, List.map_nil, List.setIfInBounds_toArray, List.set_cons_zero, List.set_cons_succ]
theorem rnd_arr (r : V8) (k w : Int) : ((rnd r k w).l.map wv).toArray = #[wv ((one r k w + two r) % 4294967296), wv r.a, wv r.b, wv r.c, wv ((r.d + one r k w) % 4294967296), wv r.e, wv r.f, wv r.g] := rfl

set_option maxRecDepth 1000000 in
set_option maxHeartbeats 2000000 in
theorem round_ref {K RP : Act → World → Prop} {Q' : Exit → Act → World → Prop} {s0 s1 s2 s4 s5 s6 s8 s9 s10 s11 s14 s15 s16 s17 s18 s19 s20 s21 s22 s23 s24 s25 s26 s27 s28 s29 s30 s31 s32 s33 s34 s35 s36 s37 s38 s39 s40 s41 s42 s43 s44 s45 s46 s47 s48 s49 s50 s51 s52 s53 s54 s55 s56 s57 s58 s59 s60 s61 s62 s63 s64 s65 s66 s67 s68 s69 s70 s71 s72 s73 s74 s75 s76 s77 s78 s79 s80 s81 s82 s83 s84 s85 s86 s87 s88 s89 s90 s91 s92 s93 s94 s95 s96 s97 s98 s99 s100 s101 s102 s103 s104 s105 s106 s107 s108 s109 s110 s111 s112 s113 s114 s115 s116 s117 s118 s119 s120 s121 s122 s123 s124 s125 s126 s127 s128 s129 s130 s131 s132 s133 s134 s135 s136 s137 s138 s139 s140 s141 s142 s143 s144 s145 s146 s147 s148 s149 s150 s151 s152 s153 s154 s155 s156 s157 s158 s159 s160 s161 s162 s163 s164 s165 s166 s167 s168 s169 s170 s171 s172 s173 s174 s175 s176 s177 s178 s179 s180 s181 s182 s183 s184 s185 s186 s187 s188 s189 s190 s191 s192 s193 s194 s195 s196 s197 s198 s199 s200 s201 s202 s203 s204 s205 s206 s207 s208 s209 s210 s211 s212 s213 s214 s215 s216 s217 s218 s219 s220 s221 s222 s223 s224 s225 s226 s227 s228 s229 s230 s231 s232 s233 s234 s235 s236 s237 s238 s239 s240 s241 s242 s243 s244 s245 : Value} {wr wo : World} {V W KB k : Nat} {r : V8} {y kk : Int} {ws : List Int}
    (hV : Blk wr V 54 (r.l.map wv).toArray) (hW : Blk wr W 52 (ws.map wv).toArray) (cK' : wr.cell? ⟨KB, k, none⟩ = some (.int .u32 kk)) (cW' : wr.cell? ⟨W, k, none⟩ = some (.int .u32 y))
    (hik : (k : Int) < 64) (hVl : W ≠ V ∧ wo.heap.size ≤ V) (hnr : Below wo.heap.size wo wr)
    (h : ∀ (x14 x15 x124 x125 x126 x127 x128 x129 x130 x131 x132 x133 x134 x135 x136 x137 x138 x139 x140 x141 x142 x143 x144 x145 x146 x147 x148 x149 x150 x151 x152 x153 x154 x155 x156 x157 x158 x159 x160 x161 x162 x163 x164 x165 x166 x167 x168 x169 x170 x171 x172 x173 x174 x175 x176 x177 x178 x179 x180 x181 x182 x183 x184 x185 x186 x187 x188 x189 x190 x191 x192 x193 x194 x195 x196 x197 x198 x199 x200 x201 x202 x203 x204 x205 x206 x207 x208 x209 x210 x211 x212 x213 x214 : Value) (w' : World), Below wo.heap.size wo w' → Blk w' W 52 (ws.map wv).toArray → Blk w' V 54 ((rnd r kk y).l.map wv).toArray →
      RP ⟨#[s0, s1, s2, .pointer (some ⟨KB, 0, none⟩), s4, s5, s6, .pointer (some ⟨W, 0, none⟩), s8, s9, s10, s11, .pointer (some ⟨V, 0, none⟩), .int .i64 (k : Int), x14, x15, s16, s17, s18, s19, s20, s21, s22, s23, s24, s25, s26, s27, s28, s29, s30, s31, s32, s33, s34, s35, s36, s37, s38, s39, s40, s41, s42, s43, s44, s45, s46, s47, s48, s49, s50, s51, s52, s53, s54, s55, s56, s57, s58, s59, s60, s61, s62, s63, s64, s65, s66, s67, s68, s69, s70, s71, s72, s73, s74, s75, s76, s77, s78, s79, s80, s81, s82, s83, s84, s85, s86, s87, s88, s89, s90, s91, s92, s93, s94, s95, s96, s97, s98, s99, s100, s101, s102, s103, s104, s105, s106, s107, s108, s109, s110, s111, s112, s113, s114, s115, s116, s117, s118, s119, s120, s121, s122, s123, x124, x125, x126, x127, x128, x129, x130, x131, x132, x133, x134, x135, x136, x137, x138, x139, x140, x141, x142, x143, x144, x145, x146, x147, x148, x149, x150, x151, x152, x153, x154, x155, x156, x157, x158, x159, x160, x161, x162, x163, x164, x165, x166, x167, x168, x169, x170, x171, x172, x173, x174, x175, x176, x177, x178, x179, x180, x181, x182, x183, x184, x185, x186, x187, x188, x189, x190, x191, x192, x193, x194, x195, x196, x197, x198, x199, x200, x201, x202, x203, x204, x205, x206, x207, x208, x209, x210, x211, x212, x213, x214, s215, s216, s217, s218, s219, s220, s221, s222, s223, s224, s225, s226, s227, s228, s229, s230, s231, s232, s233, s234, s235, s236, s237, s238, s239, s240, s241, s242, s243, s244, s245], []⟩ w') (hKP : ∀ (a : Act) (w : World), RP a w → K a w) :
    Code.wp Tryd.prog blk5 (Exit.then K Q') ⟨#[s0, s1, s2, .pointer (some ⟨KB, 0, none⟩), s4, s5, s6, .pointer (some ⟨W, 0, none⟩), s8, s9, s10, s11, .pointer (some ⟨V, 0, none⟩), .int .i64 (k : Int), s14, s15, s16, s17, s18, s19, s20, s21, s22, s23, s24, s25, s26, s27, s28, s29, s30, s31, s32, s33, s34, s35, s36, s37, s38, s39, s40, s41, s42, s43, s44, s45, s46, s47, s48, s49, s50, s51, s52, s53, s54, s55, s56, s57, s58, s59, s60, s61, s62, s63, s64, s65, s66, s67, s68, s69, s70, s71, s72, s73, s74, s75, s76, s77, s78, s79, s80, s81, s82, s83, s84, s85, s86, s87, s88, s89, s90, s91, s92, s93, s94, s95, s96, s97, s98, s99, s100, s101, s102, s103, s104, s105, s106, s107, s108, s109, s110, s111, s112, s113, s114, s115, s116, s117, s118, s119, s120, s121, s122, s123, s124, s125, s126, s127, s128, s129, s130, s131, s132, s133, s134, s135, s136, s137, s138, s139, s140, s141, s142, s143, s144, s145, s146, s147, s148, s149, s150, s151, s152, s153, s154, s155, s156, s157, s158, s159, s160, s161, s162, s163, s164, s165, s166, s167, s168, s169, s170, s171, s172, s173, s174, s175, s176, s177, s178, s179, s180, s181, s182, s183, s184, s185, s186, s187, s188, s189, s190, s191, s192, s193, s194, s195, s196, s197, s198, s199, s200, s201, s202, s203, s204, s205, s206, s207, s208, s209, s210, s211, s212, s213, s214, s215, s216, s217, s218, s219, s220, s221, s222, s223, s224, s225, s226, s227, s228, s229, s230, s231, s232, s233, s234, s235, s236, s237, s238, s239, s240, s241, s242, s243, s244, s245], []⟩ wr := by
  conv => arg 2; whnf
  have HK := Lib.hid h
  have HV := Lib.hid hV
  have HW := Lib.hid hW
  have d4 : wr.cell? ⟨V, 4, none⟩ = some (.int .u32 r.e) := HV.out.at 4 _ rfl
  have d5 : wr.cell? ⟨V, 5, none⟩ = some (.int .u32 r.f) := HV.out.at 5 _ rfl
  have d6 : wr.cell? ⟨V, 6, none⟩ = some (.int .u32 r.g) := HV.out.at 6 _ rfl
  have d7 : wr.cell? ⟨V, 7, none⟩ = some (.int .u32 r.h) := HV.out.at 7 _ rfl
  clear h hV hW
  go_upto_region 21 with fail
  go_still_tail 34, (by kernel_rfl)
  still_call (rotr_6 r.e _)
  repeat still_step
  still_call (rotr_11 r.e _)
  repeat still_step
  still_call (rotr_25 r.e _)
  repeat still_step
  refine wpStill_nil ?_
  change wpList _ _ _ _ _ wr.drew
  have HW2 := Lib.hid HW.out.drew
  have HV2 := Lib.hid HV.out.drew
  have hn2 := nu_drew hnr
  clear HW HV hnr d4 d5 d6 d7 cK' cW'
  generalize wr.drew = w2 at *
  have d0 : w2.cell? ⟨V, 0, none⟩ = some (.int .u32 r.a) := HV2.out.at 0 _ rfl
  have d1 : w2.cell? ⟨V, 1, none⟩ = some (.int .u32 r.b) := HV2.out.at 1 _ rfl
  have d2 : w2.cell? ⟨V, 2, none⟩ = some (.int .u32 r.c) := HV2.out.at 2 _ rfl
  go_upto_region 22 with fail
  go_still_tail 28, (by kernel_rfl)
  still_call (rotr_2 r.a _)
  repeat still_step
  still_call (rotr_13 r.a _)
  repeat still_step
  still_call (rotr_22 r.a _)
  repeat still_step
  refine wpStill_nil ?_
  change wpList _ _ _ _ _ w2.drew
  have HW3 := Lib.hid HW2.out.drew
  have HV3 := Lib.hid HV2.out.drew
  have hn3 := nu_drew hn2
  clear HW2 HV2 hn2 d0 d1 d2
  generalize w2.drew = w3 at *
  obtain ⟨t1, ht1⟩ : ∃ t, t = one r kk y := ⟨_, rfl⟩
  have e1 := ht1
  unfold one S1 ch nt at e1
  obtain ⟨t2, ht2⟩ : ∃ t, t = two r := ⟨_, rfl⟩
  have e2 := ht2
  unfold two S0 mj at e2
  go_upto_region 23 with fail
  rw [← e1, ← e2]
  clear e1 e2
  have d0 : w3.cell? ⟨V, 0, none⟩ = some (.int .u32 r.a) := HV3.out.at 0 _ rfl
  have f0 := HV3.out.free 0
  have d1 : w3.cell? ⟨V, 1, none⟩ = some (.int .u32 r.b) := HV3.out.at 1 _ rfl
  have f1 := HV3.out.free 1
  have d2 : w3.cell? ⟨V, 2, none⟩ = some (.int .u32 r.c) := HV3.out.at 2 _ rfl
  have f2 := HV3.out.free 2
  have d3 : w3.cell? ⟨V, 3, none⟩ = some (.int .u32 r.d) := HV3.out.at 3 _ rfl
  have f3 := HV3.out.free 3
  have d4 : w3.cell? ⟨V, 4, none⟩ = some (.int .u32 r.e) := HV3.out.at 4 _ rfl
  have f4 := HV3.out.free 4
  have d5 : w3.cell? ⟨V, 5, none⟩ = some (.int .u32 r.f) := HV3.out.at 5 _ rfl
  have f5 := HV3.out.free 5
  have d6 : w3.cell? ⟨V, 6, none⟩ = some (.int .u32 r.g) := HV3.out.at 6 _ rfl
  have f6 := HV3.out.free 6
  have d7 : w3.cell? ⟨V, 7, none⟩ = some (.int .u32 r.h) := HV3.out.at 7 _ rfl
  have f7 := HV3.out.free 7
  have HV4 := Lib.hid (Blk.put (Blk.put (Blk.put (Blk.put (Blk.put (Blk.put (Blk.put HV3.out 7 (wv r.g)) 6 (wv r.f)) 5 (wv r.e)) 4 (wv ((r.d + t1) % 4294967296))) 3 (wv r.c)) 2 (wv r.b)) 1 (wv r.a))
  have HW4 := Lib.hid (Blk.far (Blk.far (Blk.far (Blk.far (Blk.far (Blk.far (Blk.far HW3.out (p := ⟨V, 7, none⟩) hVl.1 (wv r.g)) (p := ⟨V, 6, none⟩) hVl.1 (wv r.f)) (p := ⟨V, 5, none⟩) hVl.1 (wv r.e)) (p := ⟨V, 4, none⟩) hVl.1 (wv ((r.d + t1) % 4294967296))) (p := ⟨V, 3, none⟩) hVl.1 (wv r.c)) (p := ⟨V, 2, none⟩) hVl.1 (wv r.b)) (p := ⟨V, 1, none⟩) hVl.1 (wv r.a))
  have Hn4 := Lib.hid (nu_set (nu_set (nu_set (nu_set (nu_set (nu_set (nu_set hn3 (p := ⟨V, 7, none⟩) hVl.2 (wv r.g)) (p := ⟨V, 6, none⟩) hVl.2 (wv r.f)) (p := ⟨V, 5, none⟩) hVl.2 (wv r.e)) (p := ⟨V, 4, none⟩) hVl.2 (wv ((r.d + t1) % 4294967296))) (p := ⟨V, 3, none⟩) hVl.2 (wv r.c)) (p := ⟨V, 2, none⟩) hVl.2 (wv r.b)) (p := ⟨V, 1, none⟩) hVl.2 (wv r.a))
  simp only [wv] at HV4 HW4 Hn4
  have Ht1 := Lib.hid ht1
  have Ht2 := Lib.hid ht2
  clear ht1 ht2 hn3
  go_upto_region 30 with fail
  clear d0 d1 d2 d3 d4 d5 d6 d7 f0 f1 f2 f3 f4 f5 f6 f7 HV3 HW3
  generalize (((((((w3.setCell ⟨V, 7, none⟩ (.int .u32 r.g)).setCell ⟨V, 6, none⟩ (.int .u32 r.f)).setCell ⟨V, 5, none⟩ (.int .u32 r.e)).setCell ⟨V, 4, none⟩ (.int .u32 ((r.d + t1) % 4294967296))).setCell ⟨V, 3, none⟩ (.int .u32 r.c)).setCell ⟨V, 2, none⟩ (.int .u32 r.b)).setCell ⟨V, 1, none⟩ (.int .u32 r.a)) = w4 at *
  have d0 : w4.cell? ⟨V, 0, none⟩ = some (.int .u32 r.a) := HV4.out.at 0 _ (by rw [put7]; rfl)
  have f0 := HV4.out.free 0
  have HW5 := Lib.hid (HW4.out.far (p := ⟨V, 0, none⟩) hVl.1 (.int .u32 ((t1 + t2) % 4294967296)))
  have Hn5 := Lib.hid (nu_set Hn4.out (p := ⟨V, 0, none⟩) hVl.2 (.int .u32 ((t1 + t2) % 4294967296)))
  have hV5 := HV4.out.put 0 (.int .u32 ((t1 + t2) % 4294967296))
  have HV5 := Lib.hid (show Blk (w4.setCell ⟨V, 0, none⟩ (.int .u32 ((t1 + t2) % 4294967296))) V 54 ((rnd r kk y).l.map wv).toArray by
    rw [rnd_arr, ← Ht1.out, ← Ht2.out]
    exact (put8 r (wv ((t1 + t2) % 4294967296)) (wv r.a) (wv r.b) (wv r.c) (wv ((r.d + t1) % 4294967296)) (wv r.e) (wv r.f) (wv r.g)) ▸ hV5)
  clear hV5 HV4 HW4 Hn4
  go_wp2_with fail

  exact HK.out _ _ _ _ _ _ _ _ _ _ _ _ _ _ _ _ _ _ _ _ _ _ _ _ _ _ _ _ _ _ _ _ _ _ _ _ _ _ _ _ _ _ _ _ _ _ _ _ _ _ _ _ _ _ _ _ _ _ _ _ _ _ _ _ _ _ _ _ _ _ _ _ _ _ _ _ _ _ _ _ _ _ _ _ _ _ _ _ _ _ _ _ _ _ Hn5.out HW5.out HV5.out
end Go.Proofs.YtlekepigndlbhaaDoor
