/- An event's bytes cut off are none: the walk. -/
import Derived.Test.YtbdkbhicjbaffaaConv
namespace Go.Proofs.Ytbdkbhicjbaffaa
open Go.RowKit Go.Kpt WirePure
set_option linter.unusedVariables false

set_option maxRecDepth 100000 in
set_option maxHeartbeats 2000000 in
theorem eventCuts_any (f : Evt) (cut : Int) (a : Option Addr) (cap : Nat) (more : List Nat) (w : World) (hcut : -9223372036854775808 ≤ cut ∧ cut < 9223372036854775808) (hsl : Sl .u8 w (fun x => x < w.heap.size) a (ib more)) (hml : more.length ≤ cap) (hmb : ∀ c ∈ more, c < 256) :
    Calls Try.prog 3 #[.agg (evc f), .int .i64 cut, .slice a more.length cap] w fun e w' => e = .returned (.bool true) ∧ Below w.heap.size w w' := by
  obtain ⟨i0, hi0, iz0, iz1, iz2⟩ := info_parts Try.info5
  have hE := Ev.new w f
  have hB : Below w.heap.size w (w.alloc (.cells (evc f) 24)) := by go_grown
  have hz : w.heap.size < (w.alloc (.cells (evc f) 24)).heap.size := by simp
  have hsl1 : Sl .u8 (w.alloc (.cells (evc f) 24)) (fun x => x < w.heap.size) a (ib more) := hsl.kept ((Kept.refl (fun _ => False) w).alloc _) (fun _ _ h => h)
  obtain ⟨w1, hw1⟩ : ∃ w1, w.alloc (.cells (evc f) 24) = w1 := ⟨_, rfl⟩
  rw [hw1] at hE hB hz hsl1
  clear hsl
  go_enter Try.func3, Try.ntmps3
  go_wp2_with fail
  refine (head_any _).mono ?_
  clear hw1
  rintro e w2 ⟨rfl, hB2⟩
  have k2 := Kept.of_below (F := fun _ => False) hB2
  have hE2 : Ev w2 w.heap.size f := hE.kept k2 (fun h => h)
  have hsl2 := hsl1.kept k2 (fun _ _ h => h)
  have hB3 : Below w.heap.size w w2 := hB.trans (hB2.mono (by omega))
  have hz2 := hB2.size
  clear hE hsl1 hB hB2 k2
  obtain ⟨a0, a1, a2, a3, a4, a5, a6, a7, a8, a9⟩ := hE2.ten
  have hlr := lright_any f w2
  simp only [evc] at hlr
  go_wp2_with fail
  refine hlr.mono ?_
  clear hlr
  rintro e w3 ⟨rfl, hB4⟩
  have k4 := Kept.of_below (F := fun _ => False) hB4
  have hE3 : Ev w3 w.heap.size f := hE2.kept k4 (fun h => h)
  have hsl3 := hsl2.kept k4 (fun _ _ h => h)
  have hB5 : Below w.heap.size w w3 := hB3.trans (hB4.mono (by omega))
  have hz3 := hB4.size
  clear hE2 hsl2 hB3 hB4 k4 a0 a1 a2 a3 a4 a5 a6 a7 a8 a9
  obtain ⟨a0, a1, a2, a3, a4, a5, a6, a7, a8, a9⟩ := hE3.ten
  by_cases hr : right f
  · rw [decide_eq_true hr]
    by_cases hm : 60 < more.length
    · have c1 : (60 : Int) < (more.length : Int) := by omega
      go_wp2_with fail
      go_ret
      exact ⟨rfl, hB5⟩
    · have c1 : ¬ (60 : Int) < (more.length : Int) := by omega
      have hput := putE_any none 0 [] f (fun _ => False) w3 (fun i hi => by simp [ib] at hi) (by simp) hr (fun _ h => h.elim)
      rw [List.nil_append] at hput
      simp only [evc] at hput
      go_wp2_with fail
      refine hput.mono ?_
      clear hput
      rintro e w4 ⟨v, rfl, hown, hB6⟩
      have k6 := Kept.of_below (F := fun _ => False) hB6
      have hE4 : Ev w4 w.heap.size f := hE3.kept k6 (fun h => h)
      have hsl4 := hsl3.kept k6 (fun _ _ h => h)
      have hB7 : Below w.heap.size w w4 := hB5.trans (hB6.mono (by omega))
      have hz4 := hB6.size
      clear hE3 hsl3 hB5 hB6 k6 a0 a1 a2 a3 a4 a5 a6 a7 a8 a9
      obtain ⟨p1, c2, rfl, hc2, -, hslb⟩ := hown.sl
      rw [ib_length] at hc2 ⊢
      have l1 := encE_pos f
      have l2 := encE_len hr
      have hbyte := encE_byte hr
      have hcutE := fun k => getE_cut (k := k) hr
      have hencE := getE_enc hr
      generalize encE f = zs at *
      obtain ⟨L, hL⟩ : ∃ L, zs.length = L := ⟨_, rfl⟩
      rw [hL] at hc2 l1 l2 hcutE hencE ⊢
      have f1 : ((L : Int) == 0) = false := by simp; omega
      obtain ⟨k, hk, hkL⟩ : ∃ k : Nat, wrap64 ((IntKind.u64.wrap cut).tmod (L : Int)) = (k : Int) ∧ k < L := by
        have u0 : 0 ≤ IntKind.u64.wrap cut := by rw [IntKind.wrap_u64]; omega
        have u1 : (IntKind.u64.wrap cut).tmod (L : Int) = (IntKind.u64.wrap cut) % (L : Int) := Int.tmod_eq_emod_of_nonneg u0
        have u2 : 0 ≤ (IntKind.u64.wrap cut) % (L : Int) := Int.emod_nonneg _ (by omega)
        have u3 : (IntKind.u64.wrap cut) % (L : Int) < (L : Int) := Int.emod_lt_of_pos _ (by omega)
        refine ⟨((IntKind.u64.wrap cut) % (L : Int)).toNat, ?_, by omega⟩
        rw [u1, IntWalk.wrap64_in _ ⟨by omega, by omega⟩]
        omega
      have f2 : (k : Int) ≤ (c2 : Int) := by omega
      have f3 : ¬ c2 = 0 := by omega
      have hlen : (zs.take k).length = k := by simp; omega
      have hslk : Sl .u8 w4 (fun x => w3.heap.size ≤ x ∧ x < w4.heap.size) p1 (ib (zs.take k)) := by rw [ib_take]; exact Sl.take hslb k
      obtain ⟨g0, hg0⟩ : ∃ g, noev = g := ⟨_, rfl⟩
      have hget := get_any p1 c2 (zs.take k) _ w4 hslk (fun x hx => hx.2) (by omega) (by omega) (fun c hc => hbyte c (List.mem_of_mem_take hc)) noev 0 5 (hcutE k hkL)
      rw [hlen, hg0] at hget
      simp only [evc] at hget
      clear hslk hlen hown
      go_wp2_with fail
      refine hget.mono ?_
      clear hget
      rintro e w5 ⟨rfl, hB8⟩
      have k8 := Kept.of_below (F := fun _ => False) hB8
      have hE5 : Ev (w5.alloc (.cells (evc g0) 24)) w.heap.size f := (hE4.kept k8 (fun h => h)).kept ((Kept.refl (fun _ => False) w5).alloc _) (fun h => h)
      have hX5 : Ev (w5.alloc (.cells (evc g0) 24)) w5.heap.size g0 := Ev.new _ _
      have hsl5 : Sl .u8 (w5.alloc (.cells (evc g0) 24)) (fun x => x < w.heap.size) a (ib more) := (hsl4.kept k8 (fun _ _ h => h)).kept ((Kept.refl (fun _ => False) w5).alloc _) (fun _ _ h => h)
      have hslb5 : Sl .u8 (w5.alloc (.cells (evc g0) 24)) (fun x => w3.heap.size ≤ x ∧ x < w4.heap.size) p1 (ib zs) := (hslb.kept k8 (fun _ _ h => h)).kept ((Kept.refl (fun _ => False) w5).alloc _) (fun _ _ h => h)
      have hB9 : Below w.heap.size w (w5.alloc (.cells (evc g0) 24)) := (hB7.trans (hB8.mono (by omega))).alloc (by have := hB8.size; omega) _
      have hz5 : w5.heap.size < (w5.alloc (.cells (evc g0) 24)).heap.size := by simp
      have hz45 := hB8.size
      obtain ⟨w6, hw6⟩ : ∃ w6, w5.alloc (.cells (evc g0) 24) = w6 := ⟨_, rfl⟩
      rw [hw6] at hE5 hX5 hsl5 hslb5 hB9 hz5
      simp only [evc] at hw6
      go_upto_region 8 with fail
      clear hw6 hE4 hsl4 hB7 hB8 k8 hslb
      have hown0 : OwnI (w6.alloc (.cells #[] 5)) w6.heap.size 5 .u8 (.slice (some ⟨w6.heap.size, 0, none⟩) 0 0) (ib []) := OwnI.empty w6 w6.heap.size 5 .u8 (Nat.le_refl _)
      have hE7 : Ev (w6.alloc (.cells #[] 5)) w.heap.size f := hE5.kept ((Kept.refl (fun _ => False) w6).alloc _) (fun h => h)
      have hX7 : Ev (w6.alloc (.cells #[] 5)) w5.heap.size g0 := hX5.kept ((Kept.refl (fun _ => False) w6).alloc _) (fun h => h)
      have hsl7 : Sl .u8 (w6.alloc (.cells #[] 5)) (fun x => x < w.heap.size) a (ib more) := hsl5.kept ((Kept.refl (fun _ => False) w6).alloc _) (fun _ _ h => h)
      have hslb7 : Sl .u8 (w6.alloc (.cells #[] 5)) (fun x => w3.heap.size ≤ x ∧ x < w4.heap.size) p1 (ib zs) := hslb5.kept ((Kept.refl (fun _ => False) w6).alloc _) (fun _ _ h => h)
      have hB10 : Below w.heap.size w (w6.alloc (.cells #[] 5)) := hB9.alloc (by omega) _
      have hz7 : w6.heap.size ≤ (w6.alloc (.cells #[] 5)).heap.size := by simp
      obtain ⟨w7, hw7⟩ : ∃ w7, w6.alloc (.cells #[] 5) = w7 := ⟨_, rfl⟩
      rw [hw7] at hown0 hE7 hX7 hsl7 hslb7 hB10 hz7
      clear hE5 hX5 hsl5 hslb5 hB9
      have hob : ∀ x, some x = Value.ownBlock (.slice (some ⟨w6.heap.size, 0, none⟩) 0 0) → x = w6.heap.size := fun x h => by injection h
      have HB := Lib.hid hbyte
      have HM := Lib.hid hmb
      have HG := Lib.hid hencE
      clear hbyte hmb hencE hcutE
      go_wp2_with (first
        | (at_builtin; go_loud (
           refine wpList_append_ints rfl _ _ _ rfl w6.heap.size 5 .u8 i0 (.int .u8 0) 1 Try.underlying25 hi0 iz0 iz1 iz2 rfl (.slice (some ⟨w6.heap.size, 0, none⟩) 0 0) _ rfl hown0 p1 c2 (ib zs) _ (by rw [ib_length, hL]; rfl) hslb7 (by rw [ib_length, ib_length, hL]; unfold maxLen; simp; omega) (by rw [ib_length, ib_length, hL]; simp; omega) hz7 ?_
           intro v8 w8 hown8 hgrow8 hloc8
           have k9 : Kept (fun x => some x = Value.ownBlock (.slice (some ⟨w6.heap.size, 0, none⟩) 0 0)) w7 w8 := Kept.of_grown hgrow8
           have hE8 := hE7.kept k9 (fun h => by have := hob _ h; omega)
           have hX8 := hX7.kept k9 (fun h => by have := hob _ h; omega)
           have hsl8 := hsl7.kept k9 (fun x hx h => by have := hob _ h; omega)
           have hB11 : Below w.heap.size w w8 := hB10.trans (k9.below hB10.size (fun x hx h => by have := hob _ h; omega))
           have hz8 : w6.heap.size ≤ w8.heap.size := by have := k9.size; omega
           have hown8' : OwnI w8 w6.heap.size 5 .u8 v8 (ib zs) := hown8
           clear hown0 hE7 hX7 hsl7 hslb7 hB10 hgrow8 hloc8 hown8))
        | (at_builtin; refine wpList_append_ints rfl _ _ _ rfl w6.heap.size 5 .u8 i0 (.int .u8 0) 1 Try.underlying25 hi0 iz0 iz1 iz2 rfl v8 _ rfl hown8' a cap (ib more) _ (by rw [ib_length]; rfl) hsl8 (by rw [ib_length, ib_length, hL]; unfold maxLen; omega) (by rw [ib_length, ib_length, hL]; omega) hz8 ?_
           intro v9 w9 hown9 hgrow9 hloc9
           have k10 : Kept (fun x => some x = v8.ownBlock) w8 w9 := Kept.of_grown hgrow9
           have hlt8 := hown8'.lt
           have hE9 := hE8.kept k10 (fun h => by have := hlt8 _ h.symm; omega)
           have hX9 := hX8.kept k10 (fun h => by have := hlt8 _ h.symm; omega)
           have hB12 : Below w.heap.size w w9 := hB11.trans (k10.below hB11.size (fun x hx h => by have := hlt8 _ h.symm; omega))
           have hz9 : w6.heap.size ≤ w9.heap.size := by have := k10.size; omega
           have hown9' : OwnI w9 w6.heap.size 5 .u8 v9 (ib (zs ++ more)) := by rw [ib_append]; exact hown9
           obtain ⟨p9, c9, rfl, hle9, -, hsl9⟩ := hown9'.sl
           rw [ib_length] at hle9
           have hget9 := get_any p9 c9 (zs ++ more) _ w9 hsl9 (fun x hx => hx.2) hle9 (by rw [List.length_append, hL]; omega) (fun c hc => by
             rcases List.mem_append.1 hc with hc | hc
             · exact HB.out c hc
             · exact HM.out c hc) f L 0 (HG.out more)
           rw [List.length_append, hL] at hget9
           simp only [evc] at hget9
           rw [ib_length, List.length_append, hL]
           clear hown8' hown9' hown9 hE8 hX8 hB11 hgrow9 hloc9 hlt8 hsl8 hsl9))
      refine hget9.mono ?_
      clear hget9
      rintro e w10 ⟨rfl, hB13⟩
      have k11 := Kept.of_below (F := fun _ => False) hB13
      have hz10 := hB13.size
      have hE11 : Ev (w10.alloc (.cells (evc f) 24)) w.heap.size f := (hE9.kept k11 (fun h => h)).kept ((Kept.refl (fun _ => False) w10).alloc _) (fun h => h)
      have hX11 : Ev (w10.alloc (.cells (evc f) 24)) w5.heap.size g0 := (hX9.kept k11 (fun h => h)).kept ((Kept.refl (fun _ => False) w10).alloc _) (fun h => h)
      have hY11 : Ev (w10.alloc (.cells (evc f) 24)) w10.heap.size f := Ev.new _ _
      have hB14 : Below w.heap.size w (w10.alloc (.cells (evc f) 24)) := (hB12.trans (hB13.mono hB12.size)).alloc (by have := hB12.size; omega) _
      obtain ⟨w11, hw11⟩ : ∃ w11, w10.alloc (.cells (evc f) 24) = w11 := ⟨_, rfl⟩
      rw [hw11] at hE11 hX11 hY11 hB14
      simp only [evc] at hw11
      go_upto_region 9 with fail
      clear hw11 hE9 hX9 hB12 hB13 k11
      obtain ⟨a0, a1, a2, a3, a4, a5, a6, a7, a8, a9⟩ := hE11.ten
      obtain ⟨b0, b1, b2, b3, b4, b5, b6, b7, b8, b9⟩ := hX11.ten
      obtain ⟨d0, d1, d2, d3, d4, d5, d6, d7, d8, d9⟩ := hY11.ten
      have heq1 : ∀ w : World, (binOp .eql 24 (.agg #[.int .i64 (g0 0), .int .i64 (g0 1), .int .i64 (g0 2), .int .i64 (g0 3), .int .i64 (g0 4), .int .i64 (g0 5), .int .i64 (g0 6), .int .i64 (g0 7), .int .i64 (g0 8), .int .i64 (g0 9)]) (.agg #[.int .i64 0, .int .i64 0, .int .i64 0, .int .i64 0, .int .i64 0, .int .i64 0, .int .i64 0, .int .i64 0, .int .i64 0, .int .i64 0])).run Try.prog w = .ok (.bool true) w := fun w => by
        have := eql_ev g0 noev w
        rw [show decide (g0 = noev) = true by rw [hg0]; simp] at this
        exact this
      have heq2 := eql_ev f f
      rw [show decide (f = f) = true by simp] at heq2
      simp only [evc] at heq2
      have hgd := guard_ev
      go_wp2_with fail
      go_ret
      exact ⟨rfl, hB14⟩
  · rw [decide_eq_false hr]
    go_wp2_with fail
    go_ret
    exact ⟨rfl, hB5⟩

theorem evc_range (z : Nat → Int) : evc (evOf z) = ((List.range 10).map fun j => Value.int .i64 (z j)).toArray := rfl

theorem eventCuts_walk (z0 : Nat → Int) (a1 : Int) (a2 : Option Addr) (cap2 : Nat) (z2 : List Int) (w : World) (w0 : ∀ j, (Lit.int .i64 (z0 j)).wf = true) (w1 : (Lit.int .i64 a1).wf = true) (w2 : IsInts .u8 w a2 z2) (y2 : z2.length ≤ cap2) :
    Calls Try.prog 3 #[.agg ((List.range 10).map fun j => Value.int .i64 (z0 j)).toArray, .int .i64 a1, .slice a2 z2.length cap2] w fun e w' => e = .returned (.bool true) ∧ Below w.heap.size w w' := by
  obtain ⟨zs, rfl, hb, hsl⟩ := isBytes w2
  rw [ib_length] at y2 ⊢
  rw [← evc_range]
  have := bounds_i64 w1
  exact eventCuts_any (evOf z0) a1 a2 cap2 zs w ⟨by omega, by omega⟩ hsl y2 hb
end Go.Proofs.Ytbdkbhicjbaffaa
