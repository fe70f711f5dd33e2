/- The events of which bytes are made. -/
import Derived.Test.YtbdkbhicjbaffaaGet2
import Derived.Test.YtbdkbhicjbaffaaEvRow
import Derived.Deep.CutRange
namespace Go.Proofs.Ytbdkbhicjbaffaa
open Go.RowKit Go.Kpt WirePure
set_option linter.unusedVariables false

theorem allE_nil (fuel c : Nat) : allE fuel [] c = ([], 0, 0) := by cases fuel <;> simp [allE]
theorem allE_err {fuel c : Nat} {zs : List Nat} {f : Evt} {n e : Nat} (hz : zs ≠ []) (h : getE zs = (f, n, e)) (he : e ≠ 0) : allE (fuel + 1) zs c = ([], 0, e) := by
  unfold allE; rw [if_neg hz, h]; dsimp only; rw [if_pos he]
theorem allE_full {fuel : Nat} {zs : List Nat} {f : Evt} {n : Nat} (hz : zs ≠ []) (h : getE zs = (f, n, 0)) : allE (fuel + 1) zs 16384 = ([], 0, 6) := by
  unfold allE; rw [if_neg hz, h]; dsimp only; rw [if_neg (by omega), if_pos rfl]
theorem allE_next {fuel c : Nat} {zs : List Nat} {f : Evt} {n : Nat} (hz : zs ≠ []) (h : getE zs = (f, n, 0)) (hc : c ≠ 16384) :
    allE (fuel + 1) zs c = (f :: (allE fuel (zs.drop n) (c + 1)).1, n + (allE fuel (zs.drop n) (c + 1)).2.1, (allE fuel (zs.drop n) (c + 1)).2.2) := by
  rw [allE, if_neg hz, h]; dsimp only; rw [if_neg (by omega), if_neg hc]

def Rest (zs : List Nat) (l0 : List Evt) (at_ fuel : Nat) (L : List Evt) (N E : Nat) : Prop :=
  l0 ++ (allE fuel (zs.drop at_) l0.length).1 = L ∧ at_ + (allE fuel (zs.drop at_) l0.length).2.1 = N ∧ (allE fuel (zs.drop at_) l0.length).2.2 = E ∧ zs.length - at_ ≤ fuel

set_option maxRecDepth 100000 in
set_option maxHeartbeats 1000000 in
theorem all_any (a : Option Addr) (cap : Nat) (zs : List Nat) (p : Nat → Prop) (w : World) (hsl : Sl .u8 w p a (ib zs)) (hp : ∀ x, p x → x < w.heap.size) (hcap : zs.length ≤ cap) (hz : zs.length ≤ 20000) (hcb : ∀ c ∈ zs, c < 256)
    (L : List Evt) (N E : Nat) (hR : allB zs = (L, N, E)) :
    Calls Try.prog 14 #[.slice a zs.length cap] w fun x w' => ∃ v, x = .returned (.tuple #[v, .int .i64 N, .int .i64 E]) ∧ OwnE w' w.heap.size v L ∧ Below w.heap.size w w' := by
  have hnil := OwnE.nil w w.heap.size
  have hRest : Rest zs [] 0 zs.length L N E := by
    unfold allB at hR
    unfold Rest
    simp only [List.length_nil, List.drop_zero, hR]
    simp
  have HR := Lib.hid hRest
  have c9 : ¬ (262144 : Int) < (zs.length : Int) := by omega
  clear hR hRest
  go_enter Try.func14, Try.ntmps14
  go_wp2_with fail
  go_loopw [5, 6] (fun x y wr => ∃ (l0 : List Evt) (at_ fuel : Nat), y = .int .i64 at_ ∧ at_ ≤ zs.length ∧ l0.length ≤ at_ ∧ OwnE wr w.heap.size x l0 ∧ Below w.heap.size w wr ∧ Hid (Rest zs l0 at_ fuel L N E)) (fun _ y _ => zs.length - (intOf y).toNat)
  case atStart => exact ⟨[], 0, zs.length, rfl, by omega, by simp, hnil, Below.refl _ _, HR⟩
  case round =>
    clear hnil HR
    obtain ⟨l0, at_, fuel, rfl, hat, hl0, hown, hB, HR⟩ := hrel
    by_cases hin : at_ < zs.length
    · obtain ⟨x, hx⟩ : ∃ x, getE (zs.drop at_) = x := ⟨_, rfl⟩
      obtain ⟨f, n, e⟩ := x
      obtain ⟨h1, h2, h3, h4⟩ := HR.out
      obtain ⟨fuel, rfl⟩ : ∃ k, fuel = k + 1 := ⟨fuel - 1, by omega⟩
      have hne : zs.drop at_ ≠ [] := fun h => by have := congrArg List.length h; simp at this; omega
      have hslr : Sl .u8 wr p a (ib zs) := hsl.kept (Kept.of_below (F := fun _ => False) (show Below w.heap.size w wr from hB)) (fun _ _ h => h)
      have hsl2 : Sl .u8 wr p (Option.map (fun x => x.add at_) a) (ib (zs.drop at_)) := by rw [ib_drop]; exact Sl.drop hslr at_
      have hbase := hB.size
      have hget := get_any (Option.map (fun x => x.add at_) a) (cap - at_) (zs.drop at_) p wr hsl2 (fun x hx => Nat.lt_of_lt_of_le (hp x hx) hbase) (by simp; omega) (by simp; omega) (fun c hc => hcb c (List.mem_of_mem_drop hc)) f n e hx
      rw [List.length_drop] at hget
      have i1 : (at_ : Int) ≤ (zs.length : Int) := by omega
      have i2 : (zs.length : Int) ≤ (cap : Int) := by omega
      have i3 : ¬ cap = at_ := by omega
      generalize hz2 : zs.length - at_ = len2 at *
      obtain ⟨ao, co, rfl, hle, hmx, -⟩ := hown.se
      simp only [evc] at hget
      have hne2 : Hid (zs.drop at_ ≠ []) := Lib.hid hne
      by_cases he : e = 0
      · subst he
        obtain ⟨q1, q2, q3, q4⟩ := getE_ok (fun c hc => hcb c (List.mem_of_mem_drop hc)) hx
        simp at q3
        have HF : Hid (l0.length = 16384 → l0 = L ∧ at_ = N ∧ 6 = E) := Lib.hid (fun hfull => by
          rw [hfull, allE_full hne hx] at h1 h2 h3
          dsimp only at h1 h2 h3
          rw [List.append_nil] at h1
          exact ⟨h1, by omega, by omega⟩)
        have HN : Hid (l0.length ≠ 16384 → Rest zs (l0 ++ [f]) (at_ + n) fuel L N E) := Lib.hid (fun hc => by
          rw [allE_next hne hx hc, List.drop_drop] at h1 h2 h3
          dsimp only at h1 h2 h3
          unfold Rest
          rw [List.length_append]
          simp only [List.length_singleton]
          refine ⟨by rw [← h1]; simp, by omega, h3, by omega⟩)
        have hw2 : Ev (wr.alloc (.cells (evc f) 24)) wr.heap.size f := Ev.new _ _
        have qn : at_ + n ≤ zs.length := by omega
        obtain ⟨m, hm⟩ : ∃ m, at_ + n = m := ⟨_, rfl⟩
        have e2 : (at_ : Int) + (n : Int) = (m : Int) := by omega
        have e3 : IntKind.i64.wrap (m : Int) = (m : Int) := IntWalk.i64_in _ ⟨by omega, by omega⟩
        have e4 : l0.length + 1 ≤ m := by omega
        have e5 : m ≤ zs.length := by omega
        rw [hm] at HN
        clear h1 h2 h3 h4 hne hne2 hx q1 q4 HR hsl2 hslr hw2
        go_wp2_with fail
        refine hget.mono ?_
        clear hget
        rintro e w2 ⟨rfl, hB2⟩
        have hown2 := hown.below hB2
        have hB3 : Below w.heap.size w w2 := hB.trans (hB2.mono (by omega))
        have hE3 : Ev (w2.alloc (.cells (evc f) 24)) w2.heap.size f := Ev.new _ _
        have hown3 := hown2.alloc (.cells (evc f) 24)
        have hB4 : Below w.heap.size w (w2.alloc (.cells (evc f) 24)) := hB3.alloc (by have := hB2.size; omega) _
        have hz3 : w.heap.size ≤ (w2.alloc (.cells (evc f) 24)).heap.size := hB4.size
        obtain ⟨w3, hw3⟩ : ∃ w3, w2.alloc (.cells (evc f) 24) = w3 := ⟨_, rfl⟩
        rw [hw3] at hE3 hown3 hB4 hz3
        simp only [evc] at hw3
        go_upto_region 7 with fail
        clear hw3 hown hown2 hB hB2 hB3
        obtain ⟨a0, a1, a2, a3, a4, a5, a6, a7, a8, a9⟩ := hE3.ten
        by_cases hfull : l0.length = 16384
        · obtain ⟨rfl, rfl, rfl⟩ := HF.out hfull
          have c1 : ((l0.length : Int) == 16384) = true := by simp; omega
          clear HF HN
          go_wp2_with fail
          go_returns
          exact ⟨_, rfl, hown3, hB4⟩
        · have c1 : ((l0.length : Int) == 16384) = false := by simp; omega
          have HN2 := HN.out hfull
          clear HF HN
          have hE4 : Ev (w3.alloc (.cells (evc f) 24)) w3.heap.size f := Ev.new _ _
          have hown4 := hown3.alloc (.cells (evc f) 24)
          have hz4 : (w3.alloc (.cells (evc f) 24)).heap.size = w3.heap.size + 1 := by simp
          have hB5 : Below w.heap.size w (w3.alloc (.cells (evc f) 24)) := hB4.alloc hz3 _
          obtain ⟨w4, hw4⟩ : ∃ w4, w3.alloc (.cells (evc f) 24) = w4 := ⟨_, rfl⟩
          rw [hw4] at hE4 hown4 hz4 hB5
          simp only [evc] at hw4
          go_wp2_with (at_builtin; refine wpList_append_ev rfl _ _ rfl w.heap.size _ l0 rfl hown4 _ _ f rfl hE4 (by omega) (by omega) ?_; intro v5 w5 hown5 hgrow hloc)
          have hB6 : Below w.heap.size w w5 := hB5.trans ((Kept.of_grown hgrow).below (by omega) (fun x hx h => by have := hown4.lt x h.symm; omega))
          clear hown4 hgrow hloc hE4 hw4
          go_wp2_with fail
          go_roundw
          case rel => exact ⟨l0 ++ [f], m, fuel, rfl, e5, by simpa using e4, hown5, hB6, HN2⟩
          case measure => simp [intOf]; omega
      · rw [allE_err hne hx he] at h1 h2 h3
        dsimp only at h1 h2 h3
        rw [List.append_nil] at h1
        rw [Nat.add_zero] at h2
        subst h1; subst h2; subst h3
        have e1 : ((e : Int) != 0) = true := by simp; omega
        clear h4 HR he hx hne hne2
        go_wp2_with fail
        refine hget.mono ?_
        clear hget
        rintro e w2 ⟨rfl, hB2⟩
        have hown2 := (hown.below hB2).alloc (.cells (evc f) 24)
        have hB3 : Below w.heap.size w (w2.alloc (.cells (evc f) 24)) := (hB.trans (hB2.mono (by omega))).alloc (by have := hB2.size; omega) _
        simp only [evc] at hown2 hB3
        go_wp2_with fail
        go_returns
        exact ⟨_, rfl, hown2, hB3⟩
    · obtain rfl : at_ = zs.length := by omega
      obtain ⟨h1, h2, h3, _⟩ := HR.out
      rw [List.drop_eq_nil_of_le (Nat.le_refl _), allE_nil] at h1 h2 h3
      dsimp only at h1 h2 h3
      rw [List.append_nil] at h1
      rw [Nat.add_zero] at h2
      subst h1; subst h2; subst h3
      clear HR
      go_wp2_with fail
      go_returns
      exact ⟨_, rfl, hown, hB⟩
end Go.Proofs.Ytbdkbhicjbaffaa
