/- The host to which so much memory goes; the document's example. -/
import Derived.Test.YtihhnejpnjcidaaWalks
namespace Go.Proofs.Ytihhnejpnjcidaa
open Go.RowKit Go.Kpt
set_option linter.unusedVariables false

/-- Up: there, and not draining. -/
def up (m : Ma) : Bool := m.th && !m.dr
def good (m : Ma) : Prop := 0 ≤ m.us ∧ m.us ≤ m.sz ∧ m.sz ≤ 4096
/-- Which of the first hosts it is. -/
def fitK (f : Nat → Ma) (mem : Int) : Nat → Option Nat
  | 0 => none
  | k + 1 => if up (f k) = true ∧ mem ≤ free (f k) ∧ (∀ b, fitK f mem k = some b → free (f k) < free (f b)) then some k else fitK f mem k
def bi : Option Nat → Int
  | none => -1
  | some b => b

theorem fitK_lt (f : Nat → Ma) (mem : Int) : ∀ n b, fitK f mem n = some b → b < n := by
  intro n
  induction n with
  | zero => intro b h; cases h
  | succ k ih =>
    intro b h
    simp only [fitK] at h
    split at h
    · cases h; omega
    · have := ih b h; omega
theorem fitK_none (f : Nat → Ma) (mem : Int) : ∀ n, fitK f mem n = none → ∀ h, h < n → up (f h) = true → free (f h) < mem := by
  intro n
  induction n with
  | zero => intro _ h hh; omega
  | succ k ih =>
    intro h0 h hh hu
    simp only [fitK] at h0
    split at h0
    · cases h0
    · rename_i hn
      by_cases hk : h = k
      · subst hk
        refine Int.not_le.1 fun hle => hn ⟨hu, hle, fun b hb => ?_⟩
        rw [h0] at hb; cases hb
      · exact ih h0 h (by omega) hu
theorem fitK_some (f : Nat → Ma) (mem : Int) : ∀ n b, fitK f mem n = some b → up (f b) = true ∧ mem ≤ free (f b) ∧ ∀ h, h < n → up (f h) = true → mem ≤ free (f h) → free (f b) < free (f h) ∨ (free (f b) = free (f h) ∧ b ≤ h) := by
  intro n
  induction n with
  | zero => intro b h; cases h
  | succ k ih =>
    intro b h0
    simp only [fitK] at h0
    split at h0
    · rename_i hc
      cases h0
      refine ⟨hc.1, hc.2.1, fun h hh hu hm => ?_⟩
      by_cases hk : h = k
      · subst hk; exact .inr ⟨rfl, Nat.le_refl _⟩
      · cases hf : fitK f mem k with
        | none => have := fitK_none f mem k hf h (by omega) hu; omega
        | some c =>
          have h1 := hc.2.2 c hf
          have h2 := (ih c hf).2.2 h (by omega) hu hm
          left; omega
    · rename_i hc
      have hi := ih b h0
      refine ⟨hi.1, hi.2.1, fun h hh hu hm => ?_⟩
      by_cases hk : h = k
      · subst hk
        have hlt := fitK_lt f mem h b h0
        by_cases hl : free (f h) < free (f b)
        · exact absurd ⟨hu, hm, fun c hcc => by rw [h0] at hcc; cases hcc; exact hl⟩ hc
        · by_cases he : free (f b) = free (f h)
          · exact .inr ⟨he, by omega⟩
          · left; omega
      · exact hi.2.2 h (by omega) hu hm

theorem free_bd {m : Ma} (h : good m) : 0 ≤ free m ∧ free m ≤ 4096 := by
  obtain ⟨h1, h2, h3⟩ := h
  unfold free
  split <;> omega

set_option maxRecDepth 100000 in
set_option maxHeartbeats 4000000 in
theorem fit_any (b : Nat) (f : Nat → Ma) (hg : ∀ h, h < 32 → good (f h)) (mem : Int) (hm : 0 ≤ mem) (w : World) (q : Hq w b f) :
    Calls Try.prog 13 #[.pointer (some ⟨b, 0, none⟩), .int .i64 mem] w fun e w' => e = .returned (.tuple #[.int .i64 (max (bi (fitK f mem 32)) 0), .bool (fitK f mem 32).isSome]) ∧ Hq w' b f ∧ Below w.heap.size w w' := by
  have hm' : ¬ mem < 0 := by omega
  go_enter Try.func13, Try.ntmps13
  go_wp2_with fail
  go_loopw [8, 6] (fun x y wr => ∃ (k : Nat), x = .int .i64 k ∧ k ≤ 32 ∧ y = .int .i64 (bi (fitK f mem k)) ∧ Hq wr b f ∧ Below w.heap.size w wr) (fun x _ _ => 32 - (intOf x).toNat)
  case atStart => exact ⟨0, rfl, by omega, rfl, q, Below.refl _ _⟩
  case round =>
    obtain ⟨k, rfl, hk, rfl, hq, hB⟩ := hrel
    by_cases hlt : k < 32
    · have j1 : (k : Int) < 32 := by omega
      have hup := up_any b f k hlt wr hq
      have hfr := fun W (h : Hq W b f) => free_any b f k hlt (hg k hlt) W h
      have hbd := free_bd (hg k hlt)
      have hfk : ∀ v, (if up (f k) = true ∧ mem ≤ free (f k) ∧ (∀ b, fitK f mem k = some b → free (f k) < free (f b)) then some k else fitK f mem k) = v → fitK f mem (k + 1) = v := fun v h => by simp only [fitK]; exact h
      cases hu : ((f k).th && !(f k).dr)
      · rw [hu] at hup
        have hfk := hfk (fitK f mem k) (if_neg fun h => by have h := h.1; simp only [up, hu] at h; cases h)
        go_wp2_with fail
        refine hup.mono ?_
        rintro e w1 ⟨rfl, rfl⟩
        go_wp2_with fail
        go_roundw
        case rel => exact ⟨k + 1, by go_num, by omega, by rw [hfk], hq, hB⟩
        case measure => simp [intOf]; omega
      · rw [hu] at hup
        obtain ⟨F, hF⟩ : ∃ F, free (f k) = F := ⟨_, rfl⟩
        rw [hF] at hfr hbd hfk
        by_cases hle : mem ≤ F
        · cases ho : fitK f mem k with
          | none =>
            rw [ho] at hfk
            have hfk := hfk (some k) (if_pos ⟨hu, hle, fun b hb => by cases hb⟩)
            rw [show bi none = -1 from rfl]
            go_wp2_with fail
            refine hup.mono ?_
            rintro e w1 ⟨rfl, rfl⟩
            go_wp2_with fail
            refine (hfr _ hq).mono ?_
            rintro e w2 ⟨rfl, m, rfl⟩
            go_wp2_with fail
            go_roundw
            case rel => exact ⟨k + 1, by go_num, by omega, by rw [hfk]; rfl, hq.below (below_drewN (Below.refl _ _) m), below_drewN hB m⟩
            case measure => simp [intOf]; omega
          | some c =>
            have hcl := fitK_lt f mem k c ho
            have hc0 : ¬ (c : Int) < 0 := by omega
            rw [ho] at hfk
            obtain ⟨G, hG⟩ : ∃ G, free (f c) = G := ⟨_, rfl⟩
            have hfc := fun W (h : Hq W b f) => free_any b f c (by omega) (hg c (by omega)) W h
            rw [hG] at hfc
            rw [show bi (some c) = (c : Int) from rfl]
            by_cases hl : F < G
            · have hfk := hfk (some k) (if_pos ⟨hu, hle, fun b hb => by cases hb; rw [hG]; exact hl⟩)
              go_wp2_with fail
              refine hup.mono ?_
              rintro e w1 ⟨rfl, rfl⟩
              go_wp2_with fail
              refine (hfr _ hq).mono ?_
              rintro e w2 ⟨rfl, m, rfl⟩
              have hq2 := hq.below (below_drewN (Below.refl _ _) m)
              have hB2 := below_drewN hB m
              generalize wr.drewN m = v2 at *
              go_wp2_with fail
              refine (hfr _ hq2).mono ?_
              rintro e w2 ⟨rfl, m2, rfl⟩
              have hq3 := hq2.below (below_drewN (Below.refl _ _) m2)
              have hB3 := below_drewN hB2 m2
              generalize v2.drewN m2 = v3 at *
              go_wp2_with fail
              refine (hfc _ hq3).mono ?_
              rintro e w2 ⟨rfl, m3, rfl⟩
              go_wp2_with fail
              go_roundw
              case rel => exact ⟨k + 1, by go_num, by omega, by rw [hfk]; rfl, hq3.below (below_drewN (Below.refl _ _) m3), below_drewN hB3 m3⟩
              case measure => simp [intOf]; omega
            · have hfk := hfk (some c) (if_neg fun h => hl (by have := h.2.2 c rfl; rwa [hG] at this))
              go_wp2_with fail
              refine hup.mono ?_
              rintro e w1 ⟨rfl, rfl⟩
              go_wp2_with fail
              refine (hfr _ hq).mono ?_
              rintro e w2 ⟨rfl, m, rfl⟩
              have hq2 := hq.below (below_drewN (Below.refl _ _) m)
              have hB2 := below_drewN hB m
              generalize wr.drewN m = v2 at *
              go_wp2_with fail
              refine (hfr _ hq2).mono ?_
              rintro e w2 ⟨rfl, m2, rfl⟩
              have hq3 := hq2.below (below_drewN (Below.refl _ _) m2)
              have hB3 := below_drewN hB2 m2
              generalize v2.drewN m2 = v3 at *
              go_wp2_with fail
              refine (hfc _ hq3).mono ?_
              rintro e w2 ⟨rfl, m3, rfl⟩
              go_wp2_with fail
              go_roundw
              case rel => exact ⟨k + 1, by go_num, by omega, by rw [hfk]; rfl, hq3.below (below_drewN (Below.refl _ _) m3), below_drewN hB3 m3⟩
              case measure => simp [intOf]; omega
        · have hfk := hfk (fitK f mem k) (if_neg fun h => hle h.2.1)
          go_wp2_with fail
          refine hup.mono ?_
          rintro e w1 ⟨rfl, rfl⟩
          go_wp2_with fail
          refine (hfr _ hq).mono ?_
          rintro e w2 ⟨rfl, m, rfl⟩
          go_wp2_with fail
          go_roundw
          case rel => exact ⟨k + 1, by go_num, by omega, by rw [hfk], hq.below (below_drewN (Below.refl _ _) m), below_drewN hB m⟩
          case measure => simp [intOf]; omega
    · obtain rfl : k = 32 := by omega
      cases ho : fitK f mem 32 with
      | none =>
        rw [show bi none = -1 from rfl]
        go_wp2_with fail
        go_returns
        exact ⟨by rw [ho]; rfl, hq, hB⟩
      | some c =>
        have hc0 : (0 : Int) ≤ c := by omega
        rw [show bi (some c) = (c : Int) from rfl]
        go_wp2_with fail
        go_returns
        refine ⟨?_, hq, hB⟩
        rw [ho]
        simp [bi]
end Go.Proofs.Ytihhnejpnjcidaa
