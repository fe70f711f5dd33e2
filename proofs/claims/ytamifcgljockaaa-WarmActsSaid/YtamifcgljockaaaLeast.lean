/- Of what is there the one that is worth least: the law's own look over a map. -/
import Derived.Test.YtamifcgljockaaaWalkWarmTies
namespace Go.Proofs.Ytamifcgljockaaa
open Go.RowKit Go.Kpt HeapPure RatioPure
set_option linter.unusedVariables false

def ratRd (v : Value) : Option (Int × Int) :=
  match v with
  | .agg a => match a.toList with
    | [.int .u64 x, .int .u64 y] => some (x, y)
    | _ => none
  | _ => none
theorem ratRd_inv (v : Value) (x : Int × Int) (h : ratRd v = some x) : v = .agg #[.int .u64 x.1, .int .u64 x.2] := by
  cases v <;> simp [ratRd] at h
  rename_i a
  obtain ⟨l⟩ := a
  split at h
  · rename_i hl
    simp only at hl
    cases h; rw [hl]
  · cases h
theorem ratDat_inj (x y : Int × Int) (h : (DataW.agg [.lit (.int .u64 x.1), .lit (.int .u64 x.2)] : DataW Unit) = .agg [.lit (.int .u64 y.1), .lit (.int .u64 y.2)]) : x = y := by
  obtain ⟨a, b⟩ := x
  obtain ⟨c, d⟩ := y
  injection h with h
  injection h with h1 h2
  injection h2 with h2 _
  injection h1 with h1
  injection h2 with h2
  injection h1 with _ h1
  injection h2 with _ h2
  rw [show a = c from h1, show b = d from h2]
/-- Ratios as a map's elements. -/
def ratE : El (Int × Int) := ⟨fun p => .agg #[.int .u64 p.1, .int .u64 p.2], ratRd, fun _ => rfl, ratRd_inv, fun p => .agg [.lit (.int .u64 p.1), .lit (.int .u64 p.2)], ratDat_inj⟩

def vp (v : Mk) : Int × Int := ((v.n : Int), (v.d : Int))
theorem ratE_vp (v : Mk) : ratE.val (vp v) = .agg #[.int .u64 v.n, .int .u64 v.d] := rfl
/-- What the law's map holds beside a cache. -/
def mo (l : List (Int × Mk)) (k : Int) : Option (Int × Int) := (HeapPure.get l k).map vp
theorem mo_some {l : List (Int × Mk)} {k : Int} {p : Int × Int} (h : mo l k = some p) : ∃ v, HeapPure.get l k = some v ∧ p = vp v := by
  unfold mo at h
  cases e : HeapPure.get l k with
  | none => rw [e] at h; cases h
  | some v => rw [e] at h; exact ⟨v, rfl, by cases h; rfl⟩
theorem mo_isSome (l : List (Int × Mk)) (k : Int) : (mo l k).isSome = (HeapPure.get l k).isSome := by unfold mo; cases HeapPure.get l k <;> rfl

/-- The keys are numbers from nought on, and each thing knows its own. -/
def Named (l : List (Int × Mk)) : Prop := ∀ k v, HeapPure.get l k = some v → v.id = k ∧ 0 ≤ k ∧ k < 16

/-- So far this one is worth least. -/
def Best (l : List (Int × Mk)) (left : Int → Bool) (b : Int) : Prop :=
  (b = -1 ∧ ∀ k, (HeapPure.get l k).isSome = true → left k = true) ∨ (∃ v, HeapPure.get l b = some v ∧ ∀ k u, HeapPure.get l k = some u → left k = false → lt u v = false)

theorem lt_irrefl (u : Mk) : lt u u = false := by rw [lt_false]; omega
theorem best_first {l : List (Int × Mk)} {left : Int → Bool} (h : ∀ k, (HeapPure.get l k).isSome = true → left k = true) {k : Int} {u : Mk} (hk : HeapPure.get l k = some u) : Best l (fun z => left z && !decide (z = k)) k := by
  refine .inr ⟨u, hk, fun k' u' hk' hl => ?_⟩
  by_cases e : k' = k
  · subst e; rw [hk] at hk'; cases hk'; exact lt_irrefl u
  · have h1 := h k' (by rw [hk']; rfl)
    simp [e, h1] at hl
theorem best_more {l : List (Int × Mk)} {left : Int → Bool} {b : Int} {v : Mk} (hb : HeapPure.get l b = some v) (h : ∀ k u, HeapPure.get l k = some u → left k = false → lt u v = false) {k : Int} {u : Mk} (hk : HeapPure.get l k = some u) :
    (lt u v = true → Best l (fun z => left z && !decide (z = k)) k) ∧ (lt u v = false → Best l (fun z => left z && !decide (z = k)) b) := by
  refine ⟨fun hl => .inr ⟨u, hk, fun k' u' hk' hz => ?_⟩, fun hl => .inr ⟨v, hb, fun k' u' hk' hz => ?_⟩⟩
  · by_cases e : k' = k
    · subst e; rw [hk] at hk'; cases hk'; exact lt_irrefl u
    · have hz' : left k' = false := by simpa [e] using hz
      exact ord_lt.trans u v u' (ord_lt.asym u v hl) (h k' u' hk' hz')
  · by_cases e : k' = k
    · subst e; rw [hk] at hk'; cases hk'; exact hl
    · exact h k' u' hk' (by simpa [e] using hz)

theorem best_end {l : List (Int × Mk)} (G : HeapPure.Good lt l) (hN : Named l) {left : Int → Bool} (hl : ∀ k, left k = false) {b : Int} (h : Best l left b) : b = if 0 < l.length then kk l 0 else -1 := by
  rcases h with ⟨rfl, h⟩ | ⟨v, hv, h⟩
  · have : l.length = 0 := len_zero G (fun k => by
      cases e : HeapPure.get l k with
      | none => rfl
      | some v => have := h k (by rw [e]; rfl); rw [hl] at this; cases this)
    rw [if_neg (by omega)]
  · have hp := len_pos hv
    rw [if_pos hp]
    obtain ⟨m1, m2⟩ := min_spec G hp
    have h1 := h _ _ m1 (hl _)
    have h2 := m2 b v hv
    rw [lt_false] at h1 h2
    have i1 := (hN _ _ m1).1
    have i2 := (hN _ _ hv).1
    omega

/-- The step of a range over ratios. -/
theorem wpList_mo_next {ops : Array Oper} {rest : List Oper} {o : Oper} {a : Act} {Q : Exit → Act → World → Prop} (w : World) (hg : o.guard = none) (it : Operand) (hop : o.op = Op.next it false)
    (mb r c : Nat) (l : List (Int × Mk)) (left : Int → Bool) (cnt : Nat) (hit : a.eval it = .pointer (some ⟨r, 0, none⟩)) (h : Gr ratE Try.prog 3 w mb r c (mo l) left cnt)
    (hDone : cnt = 0 → (∀ k, left k = false) → wpList Try.prog ops Q rest (a.put o.dst (.tuple #[.bool false])) w)
    (hMore : ∀ (k : Int) (v : Mk) (w' : World) (cnt' : Nat), (Lit.int .i64 k).wf = true → left k = true → HeapPure.get l k = some v → Gr ratE Try.prog 3 w' mb r c (mo l) (fun z => left z && !decide (z = k)) cnt' → cnt' < cnt →
      Kept (fun b => b = r) w w' → w'.heap.size = w.heap.size → (Instr.entry (.pointer (some ⟨r, 0, none⟩))).run Try.prog w' = .ok (.tuple #[.int .i64 k, .agg #[.int .u64 v.n, .int .u64 v.d]]) w' → wpList Try.prog ops Q rest (a.put o.dst (.tuple #[.bool true, .int .i64 k, .agg #[.int .u64 v.n, .int .u64 v.d]])) w') :
    wpList Try.prog ops Q (o :: rest) a w :=
  wpList_gm_next (E := ratE) w hg it hop Try.underlying3 mb r c (mo l) left cnt hit h hDone fun k x w' cnt' h1 h2 h3 h4 h5 h6 h7 h8 => by
    obtain ⟨v, hv, rfl⟩ := mo_some h3
    exact hMore k v w' cnt' h1 h2 hv h4 h5 h6 h7 h8

theorem wpList_mo_get {ops : Array Oper} {rest : List Oper} {o : Oper} {a : Act} {Q : Exit → Act → World → Prop} (w : World) (hg : o.guard = none) (x y : Operand) (hop : o.op = Op.lookup 45 x y false)
    (mb c : Nat) (l : List (Int × Mk)) (hm : a.eval x = .map (some mb)) (h : Gm ratE Try.prog 3 w mb c (mo l)) (k : Int) (hx : a.eval y = .int .i64 k) (hw : (Lit.int .i64 k).wf = true) (v : Mk) (hv : HeapPure.get l k = some v)
    (hK : wpList Try.prog ops Q rest (a.put o.dst (.agg #[.int .u64 v.n, .int .u64 v.d])) w) : wpList Try.prog ops Q (o :: rest) a w := by
  refine wpList_gm_get (E := ratE) (et := 34) w hg x y hop Try.underlying3 Try.underlying45 (0, 0) (by kernel_rfl) mb c (mo l) hm h k hx hw ?_
  have e : mo l k = some (vp v) := by unfold mo; rw [hv]; rfl
  rw [e]
  exact hK

set_option maxRecDepth 100000 in
set_option maxHeartbeats 3000000 in
theorem least_any (l : List (Int × Mk)) (G : HeapPure.Good lt l) (hN : Named l) (mb c : Nat) (w : World) (h : Gm ratE Try.prog 3 w mb c (mo l)) :
    Calls Try.prog 18 #[.map (some mb)] w fun e w' => e = .returned (.int .i64 (if 0 < l.length then kk l 0 else -1)) ∧ Below w.heap.size w w' := by
  have hend := fun (left : Int → Bool) (b : Int) (h1 : ∀ k, left k = false) (h2 : Best l left b) => best_end G hN h1 h2
  generalize (if 0 < l.length then kk l 0 else -1) = R at *
  go_enter Try.func18, Try.ntmps18
  go_wp2_with ((at_range; refine wpList_gm_range (E := ratE) (et := 34) _ rfl _ rfl Try.underlying3 Try.underlying45 mb c (mo l) rfl h ?_; intro wx hR0 kx hsz))
  go_frame
  obtain ⟨r, hr⟩ : ∃ r, w.heap.size = r := ⟨_, rfl⟩
  have hmr : mb < r := by rw [← hr]; exact h.lt
  rw [hr] at hR0
  have hh := h.lt
  clear h hsz
  rw [hr] at kx ⊢
  have HR := Lib.hid hr
  clear hr
  go_loopw [3] (fun v wr => ∃ (b : Int) (left : Int → Bool) (cnt : Nat), v = .int .i64 b ∧ Best l left b ∧ Gr ratE Try.prog 3 wr mb r c (mo l) left cnt ∧ Below r w wr) (fun _ wr => wr.rangeLeft mb r)
  case atStart => exact ⟨-1, _, c, rfl, .inl ⟨rfl, fun k hk => by rw [mo_isSome]; exact hk⟩, hR0, kx⟩
  case round =>
    clear hR0 kx
    obtain ⟨b, left, cnt, rfl, hb, hR, hB⟩ := hrel
    have hle := hR.left_eq
    rcases hb with ⟨rfl, hb⟩ | ⟨v, hv, hb⟩
    · go_wp2_with ((at_next; refine wpList_mo_next _ rfl _ rfl mb r c l left cnt rfl hR (fun hc0 hl0 => ?_) (fun k u wz cnt' hwk hlk hmk hR1 hlt kz hsz hen => ?_)))
      · have := hend _ _ hl0 (.inl ⟨rfl, hb⟩)
        subst this
        go_ret
        exact ⟨rfl, by rw [HR.out]; exact hB⟩
      · have k5 : Below wz.heap.size wz (wz.alloc (.cells #[.int .u64 u.n, .int .u64 u.d] 34)) := (Below.refl _ _).alloc (Nat.le_refl _) _
        have hR2 := hR1.below k5
        have hrB : Below r w wz := hB.trans (kz.below (by have := hR.lt; omega) (fun x hx hh => by omega))
        have hm2 := hR2.left_eq
        go_roundw
        case rel => exact ⟨k, _, cnt', rfl, best_first hb hmk, hR2, hrB.trans (k5.mono (by have := hR1.lt; omega))⟩
        case measure => rw [hle, hm2]; exact hlt
    · have hb0 := (hN b v hv).2
      have hnb : ¬ b < 0 := by omega
      have hwb : (Lit.int .i64 b).wf = true := WalkArith.wf_i64 (by omega)
      go_wp2_with (first
        | (at_next; refine wpList_mo_next _ rfl _ rfl mb r c l left cnt rfl hR (fun hc0 hl0 => ?_) (fun k u wz cnt' hwk hlk hmk hR1 hlt kz hsz hen => ?_))
        | (at_lookup; refine wpList_mo_get _ rfl _ _ rfl mb c l rfl (hR1.owns.below ((Below.refl _ _).alloc (Nat.le_refl _) _)) b rfl hwb v hv ?_))
      · have := hend _ _ hl0 (.inr ⟨v, hv, hb⟩)
        subst this
        go_ret
        exact ⟨rfl, by rw [HR.out]; exact hB⟩
      · have k5 : Below wz.heap.size wz (wz.alloc (.cells #[.int .u64 u.n, .int .u64 u.d] 34)) := (Below.refl _ _).alloc (Nat.le_refl _) _
        have hR2 := hR1.below k5
        have hrB : Below r w wz := hB.trans (kz.below (by have := hR.lt; omega) (fun x hx hh => by omega))
        have hrB2 := hrB.trans (k5.mono (by have := hR1.lt; omega))
        have hcm := lawCompare_sgn u.n u.d v.n v.d u.hn u.hd v.hn v.hd u.pos v.pos (wz.alloc (.cells #[.int .u64 u.n, .int .u64 u.d] 34))
        obtain ⟨s, hs⟩ : ∃ s, sgn (u.n * v.d) (v.n * u.d) = s := ⟨_, rfl⟩
        rw [hs] at hcm
        obtain ⟨hmo1, hmo2⟩ := best_more hv hb hmk
        have huk := (hN k u hmk).1
        have hvb := (hN b v hv).1
        clear hb hen k5 hR1 hrB hB hR
        refine hcm.mono ?_
        clear hcm
        rintro e w2 ⟨rfl, k6⟩
        have hR3 := hR2.below k6
        have hB3 := hrB2.trans (k6.mono (by have := hR2.lt; omega))
        have hm2 := hR3.left_eq
        have hrs : wr.rangeLeft mb r = cnt := hle
        clear hR2 hrB2 k6 hle
        rcases Nat.lt_trichotomy (u.n * v.d) (v.n * u.d) with hc | hc | hc
        · rw [sgn_lt hc] at hs
          subst hs
          have hbest := hmo1 ((lt_iff u v).2 (.inl hc))
          clear hmo1 hmo2 hc
          go_wp2_with fail
          go_roundw
          case rel => exact ⟨k, _, cnt', rfl, hbest, hR3, hB3⟩
          case measure => rw [hrs, hm2]; exact hlt
        · rw [sgn_eq hc] at hs
          subst hs
          by_cases hkb : k < b
          · have hbest := hmo1 ((lt_iff u v).2 (.inr ⟨hc, by omega⟩))
            clear hmo1 hmo2 hc
            go_wp2_with fail
            go_roundw
            case rel => exact ⟨k, _, cnt', rfl, hbest, hR3, hB3⟩
            case measure => rw [hrs, hm2]; exact hlt
          · have hbest := hmo2 ((lt_false u v).2 (.inr ⟨hc, by omega⟩))
            clear hmo1 hmo2 hc
            go_wp2_with fail
            go_roundw
            case rel => exact ⟨b, _, cnt', rfl, hbest, hR3, hB3⟩
            case measure => rw [hrs, hm2]; exact hlt
        · rw [sgn_gt hc] at hs
          subst hs
          have hbest := hmo2 ((lt_false u v).2 (.inl hc))
          clear hmo1 hmo2 hc
          go_wp2_with fail
          go_roundw
          case rel => exact ⟨b, _, cnt', rfl, hbest, hR3, hB3⟩
          case measure => rw [hrs, hm2]; exact hlt
end Go.Proofs.Ytamifcgljockaaa
