/- The reader's next number, whatever its state; a number's bytes by the page; the document's example. -/
import Derived.Test.YtbdkbhicjbaffaaWalks
namespace Go.Proofs.Ytbdkbhicjbaffaa
open Go.RowKit Go.Kpt WirePure
set_option linter.unusedVariables false

def nxt (e : Nat) (zs : List Nat) (most at_ : Nat) : Nat × Nat × Nat := if e = 0 then res (dec 0 (zs.drop at_)) most at_ else (0, at_, e)

set_option maxHeartbeats 1000000 in
theorem num_none (r : Nat) (a : Option Addr) (at_ most : Nat) (zs : List Nat) (w : World) (h : Rd w r a zs.length at_ at_ 0) (hat : zs.length = at_) :
    Calls Try.prog 23 #[.pointer (some ⟨r, 0, none⟩), .int .u64 most] w fun x w' => x = .returned (.int .u64 0) ∧ Rd w' r a zs.length at_ at_ 5 ∧ Kept (fun x => x = r) w w' := by
  rw [hat] at h ⊢
  have c0 : w.cell? ⟨r, 0, none⟩ = some (.slice a at_ at_) := cell_of h
  have c1 : w.cell? ⟨r, 1, none⟩ = some (.int .i64 at_) := cell_of h
  have c2 : w.cell? ⟨r, 2, none⟩ = some (.int .i64 (0 : Nat)) := cell_of h
  go_enter Try.func23, Try.ntmps23
  go_wp2_with fail
  go_quiet (fail)
  have h2 : Rd (w.drewN nq) r a at_ at_ at_ 0 := h
  have hK : Kept (fun x => x = r) w (w.drewN nq) := (Kept.refl _ _).drewN nq
  have hf := fail_any r a at_ at_ at_ 0 5
  clear c0 c1 c2 h
  generalize w.drewN nq = W at *
  go_wp2_with fail
  refine wp_loop_rounds 1 ?_
  rw [rounds_succ]
  go_wp2_with fail
  refine (hf _ h2).mono ?_
  rintro e w' ⟨rfl, hr', hk'⟩
  go_wp2_with fail
  go_ret
  exact ⟨rfl, hr', hK.trans hk' (fun _ _ h => h)⟩

set_option maxHeartbeats 1000000 in
theorem num_err (r : Nat) (a : Option Addr) (len cap at_ most e : Nat) (w : World) (h : Rd w r a len cap at_ e) (he : e ≠ 0) :
    Calls Try.prog 23 #[.pointer (some ⟨r, 0, none⟩), .int .u64 most] w fun x w' => x = .returned (.int .u64 0) ∧ w = w' := by
  have c2 : w.cell? ⟨r, 2, none⟩ = some (.int .i64 e) := cell_of h
  have d : ((e : Int) != 0) = true := by simp; omega
  clear he
  go_enter Try.func23, Try.ntmps23
  go_wp2_with fail
  go_ret
  exact ⟨rfl, rfl⟩

theorem num_any (r : Nat) (a : Option Addr) (cap at_ most e : Nat) (zs : List Nat) (p : Nat → Prop) (w : World) (h : Rd w r a zs.length cap at_ e) (hsl : Sl .u8 w p a (ib zs)) (hp : ∀ x, p x → x ≠ r) (hat : at_ ≤ zs.length) (hcap : zs.length ≤ cap) (hz : zs.length ≤ 100000) (hcb : ∀ c ∈ zs, c < 256)
    (rn ra re : Nat) (hR : nxt e zs most at_ = (rn, ra, re)) :
    Calls Try.prog 23 #[.pointer (some ⟨r, 0, none⟩), .int .u64 most] w fun x w' => x = .returned (.int .u64 rn) ∧ Rd w' r a zs.length cap ra re ∧ Kept (fun x => x = r) w w' := by
  unfold nxt at hR
  by_cases he : e = 0
  · rw [if_pos he] at hR
    subst he
    by_cases hce : cap = at_
    · have hl : zs.length = at_ := by omega
      rw [List.drop_eq_nil_of_le (by omega)] at hR
      obtain ⟨rfl, rfl, rfl⟩ : rn = 0 ∧ ra = at_ ∧ re = 5 := by simp [res, dec] at hR; omega
      subst hce
      exact num_none r a cap most zs w h hl
    · exact num_some r a cap at_ most zs p w h hsl hp hat hcap hz hcb rn ra re hR hce
  · rw [if_neg he] at hR
    obtain ⟨rfl, rfl, rfl⟩ : rn = 0 ∧ ra = at_ ∧ re = e := by simp at hR; omega
    exact (num_err r a zs.length cap ra most re w h he).mono fun x w' ⟨h1, h2⟩ => ⟨h1, h2 ▸ h, h2 ▸ Kept.refl _ _⟩

/-- Where the reader then stands lies in what it reads. -/
theorem nxt_le {e : Nat} {zs : List Nat} {most at_ rn ra re : Nat} (hR : nxt e zs most at_ = (rn, ra, re)) (hat : at_ ≤ zs.length) : ra ≤ zs.length := by
  unfold nxt at hR
  split at hR
  · unfold res at hR
    cases hd : dec 0 (zs.drop at_) with
    | none => rw [hd] at hR; simp at hR; omega
    | some x =>
      obtain ⟨n, k⟩ := x
      have := (dec_pos _ _ _ _ hd).2
      simp at this
      rw [hd] at hR
      simp only at hR
      split at hR <;> simp at hR <;> omega
  · simp at hR; omega

set_option maxRecDepth 100000 in
set_option maxHeartbeats 1000000 in
theorem bytes_any (n : Nat) (hn : n < 18446744073709551616) (w : World) : Calls Try.prog 22 #[.int .u64 n] w fun e w' => ∃ v, e = .returned v ∧ OwnI w' w.heap.size 5 .u8 v (ib (enc n)) ∧ Below w.heap.size w w' := by
  obtain ⟨i0, hi, hz0, hz1, hz2⟩ := info_parts Try.info5
  have hten := enc_len_ten hn
  have e1 : (n : Int) % 128 = ((n % 128 : Nat) : Int) := by omega
  have e2 : (n : Int) / 128 = ((n / 128 : Nat) : Int) := by omega
  have hm : n % 128 < 128 := Nat.mod_lt _ (by omega)
  have e3 : ((n % 128 : Nat) : Int) % 256 = ((n % 128 : Nat) : Int) := by omega
  have hown : OwnI (w.alloc (.cells #[.int .u8 ((n % 128 : Nat) : Int)] 5)) w.heap.size 5 .u8 (.slice (some ⟨w.heap.size, 0, none⟩) 1 1) [((n % 128 : Nat) : Int)] :=
    ⟨rfl, .inr ⟨w.heap.size, 1, #[.int .u8 ((n % 128 : Nat) : Int)], rfl, Nat.le_refl _, heap_alloc_new _ _, Nat.le_refl _, by unfold maxLen; omega, rfl, rfl⟩⟩
  have heq : (if n / 128 = 0 then [n % 128] else [n % 128 + 128] ++ enc (n / 128)) = enc n := by
    split
    · rename_i h; rw [enc_small (n := n) (by omega), Nat.mod_eq_of_lt (by omega)]
    · rename_i h; rw [enc_big (n := n) (by omega)]; rfl
  have HE := Lib.hid heq
  clear heq
  have hqs : n / 128 < 18446744073709551616 := by omega
  generalize n % 128 = m at *
  generalize n / 128 = q at *
  go_enter Try.func22, Try.ntmps22
  go_wp2_with fail
  go_loopw [3, 0] (fun x y wr => ∃ (xs : List Nat) (m q : Nat), y = .int .u64 q ∧ q < 18446744073709551616 ∧ m < 128 ∧ OwnI wr w.heap.size 5 .u8 x (ib (xs ++ [m])) ∧ Hid (xs ++ (if q = 0 then [m] else [m + 128] ++ enc q) = enc n) ∧ Below w.heap.size w wr) (fun _ y _ => (intOf y).toNat)
  case atStart => exact ⟨[], m, q, rfl, hqs, hm, hown, HE, by go_grown⟩
  case round =>
    clear hown HE hqs hm e1 e2 e3
    obtain ⟨xs, c, d, rfl, hds, hc, hown, HE, hB⟩ := hrel
    have hbase := hB.size
    have heq := HE.out
    clear HE
    have hl := congrArg List.length heq
    rw [List.length_append] at hl
    obtain ⟨g, cap, hv⟩ : ∃ g cap, u3 = .slice (some ⟨g, 0, none⟩) (xs.length + 1) cap := by
      rcases hown.shape with ⟨_, h⟩ | ⟨g, cap, h, _⟩
      · simp [ib] at h
      · exact ⟨g, cap, by rw [h, ib_length]; simp⟩
    subst hv
    by_cases h0 : d = 0
    · rw [if_pos h0] at heq
      rw [heq] at hown
      subst h0
      go_wp2_with fail
      go_ret
      exact ⟨_, rfl, hown, hB⟩
    · rw [if_neg h0] at heq hl
      have hpos : (0 : Int) < (d : Int) := by omega
      have hc0 : wr.cell? ⟨g, xs.length, none⟩ = some (.int .u8 c) := by
        have := World.ownsRow.cellAt (show wr.ownsRow w.heap.size 5 1 (.slice (some ⟨g, 0, none⟩) (xs.length + 1) cap) (xs.length + 1) ((ib (xs ++ [c])).map (Value.int .u8)) by
          have h := hown
          unfold OwnI at h
          rw [ib_length] at h
          simpa using h) xs.length (by omega)
        rw [this]
        simp [ib]
      have hf0 : wr.frozen? ⟨g, xs.length, none⟩ = false := by
        exact World.ownsRow.frozenAt (show wr.ownsRow w.heap.size 5 1 (.slice (some ⟨g, 0, none⟩) (xs.length + 1) cap) (xs.length + 1) ((ib (xs ++ [c])).map (Value.int .u8)) by
          have h := hown
          unfold OwnI at h
          rw [ib_length] at h
          simpa using h) xs.length
      have hg := hown.lt g rfl
      have hst : OwnI (wr.setCell ⟨g, xs.length, none⟩ (.int .u8 ((c + 128 : Nat) : Int))) w.heap.size 5 .u8 (.slice (some ⟨g, 0, none⟩) (xs.length + 1) cap) (ib (xs ++ [c + 128])) := by
        have := hown.stored xs.length ((c + 128 : Nat) : Int)
        rw [show (ib (xs ++ [c])).set xs.length ((c + 128 : Nat) : Int) = ib (xs ++ [c + 128]) by simp [ib]] at this
        exact this
      have hB1 : Below w.heap.size w (wr.setCell ⟨g, xs.length, none⟩ (.int .u8 ((c + 128 : Nat) : Int))) := hB.setCell (show w.heap.size ≤ g from hg.1) _
      have w1 : IntKind.u8.wrap ((c : Int) + 128) = ((c + 128 : Nat) : Int) := IntWalk.u8_in _ ⟨by omega, by omega⟩
      have w2 : (c : Int) + 128 = ((c + 128 : Nat) : Int) := by omega
      have w4 : (d : Int) % 128 = ((d % 128 : Nat) : Int) := by omega
      have w6 : ((d % 128 : Nat) : Int) % 256 = ((d % 128 : Nat) : Int) := by omega
      have w5 : (d : Int) / 128 = ((d / 128 : Nat) : Int) := by omega
      have hdm : d / 128 < d := by omega
      have hm2 : d % 128 < 128 := Nat.mod_lt _ (by omega)
      have hE : (xs ++ [c + 128]) ++ (if d / 128 = 0 then [d % 128] else [d % 128 + 128] ++ enc (d / 128)) = enc n := by
        rw [← heq, List.append_assoc]
        congr 2
        by_cases hz : d / 128 = 0
        · rw [if_pos hz, enc_small (n := d) (by omega), Nat.mod_eq_of_lt (by omega)]
        · rw [if_neg hz, enc_big (n := d) (by omega)]; rfl
      have HE := Lib.hid hE
      have hlx : xs.length ≤ 10 := by omega
      clear hown heq hE
      generalize c + 128 = c2 at *
      generalize d % 128 = dm at *
      generalize d / 128 = dq at *
      have hsz : (wr.setCell ⟨g, xs.length, none⟩ (.int .u8 (c2 : Int))).heap.size = wr.heap.size := by simp
      go_wp2_with (at_builtin; refine wpList_append_ints rfl _ _ _ rfl w.heap.size 5 .u8 i0 (.int .u8 0) 1 Try.underlying25 hi hz0 hz1 hz2 rfl _ _ rfl (hst.alloc _) (some ⟨wr.heap.size, 0, none⟩) 1 [(dm : Int)] _ rfl (by rw [← hsz]; exact Sl.one _ _ _ _) (by rw [ib_length]; unfold maxLen; simp; omega) (by rw [ib_length]; simp; omega) (by simp; omega) ?_; intro v2 w3 hown2 hgrow hloc)
      have hB2 : Below w.heap.size w w3 := (hB1.alloc (by simp; omega) _).trans ((Kept.of_grown hgrow).below (by simp; omega) (fun x hx h => by
        have h' : some x = some g := h
        cases h'; omega))
      have hown3 : OwnI w3 w.heap.size 5 .u8 v2 (ib (xs ++ [c2] ++ [dm])) := by rw [ib_append]; exact hown2
      clear hgrow hloc hown2 hst
      go_wp2_with fail
      go_roundw
      case rel => exact ⟨xs ++ [c2], dm, dq, rfl, by omega, hm2, hown3, HE, hB2⟩
      case measure => simp [intOf]; omega
end Go.Proofs.Ytbdkbhicjbaffaa
