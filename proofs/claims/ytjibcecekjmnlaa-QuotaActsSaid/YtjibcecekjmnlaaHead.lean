/- The document's example. -/
import Derived.Test.YtjibcecekjmnlaaSetF
namespace Go.Proofs.Ytjibcecekjmnlaa
open Go.RowKit Go.Kpt
set_option linter.unusedVariables false

theorem good_l0 : Good l0 := ⟨fun h _ => by simp [goodf, l0], fun a _ => by simp [l0]⟩
theorem good_setF {s : Lg} (g : Good s) (h : Nat) (m : Fn) (hm : goodf m) : Good (s.setF h m) := by
  refine ⟨fun k hk => ?_, g.2⟩
  by_cases e : k = h
  · subst e; rw [setF_at]; exact hm
  · show goodf (put s.fs h m k); rw [put_ne _ _ _ _ e]; exact g.1 k hk
theorem good_setA {s : Lg} (g : Good s) (h : Nat) (m : Ac) (hm : 0 ≤ m.lim ∧ m.lim ≤ 1000) : Good (s.setA h m) := by
  refine ⟨g.1, fun k hk => ?_⟩
  by_cases e : k = h
  · subst e; show 0 ≤ (put s.ac k m k).lim ∧ (put s.ac k m k).lim ≤ 1000; rw [put_same]; exact hm
  · show 0 ≤ (put s.ac h m k).lim ∧ (put s.ac h m k).lim ≤ 1000; rw [put_ne _ _ _ _ e]; exact g.2 k hk

def s1 : Lg := l0.setA 1 ⟨true, 3⟩
def s2 : Lg := s1.setF 5 ⟨true, 1, 2, (s1.fs 5).bu⟩
def s3 : Lg := s2.setF 6 ⟨true, 1, 0, (s2.fs 6).bu⟩
def s4 : Lg := s3.setF 6 { s3.fs 6 with bu := (s3.fs 6).bu + 1 }
def s5 : Lg := s4.setF 5 { s4.fs 5 with bu := (s4.fs 5).bu + 1 }
def s6 : Lg := s5.setF 5 { s5.fs 5 with bu := (s5.fs 5).bu + 1 }
theorem gf (a : Nat) (r b : Int) (h : a < 16 ∧ 0 ≤ r ∧ r ≤ 1000 ∧ 0 ≤ b ∧ b ≤ 100000) : goodf ⟨true, a, r, b⟩ := h
theorem g1 : Good s1 := good_setA good_l0 _ _ (by decide)
theorem g2 : Good s2 := good_setF g1 _ _ (gf _ _ _ (by decide))
theorem g3 : Good s3 := good_setF g2 _ _ (gf _ _ _ (by decide))
theorem g4 : Good s4 := good_setF g3 _ _ (gf _ _ _ (by decide))
theorem g5 : Good s5 := good_setF g4 _ _ (gf _ _ _ (by decide))
theorem g6 : Good s6 := good_setF g5 _ _ (gf _ _ _ (by decide))

set_option maxRecDepth 100000 in
set_option maxHeartbeats 4000000 in
theorem head_any (w : World) : Calls Try.prog 8 #[] w fun e w' => e = .returned (.bool true) ∧ Below w.heap.size w w' := by
  have g0 := good_l0
  go_enter Try.func8, Try.ntmps8
  go_wp2_with fail
  refine (new_any w).mono ?_
  rintro e w0 ⟨rfl, hw0, hBw0, hs1⟩
  obtain ⟨b, hb⟩ : ∃ b, w.heap.size = b := ⟨_, rfl⟩
  have hbw : w.heap.size ≤ b := by omega
  rw [hb] at hw0 ⊢
  have hK : ∀ {u u' : World}, Below w.heap.size w u → Kept (fun x => x = b) u u' → Below w.heap.size w u' := fun hB k => hB.trans (k.below hB.size (fun x hx h => by omega))
  clear hs1 hb
  have c100 : Calls Try.prog 10 #[.pointer (some ⟨b, 0, none⟩), .int .i64 1, .int .i64 3] w0 fun e w' => e = .returned (.int .i64 0) ∧ Lq w' b s1 ∧ Kept (fun x => x = b) w0 w' := setA_t b l0 g0 1 (by omega) 3 (by omega) (by omega) (by decide +kernel) w0 hw0
  go_wp2_with fail
  refine c100.mono ?_
  rintro e w100 ⟨rfl, hw100, kw100⟩
  have hBw100 := hK hBw0 kw100
  clear c100 hw0 hBw0 kw100
  have c101 : Calls Try.prog 11 #[.pointer (some ⟨b, 0, none⟩), .int .i64 5, .int .i64 1, .int .i64 2] w100 fun e w' => e = .returned (.int .i64 0) ∧ Lq w' b s2 ∧ Kept (fun x => x = b) w100 w' := setF_t b s1 g1 5 1 (by omega) (by omega) 2 (by omega) (by omega) rfl (.inl rfl) (by decide +kernel) w100 hw100
  go_wp2_with fail
  refine c101.mono ?_
  rintro e w101 ⟨rfl, hw101, kw101⟩
  have hBw101 := hK hBw100 kw101
  clear c101 hw100 hBw100 kw101
  have c102 : Calls Try.prog 11 #[.pointer (some ⟨b, 0, none⟩), .int .i64 6, .int .i64 1, .int .i64 0] w101 fun e w' => e = .returned (.int .i64 0) ∧ Lq w' b s3 ∧ Kept (fun x => x = b) w101 w' := setF_t b s2 g2 6 1 (by omega) (by omega) 0 (by omega) (by omega) rfl (.inl rfl) (by decide +kernel) w101 hw101
  go_wp2_with fail
  refine c102.mono ?_
  rintro e w102 ⟨rfl, hw102, kw102⟩
  have hBw102 := hK hBw101 kw102
  clear c102 hw101 hBw101 kw102
  have c103 : Calls Try.prog 12 #[.pointer (some ⟨b, 0, none⟩), .int .i64 6] w102 fun e w' => e = .returned (.bool true) ∧ Lq w' b s4 ∧ Kept (fun x => x = b) w102 w' := begin_t b s3 g3 6 (by omega) rfl (by decide +kernel) w102 hw102
  go_wp2_with fail
  refine c103.mono ?_
  rintro e w103 ⟨rfl, hw103, kw103⟩
  have hBw103 := hK hBw102 kw103
  clear c103 hw102 hBw102 kw103
  have c104 : Calls Try.prog 12 #[.pointer (some ⟨b, 0, none⟩), .int .i64 6] w103 fun e w' => e = .returned (.bool false) ∧ Below w103.heap.size w103 w' := begin_f b s4 g4 6 (by omega) rfl (by decide +kernel) w103 hw103
  go_wp2_with fail
  refine c104.mono ?_
  rintro e w104 ⟨rfl, kw104⟩
  have hw104 := hw103.below kw104
  have hBw104 := hBw103.trans (kw104.mono hBw103.size)
  clear c104 hw103 hBw103 kw104
  have c105 : Calls Try.prog 12 #[.pointer (some ⟨b, 0, none⟩), .int .i64 5] w104 fun e w' => e = .returned (.bool true) ∧ Lq w' b s5 ∧ Kept (fun x => x = b) w104 w' := begin_t b s4 g4 5 (by omega) rfl (by decide +kernel) w104 hw104
  go_wp2_with fail
  refine c105.mono ?_
  rintro e w105 ⟨rfl, hw105, kw105⟩
  have hBw105 := hK hBw104 kw105
  clear c105 hw104 hBw104 kw105
  have c106 : Calls Try.prog 12 #[.pointer (some ⟨b, 0, none⟩), .int .i64 5] w105 fun e w' => e = .returned (.bool true) ∧ Lq w' b s6 ∧ Kept (fun x => x = b) w105 w' := begin_t b s5 g5 5 (by omega) rfl (by decide +kernel) w105 hw105
  go_wp2_with fail
  refine c106.mono ?_
  rintro e w106 ⟨rfl, hw106, kw106⟩
  have hBw106 := hK hBw105 kw106
  clear c106 hw105 hBw105 kw106
  have c107 : Calls Try.prog 20 #[.pointer (some ⟨b, 0, none⟩), .int .i64 5] w106 fun e w' => e = .returned (.tuple #[.int .i64 1, .bool true]) ∧ Below w106.heap.size w106 w' := (show askR s6 5 = 1 by decide +kernel) ▸ ask_any b s6 g6 5 (by omega) rfl w106 hw106
  go_wp2_with fail
  refine c107.mono ?_
  rintro e w107 ⟨rfl, kw107⟩
  have hw107 := hw106.below kw107
  have hBw107 := hBw106.trans (kw107.mono hBw106.size)
  clear c107 hw106 hBw106 kw107
  have c108 : Calls Try.prog 14 #[.pointer (some ⟨b, 0, none⟩), .int .i64 5] w107 fun e w' => e = .returned (.int .i64 2) ∧ w107 = w' := busy_any b s6 5 (by omega) (fun h => by cases h) w107 hw107
  go_wp2_with fail
  refine c108.mono ?_
  rintro e w108 ⟨rfl, rfl⟩
  clear c108
  go_wp2_with fail
  go_ret
  exact ⟨rfl, hBw107⟩
end Go.Proofs.Ytjibcecekjmnlaa
