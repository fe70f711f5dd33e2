/- Of those that are worth the same the least number goes first: the walk. -/
import Derived.Test.YtamifcgljockaaaWalkWarmAll
import Derived.Test.YtamifcgljockaaaGenMap
namespace Go.Proofs.Ytamifcgljockaaa
open Go.RowKit Go.Kpt HeapPure RatioPure
set_option linter.unusedVariables false

theorem count_strike (f : Nat → Bool) (a : Nat) : ∀ l : List Nat, l.Nodup → a ∈ l → f a = true → (l.filter f).length = (l.filter (fun i => f i && !decide (i = a))).length + 1
  | [], _, h, _ => by cases h
  | x :: r, hn, h, hf => by
    obtain ⟨h1, h2⟩ := List.nodup_cons.1 hn
    by_cases e : x = a
    · subst e
      have : r.filter (fun i => f i && !decide (i = x)) = r.filter f := by
        refine List.filter_congr fun i hi => ?_
        have hne : i ≠ x := fun e => h1 (e ▸ hi)
        simp [hne]
      rw [List.filter_cons_of_pos hf, List.filter_cons_of_neg (by simp), this]
      rfl
    · have ha : a ∈ r := by
        rcases List.mem_cons.1 h with h | h
        · exact absurd h.symm e
        · exact h
      have ih := count_strike f a r h2 ha hf
      by_cases hx : f x = true
      · rw [List.filter_cons_of_pos hx, List.filter_cons_of_pos (by simp [hx, e])]
        simp only [List.length_cons]
        omega
      · rw [List.filter_cons_of_neg hx, List.filter_cons_of_neg (by simp [hx])]
        exact ih

/-- How many of the numbers below 256 there are. -/
def cntL (p : Int → Bool) : Nat := ((List.range 256).filter fun (i : Nat) => p (i : Int)).length
theorem cntL_strike (p : Int → Bool) (k : Int) (h0 : 0 ≤ k) (h1 : k < 256) (h : p k = true) : cntL p = cntL (fun z => p z && !decide (z = k)) + 1 := by
  obtain ⟨n, rfl⟩ := Int.eq_ofNat_of_zero_le h0
  unfold cntL
  rw [count_strike (fun (i : Nat) => p (i : Int)) n _ List.nodup_range (List.mem_range.2 (by omega)) h]
  congr 2
  refine List.filter_congr fun i _ => ?_
  have : decide ((i : Int) = (n : Int)) = decide (i = n) := by rw [decide_eq_decide]; omega
  show _ = (p (i : Int) && !decide ((i : Int) = (n : Int)))
  rw [this]
theorem cntL_zero {p : Int → Bool} (h : ∀ k, p k = false) : cntL p = 0 := by
  unfold cntL
  rw [List.filter_eq_nil_iff.2 (fun i _ => by rw [h]; decide)]
  rfl
theorem cntL_congr {p q : Int → Bool} (h : ∀ k, p k = q k) : cntL p = cntL q := by rw [show p = q from funext h]

def boolE : El Bool := ⟨Value.bool, fun v => match v with | .bool b => some b | _ => none, fun _ => rfl, fun v x h => by cases v <;> simp at h; rw [h], fun b => .lit (.bool b), fun x y h => by simpa using h⟩

/-- Of a cache of things worth the same. -/
structure Ties (N D : Nat) (l : List (Int × Mk)) (m : Int → Option Bool) : Prop where
  good : HeapPure.Good lt l
  val : ∀ k v, HeapPure.get l k = some v → v.n = N ∧ v.d = D ∧ v.id = k
  dom : ∀ k v, m k = some v → 0 ≤ k ∧ k < 256 ∧ v = true
  sub : ∀ k, (HeapPure.get l k).isSome = true → (m k).isSome = true

theorem Ties.nil (N D : Nat) : Ties N D [] (fun _ => none) := ⟨HeapPure.Good.nil, fun k v h => (by cases h), fun k v h => (by cases h), fun k h => (by cases h)⟩

theorem ties_set {N D : Nat} {l : List (Int × Mk)} {m : Int → Option Bool} (h : Ties N D l m) (hall : ∀ k, (HeapPure.get l k).isSome = (m k).isSome) (hlen : l.length = cntL (fun k => (m k).isSome)) (k : Int) (h0 : 0 ≤ k) (h1 : k < 256) (x : Mk) (hx1 : x.n = N) (hx2 : x.d = D) (hx3 : x.id = k) :
    Ties N D (setAt lt l k x) (gput m k true) ∧ (∀ j, (HeapPure.get (setAt lt l k x) j).isSome = (gput m k true j).isSome) ∧ (setAt lt l k x).length = cntL (fun j => (gput m k true j).isSome) := by
  have hg : ∀ j, HeapPure.get (setAt lt l k x) j = if j = k then some x else HeapPure.get l j := fun j => setAt_get ord_lt h.good k x j
  have hm : ∀ j, (HeapPure.get (setAt lt l k x) j).isSome = (gput m k true j).isSome := fun j => by
    rw [hg]; unfold gput
    by_cases e : j = k
    · rw [if_pos e, if_pos e]; rfl
    · rw [if_neg e, if_neg e]; exact hall j
  refine ⟨⟨setAt_good ord_lt h.good k x, fun j v hj => ?_, fun j v hj => ?_, fun j hj => by rw [← hm]; exact hj⟩, hm, ?_⟩
  · rw [hg] at hj
    by_cases e : j = k
    · rw [if_pos e] at hj; cases hj; exact ⟨hx1, hx2, by rw [hx3, e]⟩
    · rw [if_neg e] at hj; exact h.val j v hj
  · unfold gput at hj
    by_cases e : j = k
    · rw [if_pos e] at hj; cases hj; exact ⟨by omega, by omega, rfl⟩
    · rw [if_neg e] at hj; exact h.dom j v hj
  · rw [setAt_length, ← get_isSome, hall, hlen]
    cases hk : (m k).isSome
    · rw [if_neg (by decide)]
      have := cntL_strike (fun j => (gput m k true j).isSome) k h0 h1 (by simp [gput])
      rw [this]
      congr 1
      refine cntL_congr fun j => ?_
      unfold gput
      by_cases e : j = k
      · subst e; rw [if_pos rfl, hk]; simp
      · rw [if_neg e]; simp [e]
    · rw [if_pos rfl]
      refine cntL_congr fun j => ?_
      unfold gput
      by_cases e : j = k
      · subst e; rw [if_pos rfl, hk]; rfl
      · rw [if_neg e]

theorem ties_evict {N D : Nat} {l : List (Int × Mk)} {m : Int → Option Bool} {last : Int} (h : Ties N D l m) (hp : 0 < l.length) (hlast : ∀ k, (HeapPure.get l k).isSome = true → last < k) :
    Ties N D (drop lt l (kk l 0)) m ∧ (drop lt l (kk l 0)).length + 1 = l.length ∧ last < kk l 0 ∧ m (kk l 0) = some true ∧ (∀ k, (HeapPure.get (drop lt l (kk l 0)) k).isSome = true → kk l 0 < k) := by
  obtain ⟨m1, m2⟩ := min_spec h.good hp
  have hs : (HeapPure.get l (kk l 0)).isSome = true := by rw [m1]; rfl
  have hdg : ∀ j, HeapPure.get (drop lt l (kk l 0)) j = if j = kk l 0 then none else HeapPure.get l j := fun j => drop_get ord_lt h.good _ j
  refine ⟨⟨drop_good ord_lt h.good _, fun k v hk => ?_, h.dom, fun k hk => ?_⟩, ?_, hlast _ hs, ?_, fun k hk => ?_⟩
  · rw [hdg] at hk
    by_cases e : k = kk l 0
    · rw [if_pos e] at hk; cases hk
    · rw [if_neg e] at hk; exact h.val k v hk
  · rw [hdg] at hk
    by_cases e : k = kk l 0
    · rw [if_pos e] at hk; cases hk
    · rw [if_neg e] at hk; exact h.sub k hk
  · rw [drop_length, ← get_isSome, m1]
    show l.length - 1 + 1 = l.length
    omega
  · obtain ⟨v, hv⟩ := Option.isSome_iff_exists.1 (h.sub _ hs)
    rw [hv, (h.dom _ _ hv).2.2]
  · rw [hdg] at hk
    by_cases e : k = kk l 0
    · rw [if_pos e] at hk; cases hk
    · rw [if_neg e] at hk
      obtain ⟨v, hv⟩ := Option.isSome_iff_exists.1 hk
      have h3 := m2 k v hv
      rw [lt_false] at h3
      obtain ⟨a1, a2, a3⟩ := h.val k v hv
      obtain ⟨b1, b2, b3⟩ := h.val _ _ m1
      rw [a1, a2, a3, b1, b2, b3] at h3
      omega

set_option maxRecDepth 100000 in
set_option maxHeartbeats 3000000 in
theorem warmTies_walk (a0 : Option Addr) (cap0 : Nat) (z0 : List Int) (a1 a2 a3 : Int) (w : World) (w0 : IsInts .i64 w a0 z0) (w1 : (Lit.int .i64 a1).wf = true) (w2 : (Lit.int .i64 a2).wf = true) (w3 : (Lit.int .i64 a3).wf = true) :
    Calls Try.prog 3 #[.slice a0 z0.length cap0, .int .i64 a1, .int .i64 a2, .int .i64 a3] w fun e w' => e = .returned (.bool true) ∧ Below w.heap.size w w' := by
  clear w1 w2 w3
  have hb1 := i64_and1023 a1
  have hb2 := i64_and1023 a2
  have hb3 := i64_and4095 a3
  obtain ⟨o, ho⟩ : ∃ o : Nat, (a1 % 1024).toNat = o := ⟨_, rfl⟩
  obtain ⟨co, hco⟩ : ∃ co : Nat, (a2 % 1024).toNat = co := ⟨_, rfl⟩
  obtain ⟨dm, hdm⟩ : ∃ dm : Nat, (a3 % 4096).toNat = dm := ⟨_, rfl⟩
  have ho1 : o ≤ 1023 := by omega
  have hco1 : co ≤ 1023 := by omega
  have hdm1 : dm ≤ 4095 := by omega
  rw [show a1 % 1024 = (o : Int) by omega] at hb1
  rw [show a2 % 1024 = (co : Int) by omega] at hb2
  rw [show a3 % 4096 = (dm : Int) by omega] at hb3
  obtain ⟨d, hd⟩ : ∃ d, 1 + dm = d := ⟨_, rfl⟩
  have e1 : (1 : Int) + (dm : Int) = (d : Int) := by omega
  have hup : o * co ≤ 1023 * 1023 := Nat.mul_le_mul ho1 hco1
  have hd1 : 0 < d := by omega
  have hs : Sm d := by unfold Sm; omega
  obtain ⟨up, hu⟩ : ∃ up, o * co = up := ⟨_, rfl⟩
  have x1' : IntKind.u64.wrap (o : Int) = (o : Int) := IntWalk.u64_in _ ⟨by omega, by omega⟩
  have x2' : IntKind.u64.wrap (co : Int) = (co : Int) := IntWalk.u64_in _ ⟨by omega, by omega⟩
  have x3' : IntKind.u64.wrap (d : Int) = (d : Int) := IntWalk.u64_in _ ⟨by omega, by omega⟩
  have x4' : IntKind.i64.wrap (d : Int) = (d : Int) := IntWalk.i64_in _ ⟨by omega, by omega⟩
  have hS := fun (base cb : Nat) (k : Int) (hk : (Lit.int .i64 k).wf = true) => xset_at base cb 0 k hk o co d up ho1 hco1 hd1 hs hu (by omega)
  clear ho hco hdm hd hu hup
  go_enter Try.func3, Try.ntmps3
  go_wp2_with fail
  refine (head_any w).mono ?_
  rintro e w1 ⟨rfl, hB1⟩
  by_cases hm : 60 < z0.length
  · have c1 : (60 : Int) < (z0.length : Int) := by omega
    go_wp2_with fail
    go_ret
    exact ⟨rfl, hB1⟩
  have c1 : ¬ (60 : Int) < (z0.length : Int) := by omega
  go_wp2_with fail
  refine (cnew_any w1).mono ?_
  rintro e w2 ⟨cb, rfl, h2, hB2⟩
  have hB3 : Below w.heap.size w w2 := hB1.trans (hB2.mono hB1.size)
  obtain ⟨base, hbs⟩ : ∃ base, w1.heap.size = base := ⟨_, rfl⟩
  have hb0 : w.heap.size ≤ base := by have := hB1.size; omega
  rw [hbs] at h2
  obtain ⟨n, hn⟩ : ∃ n, z0.length = n := ⟨_, rfl⟩
  rw [hn] at hm c1 ⊢
  have ka : Below w2.heap.size w2 (w2.alloc (.map #[] 0)) := (Below.refl _ _).alloc (Nat.le_refl _) _
  have hG0 : Gm boolE Try.prog 3 (w2.alloc (.map #[] 0)) w2.heap.size 0 (fun _ => none) := Gm.made boolE Try.prog 3 w2
  obtain ⟨mb, hmb⟩ : ∃ mb, w2.heap.size = mb := ⟨_, rfl⟩
  have hX0 : WX (w2.alloc (.map #[] 0)) base cb [] 0 (fun x => x = mb) := h2.wx ka (fun x hx => by subst hx; rw [hmb]; exact ⟨Nat.le_refl _, by simp; omega⟩)
  have hBm := hB3.trans (ka.mono hB3.size)
  have hmb2 : w.heap.size ≤ mb := by rw [← hmb]; exact hB3.size
  rw [hmb] at hG0
  clear hB1 hB2 hB3 hbs h2 ka
  have hmm := @run_makeMap Try.prog
  go_wp2_with fail
  generalize w2.alloc (.map #[] 0) = wm at *
  go_loopw [25] (fun x wr => ∃ (i : Nat) (l : List (Int × Mk)) (m : Int → Option Bool) (c : Nat), x = .int .i64 i ∧ i ≤ n ∧ Ties up d l m ∧ (∀ k, (HeapPure.get l k).isSome = (m k).isSome) ∧ l.length = cntL (fun k => (m k).isSome) ∧ l.length ≤ i ∧ WX wr base cb l 0 (fun x => x = mb) ∧ Gm boolE Try.prog 3 wr mb c m ∧ c ≤ i ∧ Below w.heap.size w wr) (fun x _ => n - (intOf x).toNat)
  case atStart => exact ⟨0, [], fun _ => none, 0, rfl, by omega, Ties.nil up d, fun k => rfl, (cntL_zero (fun k => rfl)).symm, by simp, hX0, hG0, by omega, hBm⟩
  case round =>
    clear hX0 hG0 hBm hmm hmb
    obtain ⟨i, l, m, c, rfl, hi, hT, hall, hlen, hl, hX, hG, hc, hB⟩ := hrel
    by_cases hin : i < n
    · obtain ⟨bk, off, rfl, hcell⟩ := w0.2.2 i (by omega)
      have c0 := ((Kept.of_below (F := fun _ => False) hB).cell (p := ⟨bk, off + i, none⟩) (block_lt_of_cell hcell) (fun h => h)).trans hcell
      clear hcell
      generalize z0.getD i 0 = K at *
      have hb4 := i64_and255 K
      obtain ⟨k, hk⟩ : ∃ k : Int, K % 256 = k := ⟨_, rfl⟩
      have hk0 : 0 ≤ k := by omega
      have hk1 : k < 256 := by omega
      have hwf : (Lit.int .i64 k).wf = true := WalkArith.wf_i64 (by omega)
      rw [hk] at hb4
      obtain ⟨x, y1, y2, y3, hx⟩ := hS base cb k hwf
      rw [Nat.zero_mul, Nat.zero_add] at y1
      obtain ⟨hT1, hall1, hlen1⟩ := ties_set hT hall hlen k hk0 hk1 x y1 y2 y3
      have s1 := hx (fun x => x = mb) l (by omega) wr hX
      have L1 := setAt_len_le' l k x
      have hcm : c < maxLen := by unfold maxLen; omega
      generalize setAt lt l k x = l1 at *
      clear hx y1 y2 y3 hT hall hlen hX hk
      go_wp2_with fail
      refine s1.mono ?_
      clear s1
      rintro e wa ⟨rfl, hXa, kba, hSa⟩
      have hGa : Gm boolE Try.prog 3 wa mb c m := by
        obtain ⟨D, ⟨es, clock, hb, h1⟩, h2⟩ := hG
        exact ⟨D, ⟨es, clock, (hSa mb rfl).trans hb, h1⟩, h2⟩
      have hBa := hB.trans (kba.mono hb0)
      clear hG kba hSa hB
      go_wp2_with (first | (at_mapUpdate; refine wpList_gm_put (E := boolE) (et := 4) _ rfl _ _ _ rfl Try.underlying3 Try.underlying26 mb c m rfl hGa hcm k true rfl rfl hwf ?_; intro wb hGb kb) | go_in)
      have hXb := hXa.beside kb
      have hBb : Below w.heap.size w wb := hBa.trans (kb.below hBa.size (fun x hx hh => by omega))
      have hc1 : (if (m k).isSome = true then c else c + 1) ≤ i + 1 := by split <;> omega
      clear hXa kb hBa hGa
      go_roundw
      case rel => exact ⟨i + 1, l1, gput m k true, _, by go_num, by omega, hT1, hall1, hlen1, by omega, hXb, hGb, hc1, hBb⟩
      case measure => simp [intOf]; omega
    · obtain rfl : i = n := by omega
      clear w0 hS
      go_wp2_with (first | (at_range; refine wpList_gm_range (E := boolE) (et := 4) _ rfl _ rfl Try.underlying3 Try.underlying26 mb c m rfl hG ?_; intro wx hR0 kx hsz) | go_in)
      go_frame
      obtain ⟨r, hr⟩ : ∃ r, wr.heap.size = r := ⟨_, rfl⟩
      have hmr : mb < r := by rw [← hr]; exact hG.lt
      have hXx : WX wx base cb l 0 (fun x => x = mb ∨ x = r) := hX.more kx (fun x hx => by
        rcases hx with hx | hx
        · exact .inl hx
        · exact .inr ⟨by omega, by omega⟩)
      have hBx := hB.trans (kx.mono hB.size)
      have hrw : w.heap.size ≤ r := by rw [← hr]; exact hB.size
      rw [hr] at hR0 ⊢
      have hfirst : ∀ k, (HeapPure.get l k).isSome = true → (-1 : Int) < k := fun k hk => by
        obtain ⟨v, hv⟩ := Option.isSome_iff_exists.1 (hT.sub k hk)
        have := (hT.dom k v hv).1
        omega
      clear hG hX hB kx hsz hr hall hn
      go_loopw [13] (fun v wq => ∃ (last : Int) (l : List (Int × Mk)) (left : Int → Bool) (cnt clk : Nat), v = .int .i64 last ∧ Ties up d l m ∧ l.length = cntL left ∧ (∀ k, (HeapPure.get l k).isSome = true → last < k) ∧ (∀ k, left k = true → (m k).isSome = true) ∧ Gr boolE Try.prog 3 wq mb r c m left cnt ∧ WX wq base cb l clk (fun x => x = mb ∨ x = r) ∧ Below w.heap.size w wq) (fun _ wq => wq.rangeLeft mb r)
      case atStart => exact ⟨-1, l, _, c, 0, rfl, hT, hlen, hfirst, fun k h => h, hR0, hXx, hBx⟩
      case round =>
        clear hT hlen hfirst hR0 hXx hBx
        obtain ⟨last, l, left, cnt, clk, rfl, hT, hlen, hlast, hsub, hR, hX, hB⟩ := hrel
        have hle := hR.left_eq
        go_wp2_with ((at_next; refine wpList_gm_next (E := boolE) _ rfl _ rfl Try.underlying3 mb r c m left cnt rfl hR (fun hc0 hl0 => ?_) (fun k x wz cnt' hwk hlk hmk hR1 hlt kz hsz hen => ?_)))
        · have hz : l.length = 0 := by rw [hlen, cntL_zero hl0]
          have s2 := clen_any base cb l clk wr hX.wb
          rw [hz] at s2
          have s2 : Calls Try.prog 12 #[.pointer (some ⟨cb, 0, none⟩)] wr fun e w' => e = .returned (.int .i64 0) ∧ wr = w' := s2
          go_wp2_with fail
          refine s2.mono ?_
          rintro e w8 ⟨rfl, rfl⟩
          go_wp2_with fail
          go_ret
          exact ⟨rfl, hB⟩
        · obtain ⟨d0, d1, -⟩ := hT.dom k x hmk
          have hst := cntL_strike left k d0 d1 hlk
          have hp : 0 < l.length := by omega
          have hXz : WX wz base cb l clk (fun x => x = mb ∨ x = r) := hX.beside (kz.mono (fun x _ hx => .inr hx))
          have hBz : Below w.heap.size w wz := hB.trans (kz.below hB.size (fun x hx hh => by omega))
          have s1 := xevict_some lessC base cb l clk hp (fun x => x = mb ∨ x = r) wz hXz
          have hkw := hXz.wb.kwf hp
          obtain ⟨hT1, hlen1, hlst, hin1, hlast1⟩ := ties_evict hT hp hlast
          generalize drop lt l (kk l 0) = l' at *
          generalize kk l 0 = K at *
          generalize max clk ((vv l 0).n / (vv l 0).d) = clk' at *
          have hnle : ¬ K ≤ last := by omega
          have hlen2 : l'.length = cntL (fun z => left z && !decide (z = k)) := by omega
          clear hX hB kz hen hXz
          go_wp2_with fail
          refine s1.mono ?_
          clear s1
          rintro e we ⟨rfl, hXe, kbe, hSe⟩
          have hRe := hR1.same (hSe mb (.inl rfl)) (hSe r (.inr rfl))
          have hBe := hBz.trans (kbe.mono hb0)
          have hlook : (Instr.lookup 26 (.map (some mb)) (.int .i64 K) false).run Try.prog we = .ok (.bool true) we := by
            have h := hRe.owns.look Try.underlying3 Try.underlying26 false (by kernel_rfl) K hkw
            rw [hin1] at h
            exact h
          have hm : wr.rangeLeft mb r = cnt := hle
          have hm2 : we.rangeLeft mb r = cnt' := hRe.left_eq
          clear hR1 hBz hSe kbe hT hlen hlast hR
          go_wp2_with fail
          go_roundw
          case rel => exact ⟨K, l', _, cnt', clk', rfl, hT1, hlen2, hlast1, fun j hj => hsub j (by simp at hj; exact hj.1), hRe, hXe, hBe⟩
          case measure => rw [hm, hm2]; exact hlt
end Go.Proofs.Ytamifcgljockaaa
