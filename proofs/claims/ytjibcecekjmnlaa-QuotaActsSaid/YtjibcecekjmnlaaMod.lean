/- The law's own model of a ledger: two maps, told by the ledger's state; and its sums. -/
import Derived.Test.YtjibcecekjmnlaaSolo
import Derived.Test.YtjibcecekjmnlaaGenMap
namespace Go.Proofs.Ytjibcecekjmnlaa
open Go.RowKit Go.Kpt
set_option linter.unusedVariables false

def iRd (v : Value) : Option Int := match v with | .int .i64 x => some x | _ => none
theorem iRd_inv (v : Value) (x : Int) (h : iRd v = some x) : v = .int .i64 x := by
  cases v <;> simp [iRd] at h
  rename_i k n
  cases k <;> simp at h
  rw [h]
/-- Numbers as a map's elements. -/
def limE : El Int := ⟨fun x => .int .i64 x, iRd, fun _ => rfl, iRd_inv, fun x => .lit (.int .i64 x), fun x y h => by injection h with h; injection h⟩

abbrev Tr := Int × Int × Int
def tRd (v : Value) : Option Tr :=
  match v with
  | .agg a => match a.toList with
    | [.int .i64 x, .int .i64 y, .int .i64 z] => some (x, y, z)
    | _ => none
  | _ => none
theorem tRd_inv (v : Value) (x : Tr) (h : tRd v = some x) : v = .agg #[.int .i64 x.1, .int .i64 x.2.1, .int .i64 x.2.2] := by
  cases v <;> simp [tRd] at h
  rename_i a
  obtain ⟨l⟩ := a
  split at h
  · rename_i hl
    simp only at hl
    cases h; rw [hl]
  · cases h
theorem tDat_inj (x y : Tr) (h : (DataW.agg [.lit (.int .i64 x.1), .lit (.int .i64 x.2.1), .lit (.int .i64 x.2.2)] : DataW Unit) = .agg [.lit (.int .i64 y.1), .lit (.int .i64 y.2.1), .lit (.int .i64 y.2.2)]) : x = y := by
  obtain ⟨a, b, e⟩ := x
  obtain ⟨c, d, f⟩ := y
  injection h with h
  injection h with h1 h2
  injection h2 with h2 h3
  injection h3 with h3 _
  injection h1 with h1
  injection h2 with h2
  injection h3 with h3
  injection h1 with _ h1
  injection h2 with _ h2
  injection h3 with _ h3
  rw [show a = c from h1, show b = d from h2, show e = f from h3]
/-- Structs of three numbers as a map's elements. -/
def funE : El Tr := ⟨fun p => .agg #[.int .i64 p.1, .int .i64 p.2.1, .int .i64 p.2.2], tRd, fun _ => rfl, tRd_inv, fun p => .agg [.lit (.int .i64 p.1), .lit (.int .i64 p.2.1), .lit (.int .i64 p.2.2)], tDat_inj⟩

/-- A function, an account, by any number. -/
def fsI (s : Lg) (k : Int) : Fn := if 0 ≤ k ∧ k < 64 then s.fs k.toNat else ⟨false, 0, 0, 0⟩
def acI (s : Lg) (k : Int) : Ac := if 0 ≤ k ∧ k < 16 then s.ac k.toNat else ⟨false, 0⟩
theorem fsI_in (s : Lg) (h : Nat) (hl : h < 64) : fsI s (h : Int) = s.fs h := by unfold fsI; rw [if_pos (by omega)]; rfl
theorem acI_in (s : Lg) (h : Nat) (hl : h < 16) : acI s (h : Int) = s.ac h := by unfold acI; rw [if_pos (by omega)]; rfl
theorem fsI_out (s : Lg) (k : Int) (h : ¬ (0 ≤ k ∧ k < 64)) : fsI s k = ⟨false, 0, 0, 0⟩ := if_neg h
theorem acI_out (s : Lg) (k : Int) (h : ¬ (0 ≤ k ∧ k < 16)) : acI s k = ⟨false, 0⟩ := if_neg h
/-- What the model's maps hold. -/
def mL (s : Lg) (k : Int) : Option Int := if (acI s k).th then some (acI s k).lim else none
def mF (s : Lg) (k : Int) : Option Tr := if (fsI s k).th then some ((fsI s k).acc, (fsI s k).res, (fsI s k).bu) else none

/-- A ledger's state after n acts. -/
structure Ok (s : Lg) (n : Nat) : Prop where
  le : n ≤ 1000
  fs : ∀ h, h < 64 → (s.fs h).acc < 16 ∧ 0 ≤ (s.fs h).res ∧ (s.fs h).res ≤ 1000 ∧ 0 ≤ (s.fs h).bu ∧ (s.fs h).bu ≤ n
  ac : ∀ a, a < 16 → 0 ≤ (s.ac a).lim ∧ (s.ac a).lim ≤ 1000
  un : ∀ h, h < 64 → (s.fs h).th = false → (s.fs h).res = 0 ∧ (s.fs h).bu = 0
  ua : ∀ a, a < 16 → (s.ac a).th = false → (s.ac a).lim = 0
  kn : ∀ h, h < 64 → (s.fs h).th = true → (s.ac (s.fs h).acc).th = true
theorem Ok.good {s : Lg} {n : Nat} (h : Ok s n) : Good s := ⟨fun k hk => by have := h.fs k hk; have := h.le; unfold goodf; omega, h.ac⟩
theorem Ok.mono {s : Lg} {n m : Nat} (h : Ok s n) (hm : n ≤ m) (hk : m ≤ 1000) : Ok s m := ⟨hk, fun k hk => by have := h.fs k hk; omega, h.ac, h.un, h.ua, h.kn⟩

/-- The model in its blocks. -/
structure Md (w : World) (mb lb fb : Nat) (s : Lg) (n : Nat) : Prop where
  blk : w.heap[mb]? = some (.cells #[.map (some lb), .map (some fb)] 51 (0, 0))
  lm : ∃ c, c ≤ n ∧ Gm limE Try.prog 3 w lb c (mL s)
  fm : ∃ c, c ≤ n ∧ Gm funE Try.prog 3 w fb c (mF s)
  ord : lb < fb ∧ fb < mb
theorem Md.kept {F : Nat → Prop} {w w' : World} {mb lb fb : Nat} {s : Lg} {n : Nat} (h : Md w mb lb fb s n) (k : Kept F w w') (hF : ∀ x, x = mb ∨ x = lb ∨ x = fb → ¬ F x) : Md w' mb lb fb s n := by
  obtain ⟨b, ⟨c1, p1, l⟩, ⟨c2, p2, f⟩, o⟩ := h
  exact ⟨(k.block mb (lt_of b) (hF _ (.inl rfl))).trans b, ⟨c1, p1, l.kept k (hF _ (.inr (.inl rfl)))⟩, ⟨c2, p2, f.kept k (hF _ (.inr (.inr rfl)))⟩, o⟩
theorem Md.below {w w' : World} {mb lb fb : Nat} {s : Lg} {n : Nat} (h : Md w mb lb fb s n) (k : Below w.heap.size w w') : Md w' mb lb fb s n := h.kept (Kept.of_below (F := fun _ => False) k) (fun _ _ h => h)
theorem Md.mono {w : World} {mb lb fb : Nat} {s : Lg} {n m : Nat} (h : Md w mb lb fb s n) (hm : n ≤ m) : Md w mb lb fb s m := by
  obtain ⟨b, ⟨c1, p1, l⟩, ⟨c2, p2, f⟩, o⟩ := h
  exact ⟨b, ⟨c1, by omega, l⟩, ⟨c2, by omega, f⟩, o⟩
theorem Md.lt {w : World} {mb lb fb : Nat} {s : Lg} {n : Nat} (h : Md w mb lb fb s n) : mb < w.heap.size := lt_of h.blk
theorem Md.cells {w : World} {mb lb fb : Nat} {s : Lg} {n : Nat} (h : Md w mb lb fb s n) : w.cell? ⟨mb, 0, none⟩ = some (.map (some lb)) ∧ w.cell? ⟨mb, 1, none⟩ = some (.map (some fb)) := ⟨(cell_of h.blk).trans rfl, (cell_of h.blk).trans rfl⟩

theorem mF_th {s : Lg} {k : Int} {p : Tr} (h : mF s k = some p) : ∃ j : Nat, j < 64 ∧ k = j ∧ (s.fs j).th = true ∧ p = (((s.fs j).acc : Int), (s.fs j).res, (s.fs j).bu) := by
  unfold mF fsI at h
  by_cases hr : 0 ≤ k ∧ k < 64
  · rw [if_pos hr] at h
    obtain ⟨j, rfl⟩ : ∃ j : Nat, k = j := ⟨k.toNat, by omega⟩
    simp only [Int.toNat_natCast] at h
    cases e : (s.fs j).th
    · rw [e] at h; cases h
    · rw [e, if_pos rfl] at h; cases h; exact ⟨j, by omega, rfl, e, rfl⟩
  · rw [if_neg hr] at h; cases h
theorem mF_some (s : Lg) (h : Nat) (hl : h < 64) : (mF s (h : Int)).isSome = (s.fs h).th := by
  unfold mF; rw [fsI_in s h hl]; cases (s.fs h).th <;> rfl

/-- Those alone that have come. -/
def msk (f : Nat → Fn) (left : Int → Bool) : Nat → Fn := fun h => { f h with th := (f h).th && !left (h : Int) }
theorem rs_none {f : Nat → Fn} (h : ∀ k, k < 64 → (f k).th = false) (a : Nat) : ∀ k, k ≤ 64 → rs f a k = 0 ∧ bs f a k = 0 ∧ os f a k = 0 := by
  intro k
  induction k with
  | zero => intro _; exact ⟨rfl, rfl, rfl⟩
  | succ k ih =>
    intro hk
    have i := ih (by omega)
    have j := h k (by omega)
    simp [rs, bs, os, i, j]
theorem msk_start (s : Lg) (k : Nat) (hk : k < 64) : (msk s.fs (fun z => (mF s z).isSome) k).th = false := by
  show ((s.fs k).th && !(mF s (k : Int)).isSome) = false
  rw [mF_some s k hk]; cases (s.fs k).th <;> rfl
theorem msk_end (f : Nat → Fn) {left : Int → Bool} (h : ∀ k, left k = false) : msk f left = f := by
  funext k
  show ({ f k with th := (f k).th && !left (k : Int) } : Fn) = f k
  rw [h, Bool.not_false, Bool.and_true]
theorem msk_step (f : Nat → Fn) (left : Int → Bool) (j : Nat) (ht : (f j).th = true) : msk f (fun z => left z && !decide (z = (j : Int))) = put (msk f left) j (f j) := by
  funext k
  by_cases e : k = j
  · subst e
    rw [put_same]
    show ({ f k with th := (f k).th && !(left (k : Int) && !decide ((k : Int) = (k : Int))) } : Fn) = f k
    rw [decide_eq_true rfl, Bool.not_true, Bool.and_false, Bool.not_false, Bool.and_true]
  · rw [put_ne _ _ _ _ e]
    show ({ f k with th := (f k).th && !(left (k : Int) && !decide ((k : Int) = (j : Int))) } : Fn) = { f k with th := (f k).th && !left (k : Int) }
    rw [decide_eq_false (by omega), Bool.not_false, Bool.and_true]
theorem msk_off (f : Nat → Fn) (left : Int → Bool) (j : Nat) (hl : left (j : Int) = true) : (msk f left j).th = false := by
  show ((f j).th && !left (j : Int)) = false
  rw [hl]; cases (f j).th <;> rfl
theorem sum_step (f : Nat → Fn) (left : Int → Bool) (a j : Nat) (hj : j < 64) (ht : (f j).th = true) (hl : left (j : Int) = true) :
    rs (msk f (fun z => left z && !decide (z = (j : Int)))) a 64 = rs (msk f left) a 64 + (if (f j).acc = a then (f j).res else 0) ∧
    bs (msk f (fun z => left z && !decide (z = (j : Int)))) a 64 = bs (msk f left) a 64 + (if (f j).acc = a then (f j).bu else 0) ∧
    os (msk f (fun z => left z && !decide (z = (j : Int)))) a 64 = os (msk f left) a 64 + (if (f j).acc = a ∧ (f j).res = 0 then (f j).bu else 0) := by
  rw [msk_step f left j ht, rs_put, bs_put, os_put, if_pos hj, if_pos hj, if_pos hj]
  have e := msk_off f left j hl
  refine ⟨?_, ?_, ?_⟩
  · simp [cr, e, ht]
  · simp [cb, e, ht]
  · simp [co, e, ht]
theorem msk_good {f : Nat → Fn} (h : ∀ k, k < 64 → goodf (f k)) (left : Int → Bool) : ∀ k, k < 64 → goodf (msk f left k) := fun k hk => h k hk

/-- The step of a range over the model's functions. -/
theorem wpList_mf_next {ops : Array Oper} {rest : List Oper} {o : Oper} {a : Act} {Q : Exit → Act → World → Prop} (w : World) (hg : o.guard = none) (it : Operand) (hop : o.op = Op.next it false)
    (mb r c : Nat) (s : Lg) (left : Int → Bool) (cnt : Nat) (hit : a.eval it = .pointer (some ⟨r, 0, none⟩)) (h : Gr funE Try.prog 3 w mb r c (mF s) left cnt)
    (hDone : cnt = 0 → (∀ k, left k = false) → wpList Try.prog ops Q rest (a.put o.dst (.tuple #[.bool false])) w)
    (hg' : ∀ k, k < 64 → goodf (s.fs k))
    (hMore : ∀ (j : Nat) (w' : World) (cnt' : Nat), j < 64 → (s.fs j).th = true → (s.fs j).acc < 16 → 0 ≤ (s.fs j).res → (s.fs j).res ≤ 1000 → 0 ≤ (s.fs j).bu → (s.fs j).bu ≤ 100000 → left (j : Int) = true → Gr funE Try.prog 3 w' mb r c (mF s) (fun z => left z && !decide (z = (j : Int))) cnt' → cnt' < cnt →
      Kept (fun b => b = r) w w' → w'.heap.size = w.heap.size → (Instr.entry (.pointer (some ⟨r, 0, none⟩))).run Try.prog w' = .ok (.tuple #[.int .i64 (j : Int), .agg #[.int .i64 (s.fs j).acc, .int .i64 (s.fs j).res, .int .i64 (s.fs j).bu]]) w' →
      wpList Try.prog ops Q rest (a.put o.dst (.tuple #[.bool true, .int .i64 (j : Int), .agg #[.int .i64 (s.fs j).acc, .int .i64 (s.fs j).res, .int .i64 (s.fs j).bu]])) w') :
    wpList Try.prog ops Q (o :: rest) a w :=
  wpList_gm_next (E := funE) w hg it hop Try.underlying3 mb r c (mF s) left cnt hit h hDone fun k x w' cnt' h1 h2 h3 h4 h5 h6 h7 h8 => by
    obtain ⟨j, hj, rfl, ht, rfl⟩ := mF_th h3
    obtain ⟨g1, g2, g3, g4, g5⟩ := hg' j hj
    exact hMore j w' cnt' hj ht g1 g2 g3 g4 g5 h2 h4 h5 h6 h7 h8
/-- A look into the model's functions. -/
theorem wpList_mf_look {ops : Array Oper} {rest : List Oper} {o : Oper} {a : Act} {Q : Exit → Act → World → Prop} (w : World) (hg : o.guard = none) (x y : Operand) (hop : o.op = Op.lookup 49 x y true)
    (mb c : Nat) (s : Lg) (hm : a.eval x = .map (some mb)) (h : Gm funE Try.prog 3 w mb c (mF s)) (k : Int) (hx : a.eval y = .int .i64 k) (hw : (Lit.int .i64 k).wf = true) (p q r : Int) (b : Bool) (hv : (mF s k).getD (0, 0, 0) = (p, q, r)) (hb : (mF s k).isSome = b)
    (hK : wpList Try.prog ops Q rest (a.put o.dst (.tuple #[.agg #[.int .i64 p, .int .i64 q, .int .i64 r], .bool b])) w) : wpList Try.prog ops Q (o :: rest) a w := by
  refine wpList_gm_look (E := funE) (et := 46) w hg x y hop Try.underlying3 Try.underlying49 (0, 0, 0) (by kernel_rfl) mb c (mF s) hm h k hx hw ?_
  rw [hv, hb]; exact hK
theorem wpList_mf_get {ops : Array Oper} {rest : List Oper} {o : Oper} {a : Act} {Q : Exit → Act → World → Prop} (w : World) (hg : o.guard = none) (x y : Operand) (hop : o.op = Op.lookup 49 x y false)
    (mb c : Nat) (s : Lg) (hm : a.eval x = .map (some mb)) (h : Gm funE Try.prog 3 w mb c (mF s)) (k : Int) (hx : a.eval y = .int .i64 k) (hw : (Lit.int .i64 k).wf = true) (p q r : Int) (hv : (mF s k).getD (0, 0, 0) = (p, q, r))
    (hK : wpList Try.prog ops Q rest (a.put o.dst (.agg #[.int .i64 p, .int .i64 q, .int .i64 r])) w) : wpList Try.prog ops Q (o :: rest) a w := by
  refine wpList_gm_get (E := funE) (et := 46) w hg x y hop Try.underlying3 Try.underlying49 (0, 0, 0) (by kernel_rfl) mb c (mF s) hm h k hx hw ?_
  rw [hv]; exact hK
/-- A look into the model's limits. -/
theorem wpList_ml_look {ops : Array Oper} {rest : List Oper} {o : Oper} {a : Act} {Q : Exit → Act → World → Prop} (w : World) (hg : o.guard = none) (x y : Operand) (hop : o.op = Op.lookup 48 x y true)
    (mb c : Nat) (s : Lg) (hm : a.eval x = .map (some mb)) (h : Gm limE Try.prog 3 w mb c (mL s)) (k : Int) (hx : a.eval y = .int .i64 k) (hw : (Lit.int .i64 k).wf = true) (p : Int) (b : Bool) (hv : (mL s k).getD 0 = p) (hb : (mL s k).isSome = b)
    (hK : wpList Try.prog ops Q rest (a.put o.dst (.tuple #[.int .i64 p, .bool b])) w) : wpList Try.prog ops Q (o :: rest) a w := by
  refine wpList_gm_look (E := limE) (et := 3) w hg x y hop Try.underlying3 Try.underlying48 0 (by kernel_rfl) mb c (mL s) hm h k hx hw ?_
  rw [hv, hb]; exact hK

set_option maxRecDepth 100000 in
set_option maxHeartbeats 4000000 in
theorem sum_any (mb lb fb : Nat) (s : Lg) (n : Nat) (hs : Ok s n) (a : Int) (a' : Nat) (haa : ∀ k : Nat, k < 16 → ((k : Int) = a ↔ k = a')) (w : World) (h : Md w mb lb fb s n) :
    Calls Try.prog 21 #[.pointer (some ⟨mb, 0, none⟩), .int .i64 a] w fun e w' => e = .returned (.tuple #[.int .i64 (rs s.fs a' 64), .int .i64 (bs s.fs a' 64), .int .i64 (os s.fs a' 64)]) ∧ Below w.heap.size w w' := by
  obtain ⟨c0, c1⟩ := h.cells
  obtain ⟨c, hc, hf⟩ := h.fm
  have hg := hs.good.1
  have hend := fun (left : Int → Bool) (h1 : ∀ k, left k = false) => msk_end s.fs h1
  obtain ⟨z1, z2, z3⟩ := rs_none (fun k hk => msk_start s k hk) a' 64 (by omega)
  go_enter Try.func21, Try.ntmps21
  go_wp2_with ((at_range; refine wpList_gm_range (E := funE) (et := 46) _ rfl _ rfl Try.underlying3 Try.underlying49 fb c (mF s) rfl hf ?_; intro wx hR0 kx hsz))
  go_frame
  obtain ⟨r, hr⟩ : ∃ r, w.heap.size = r := ⟨_, rfl⟩
  have hfr : fb < r := by rw [← hr]; exact hf.lt
  rw [hr] at hR0
  clear h hsz c0 c1 hf
  rw [hr] at kx ⊢
  have HR := Lib.hid hr
  clear hr
  go_loopw [7, 8, 9] (fun x y z wr => ∃ (left : Int → Bool) (cnt : Nat), x = .int .i64 (rs (msk s.fs left) a' 64) ∧ y = .int .i64 (bs (msk s.fs left) a' 64) ∧ z = .int .i64 (os (msk s.fs left) a' 64) ∧ Gr funE Try.prog 3 wr fb r c (mF s) left cnt ∧ Below r w wr) (fun _ _ _ wr => wr.rangeLeft fb r)
  case atStart => exact ⟨_, c, by rw [z1], by rw [z2], by rw [z3], hR0, kx⟩
  case round =>
    clear hR0 kx z1 z2 z3
    obtain ⟨left, cnt, rfl, rfl, rfl, hR, hB⟩ := hrel
    have hle := hR.left_eq
    have b1 := rs_bd (msk_good hg left) a' 64 (by omega)
    have b2 := bs_bd (msk_good hg left) a' 64 (by omega)
    have b3 := os_bd (msk_good hg left) a' 64 (by omega)
    go_wp2_with ((at_next; refine wpList_mf_next _ rfl _ rfl fb r c s left cnt rfl hR (fun hc0 hl0 => ?_) hg (fun j wz cnt' hj ht g1 g2 g3 g4 g5 hlk hR1 hlt kz hsz hen => ?_)))
    · go_returns
      exact ⟨rfl, by rw [HR.out]; exact hB⟩
    all_goals
      obtain ⟨e1, e2, e3⟩ := sum_step s.fs left a' j hj ht hlk
      have ha := haa (s.fs j).acc g1
      have hR2 : Gr funE Try.prog 3 (wz.alloc (.cells #[.int .i64 (s.fs j).acc, .int .i64 (s.fs j).res, .int .i64 (s.fs j).bu] 46)) fb r c (mF s) (fun z => left z && !decide (z = (j : Int))) cnt' := hR1.below ((Below.refl _ _).alloc (Nat.le_refl _) _)
      have hrB : Below r w wz := hB.trans (kz.below (by have := hR.lt; omega) (fun x hx hh => by omega))
      have hrB2 : Below r w (wz.alloc (.cells #[.int .i64 (s.fs j).acc, .int .i64 (s.fs j).res, .int .i64 (s.fs j).bu] 46)) := hrB.alloc (by have := hR1.lt; omega) _
      have hm2 := hR2.left_eq
    · rename_i hacc hres
      have c1 := ha.1 (by simpa using hacc)
      have c2 : (s.fs j).res = 0 := by simpa using hres
      rw [if_pos c1] at e1 e2
      rw [if_pos ⟨c1, c2⟩] at e3
      clear ha hacc hres c1 c2
      go_roundw
      case rel => exact ⟨_, cnt', by rw [e1], by rw [e2], by rw [e3], hR2, hrB2⟩
      case measure => rw [hle, hm2]; exact hlt
    · rename_i hacc hres
      have c1 := ha.1 (by simpa using hacc)
      have c2 : ¬ (s.fs j).res = 0 := by simpa using hres
      rw [if_pos c1] at e1 e2
      rw [if_neg (fun h => c2 h.2), Int.add_zero] at e3
      clear ha hacc hres c1 c2
      go_roundw
      case rel => exact ⟨_, cnt', by rw [e1], by rw [e2], by rw [e3], hR2, hrB2⟩
      case measure => rw [hle, hm2]; exact hlt
    · rename_i hacc
      have c1 : ¬ (s.fs j).acc = a' := fun h => by
        have := ha.2 h
        simp [this] at hacc
      rw [if_neg c1, Int.add_zero] at e1 e2
      rw [if_neg (fun h => c1 h.1), Int.add_zero] at e3
      clear ha hacc c1
      go_roundw
      case rel => exact ⟨_, cnt', by rw [e1], by rw [e2], by rw [e3], hR2, hrB2⟩
      case measure => rw [hle, hm2]; exact hlt
end Go.Proofs.Ytjibcecekjmnlaa
