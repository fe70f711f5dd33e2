/- Bools as bytes, and back; a number above one is none: the walk. -/
import Derived.Test.YtpecjoalahgfpaaConv
namespace Go.Proofs.Ytpecjoalahgfpaa
open Go.RowKit Go.Kpt WirePure
set_option linter.unusedVariables false

def bt (on : Bool) : Nat := if on then 1 else 0
def bts (l : List Bool) : List Nat := l.map bt

theorem bt_lt (on : Bool) : bt on < 2 := by cases on <;> decide

theorem dec_small {c : Nat} (l : List Nat) (h : c < 128) : dec 0 (c :: l) = some (c, 1) := by
  rw [dec_cons, if_neg (by omega), if_neg (by omega)]

theorem dec_great {c : Nat} (h : 128 ≤ c) : dec 0 [c] = none := by
  rw [dec_cons, if_neg (by omega), if_pos h]; rfl

theorem nxt_flag {zs : List Nat} {i c : Nat} (h : zs[i]? = some c) (hc : c < 2) : nxt 0 zs 1 i = (c, i + 1, 0) := by
  obtain ⟨hi, he⟩ := List.getElem?_eq_some_iff.1 h
  unfold nxt
  rw [if_pos rfl, List.drop_eq_getElem_cons hi, he, dec_small _ (by omega)]
  simp [res]; omega

theorem nxt_odd {l : List Nat} {c : Nat} : nxt 0 (l ++ [c]) 1 l.length = if c < 2 then (c, l.length + 1, 0) else if c < 128 then (0, l.length, 1) else (0, l.length, 5) := by
  unfold nxt
  rw [if_pos rfl, List.drop_left]
  by_cases h1 : c < 2
  · rw [if_pos h1, dec_small _ (by omega)]; simp [res]; omega
  · rw [if_neg h1]
    by_cases h2 : c < 128
    · rw [if_pos h2, dec_small _ h2]; simp [res]; omega
    · rw [if_neg h2, dec_great (by omega)]; simp [res]

set_option maxRecDepth 100000 in
set_option maxHeartbeats 2000000 in
theorem wireFlags_any (a0 : Option Addr) (cap0 : Nat) (bs : List Bool) (odd : Nat) (ho : odd < 256) (w : World)
    (hsl0 : ∀ i, i < bs.length → ∃ b off, a0 = some ⟨b, off, none⟩ ∧ w.cell? ⟨b, off + i, none⟩ = some (.bool (bs.getD i false))) :
    Calls Try.prog 9 #[.slice a0 bs.length cap0, .int .u8 odd] w fun e w' => e = .returned (.bool true) ∧ Below w.heap.size w w' := by
  obtain ⟨i0, hi, hz0, hz1, hz2⟩ := info_parts Try.info5
  go_enter Try.func9, Try.ntmps9
  go_wp2_with fail
  refine (head_any _).mono ?_
  rintro e w1 ⟨rfl, hB1⟩
  by_cases hb1 : 60 < bs.length
  · have g1 : (60 : Int) < (bs.length : Int) := by omega
    go_wp2_with fail
    go_ret
    exact ⟨rfl, hB1⟩
  have g1 : ¬ (60 : Int) < (bs.length : Int) := by omega
  have hbase := hB1.size
  have hown := OwnI.empty w1 w1.heap.size 5 .u8 (Nat.le_refl _)
  go_wp2_with fail
  go_loopw [20, 5] (fun x y wr => ∃ (i : Nat), x = .int .i64 i ∧ i ≤ bs.length ∧ OwnI wr w1.heap.size 5 .u8 y (ib (bts (bs.take i))) ∧ Below w1.heap.size w1 wr) (fun x _ _ => bs.length - (intOf x).toNat)
  case atStart => exact ⟨0, rfl, by omega, hown, by go_grown⟩
  case round =>
    clear hown
    obtain ⟨i, rfl, hi', hown, hB⟩ := hrel
    by_cases hlt : i < bs.length
    · obtain ⟨b, off, rfl, hcell⟩ := hsl0 i hlt
      have hcell := arg_cell (hB1.trans (hB.mono hbase)) hcell
      obtain ⟨on, hon⟩ : ∃ on, bs.getD i false = on := ⟨_, rfl⟩
      rw [hon] at hcell
      have htake : bs.take (i + 1) = bs.take i ++ [on] := by
        rw [List.take_add_one]
        congr 1
        rw [List.getElem?_eq_getElem hlt]
        simp [List.getD_eq_getElem?_getD, List.getElem?_eq_getElem hlt] at hon
        rw [hon]; rfl
      have j1 : (i : Int) < (bs.length : Int) := by omega
      obtain ⟨p1, c1, rfl, -, -, hslb⟩ := hown.sl
      have hl : (ib (bts (bs.take i))).length = (bts (bs.take i)).length := ib_length _
      have hlb : (bts (bs.take i)).length ≤ 60 := by simp [bts]; omega
      have hput := putflag_any p1 c1 (bts (bs.take i)) on _ wr hslb (by omega)
      have e1 : bts (bs.take i) ++ [if on then 1 else 0] = bts (bs.take (i + 1)) := by rw [htake]; simp [bts, bt]
      rw [e1] at hput
      rw [hl]
      have hBs := hB.size
      clear hon htake e1 hown hl hslb
      obtain ⟨L, hL⟩ : ∃ L, (bts (bs.take i)).length = L := ⟨_, rfl⟩
      rw [hL] at hput ⊢
      go_wp2_with fail
      refine hput.mono ?_
      rintro x w2 ⟨v, rfl, hown2, hB2⟩
      go_wp2_with fail
      go_roundw
      case rel => exact ⟨i + 1, by go_num, by omega, hown2.mono hBs, hB.trans (hB2.mono hBs)⟩
      case measure => simp [intOf]; omega
    · obtain rfl : i = bs.length := by omega
      rw [List.take_length] at hown
      obtain ⟨p1, c1, rfl, hc1, -, hslb⟩ := hown.sl
      have hlb : (bts bs).length = bs.length := by simp [bts]
      rw [ib_length, hlb] at hc1 ⊢
      have hBs := hB.size
      have hnil := (OwnI.empty wr wr.heap.size 5 .u8 (Nat.le_refl _))
      have hsl2 : Sl .u8 (wr.alloc (.cells #[] 5)) (fun x => w1.heap.size ≤ x ∧ x < wr.heap.size) p1 (ib (bts bs)) := hslb.kept ((Kept.refl (fun _ => False) wr).alloc _) (fun x hx h => h)
      clear hi' hown
      go_wp2_with (first
        | (at_builtin; refine wpList_append_ints rfl _ _ _ rfl wr.heap.size 5 .u8 i0 (.int .u8 0) 1 Try.underlying23 hi hz0 hz1 hz2 rfl _ _ rfl hnil p1 c1 (ib (bts bs)) _ (by rw [ib_length, hlb]; rfl) hsl2 (by rw [ib_length, hlb]; unfold maxLen; simp; omega) (by rw [ib_length, hlb]; simp; omega) (by simp) ?_; intro v w2 hown hgrow hloc)
        | (at_builtin; refine wpList_append_ints rfl _ _ _ rfl wr.heap.size 5 .u8 i0 (.int .u8 0) 1 Try.underlying23 hi hz0 hz1 hz2 rfl _ (ib (bts bs)) rfl (OwnI.alloc hown _) (some ⟨w2.heap.size, 0, none⟩) 1 [(odd : Int)] _ rfl (Sl.one _ _ _ _) (by rw [ib_length, hlb]; unfold maxLen; simp; omega) (by rw [ib_length, hlb]; simp; omega) (by have := hgrow.size; simp at this ⊢; omega) ?_; intro v3 w3 hown3 hgrow3 hloc3))
      have hown4 : OwnI w3 wr.heap.size 5 .u8 v3 (ib (bts bs ++ [odd])) := by rw [ib_append]; exact hown3
      have hW2 : Below wr.heap.size wr w2 := ((Below.refl _ _).alloc (Nat.le_refl _) _).trans ((Kept.of_grown hgrow).below (by simp) (fun x hx h => by
        have h' : some x = some wr.heap.size := h
        cases h'; omega))
      have hW3 : Below wr.heap.size wr w3 := (hW2.alloc hW2.size _).trans ((Kept.of_grown hgrow3).below (by simp; have := hW2.size; omega) (fun x hx h => by have := (OwnI.lt hown x h.symm).1; omega))
      clear hgrow hloc hgrow3 hloc3 hown hown3 hnil hsl2 hslb
      obtain ⟨zs, hzs⟩ : ∃ zs, bts bs ++ [odd] = zs := ⟨_, rfl⟩
      have hzl : zs.length = bs.length + 1 := by rw [← hzs]; simp [hlb]
      have hzb : ∀ c ∈ zs, c < 256 := by
        intro c hc
        rw [← hzs] at hc
        rcases List.mem_append.1 hc with h | h
        · obtain ⟨x, _, rfl⟩ := List.mem_map.1 h
          have := bt_lt x; omega
        · have : c = odd := by simpa using h
          omega
      have hzi : ∀ i on, i < bs.length → bs.getD i false = on → zs[i]? = some (bt on) := by
        intro i on hi hon
        rw [← hzs, List.getElem?_append_left (by omega), bts, List.getElem?_map, List.getElem?_eq_getElem hi]
        simp [List.getD_eq_getElem?_getD, List.getElem?_eq_getElem hi] at hon
        rw [hon]; rfl
      have hlast : nxt 0 zs 1 bs.length = if odd < 2 then (odd, bs.length + 1, 0) else if odd < 128 then (0, bs.length, 1) else (0, bs.length, 5) := by
        have := nxt_odd (l := bts bs) (c := odd)
        rw [hlb, hzs] at this
        exact this
      rw [hzs] at hown4
      obtain ⟨p3, c3, rfl, hc3, -, hsl3⟩ := hown4.sl
      rw [ib_length] at hc3 ⊢
      have hZ3 : Below w.heap.size w w3 := (hB1.trans (hB.mono hbase)).trans (hW3.mono (by omega))
      clear hown4
      rw [hzl] at hc3
      have hr := read_any p3 (bs.length + 1) c3 w3
      rw [hzl]
      go_wp2_with fail
      refine hr.mono ?_
      rintro x w4 ⟨rfl, hrd, hB4, hs4⟩
      obtain ⟨r, hrr⟩ : ∃ r, w3.heap.size = r := ⟨_, rfl⟩
      have hsl4 := hsl3.kept (Kept.of_below (F := fun _ => False) hB4) (fun x hx h => h)
      have hZ4 : Below w.heap.size w w4 := hZ3.trans (hB4.mono hZ3.size)
      have hrb : w.heap.size ≤ r := by rw [← hrr]; exact hZ3.size
      rw [hrr] at hrd hsl4 ⊢
      rw [← hzl] at hrd hc3
      have hrlt := lt_of hrd
      clear hr hsl3 hB4 hs4 hrr hW2 hW3 hlt
      go_wp2_with fail
      go_loopw [42] (fun x wr => ∃ (i : Nat), x = .int .i64 i ∧ i ≤ bs.length ∧ Rd wr r p3 zs.length c3 i 0 ∧ Kept (fun x => x = r) w4 wr) (fun x _ => bs.length - (intOf x).toNat)
      case atStart => exact ⟨0, rfl, by omega, hrd, Kept.refl _ _⟩
      case round =>
        clear hrd
        obtain ⟨i, rfl, hi', hrd, hK⟩ := hrel
        have hslr := hsl4.kept hK (fun x hx h => by omega)
        by_cases hlt : i < bs.length
        · obtain ⟨b, off, rfl, hcell⟩ := hsl0 i hlt
          have hb := block_lt_of_cell hcell
          have hcell := (hK.cell (p := ⟨b, off + i, none⟩) (show b < _ by have := hZ4.size; simp at hb; omega) (show ¬ b = r by simp at hb; omega)).trans (arg_cell hZ4 hcell)
          obtain ⟨on, hon⟩ : ∃ on, bs.getD i false = on := ⟨_, rfl⟩
          rw [hon] at hcell
          have hfl := flag_any r p3 c3 i 0 zs _ wr hrd hslr (fun x hx => by omega) (by omega) (by omega) (by omega) hzb _ _ _ (nxt_flag (hzi i on hlt hon) (bt_lt on))
          rw [show decide (bt on = 1) = on by cases on <;> decide] at hfl
          have j1 : (i : Int) < (bs.length : Int) := by omega
          clear hon hslr hzi hb
          go_wp2_with fail
          refine hfl.mono ?_
          rintro x w5 ⟨rfl, hrd5, hk5⟩
          go_wp2_with fail
          go_roundw
          case rel => exact ⟨i + 1, by go_num, by omega, hrd5, hK.trans hk5 (fun _ _ h => h)⟩
          case measure => simp [intOf]; omega
        · obtain rfl : i = bs.length := by omega
          have hend : ∀ w5, Kept (fun x => x = r) wr w5 → Below w.heap.size w w5 := fun w5 hk => hZ4.trans ((hK.trans hk (fun _ _ h => h)).below (by omega) (fun x hx h => by omega))
          have HEnd := Lib.hid hend
          by_cases ho2 : odd < 2
          · rw [if_pos ho2] at hlast
            have hfl := flag_any r p3 c3 bs.length 0 zs _ wr hrd hslr (fun x hx => by omega) (by omega) (by omega) (by omega) hzb _ _ _ hlast
            have k1 : (odd : Int) < 2 := by omega
            by_cases h1 : odd = 1
            · have d : ((odd : Int) == 1) = true := by simp; omega
              rw [show decide (odd = 1) = true by simp [h1]] at hfl
              clear h1 hslr hzi hlast hend
              go_wp2_with fail
              refine hfl.mono ?_
              rintro x w5 ⟨rfl, hrd5, hk5⟩
              have hee := err_any _ _ _ _ _ _ w5 hrd5
              go_wp2_with fail
              refine hee.mono ?_
              rintro x w6 ⟨rfl, rfl⟩
              go_wp2_with fail
              go_ret
              exact ⟨rfl, HEnd.out _ hk5⟩
            · have d : ((odd : Int) == 1) = false := by simp; omega
              rw [show decide (odd = 1) = false by simp [h1]] at hfl
              clear h1 hslr hzi hlast hend
              go_wp2_with fail
              refine hfl.mono ?_
              rintro x w5 ⟨rfl, hrd5, hk5⟩
              have hee := err_any _ _ _ _ _ _ w5 hrd5
              go_wp2_with fail
              refine hee.mono ?_
              rintro x w6 ⟨rfl, rfl⟩
              go_wp2_with fail
              go_ret
              exact ⟨rfl, HEnd.out _ hk5⟩
          · rw [if_neg ho2] at hlast
            have k1 : ¬ (odd : Int) < 2 := by omega
            by_cases ho3 : odd < 128
            · rw [if_pos ho3] at hlast
              have k2 : (odd : Int) < 128 := by omega
              have hfl := flag_any r p3 c3 bs.length 0 zs _ wr hrd hslr (fun x hx => by omega) (by omega) (by omega) (by omega) hzb _ _ _ hlast
              rw [show decide ((0 : Nat) = 1) = false by decide] at hfl
              clear hslr hzi hlast hend
              go_wp2_with fail
              refine hfl.mono ?_
              rintro x w5 ⟨rfl, hrd5, hk5⟩
              have hee := err_any _ _ _ _ _ _ w5 hrd5
              go_wp2_with fail
              refine hee.mono ?_
              rintro x w6 ⟨rfl, rfl⟩
              go_wp2_with fail
              go_ret
              exact ⟨rfl, HEnd.out _ hk5⟩
            · rw [if_neg ho3] at hlast
              have k2 : ¬ (odd : Int) < 128 := by omega
              have hfl := flag_any r p3 c3 bs.length 0 zs _ wr hrd hslr (fun x hx => by omega) (by omega) (by omega) (by omega) hzb _ _ _ hlast
              rw [show decide ((0 : Nat) = 1) = false by decide] at hfl
              clear hslr hzi hlast hend
              go_wp2_with fail
              refine hfl.mono ?_
              rintro x w5 ⟨rfl, hrd5, hk5⟩
              have hee := err_any _ _ _ _ _ _ w5 hrd5
              go_wp2_with fail
              refine hee.mono ?_
              rintro x w6 ⟨rfl, rfl⟩
              go_wp2_with fail
              go_ret
              exact ⟨rfl, HEnd.out _ hk5⟩

theorem wireFlags_walk (a0 : Option Addr) (cap0 : Nat) (z0 : List Bool) (a1 : Int) (w : World) (w0 : IsBools w a0 z0) (y0 : z0.length ≤ cap0) (w1 : (Lit.int .u8 a1).wf = true) :
    Calls Try.prog 9 #[.slice a0 z0.length cap0, .int .u8 a1] w fun e w' => e = .returned (.bool true) ∧ Below w.heap.size w w' := by
  obtain ⟨h0, h1⟩ := bounds_u8 w1
  obtain ⟨odd, rfl⟩ : ∃ odd : Nat, a1 = odd := ⟨a1.toNat, by omega⟩
  exact wireFlags_any a0 cap0 z0 odd (by omega) w w0.2
end Go.Proofs.Ytpecjoalahgfpaa
