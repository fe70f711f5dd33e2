/- Any numbers as bytes, and back: the walk. -/
import Derived.Test.YtpecjoalahgfpaaConv
import Derived.Test.YtpecjoalahgfpaaWalkWireMosts
namespace Go.Proofs.Ytpecjoalahgfpaa
open Go.RowKit Go.Kpt WirePure
set_option linter.unusedVariables false

def encs (ms : List Nat) : List Nat := ms.flatMap enc
theorem encs_nil : encs [] = [] := rfl
theorem encs_snoc (ms : List Nat) (m : Nat) : encs (ms ++ [m]) = encs ms ++ enc m := by simp [encs]

theorem encs_len (ms : List Nat) (h : ∀ m ∈ ms, m < 18446744073709551616) : (encs ms).length ≤ 10 * ms.length := by
  induction ms with
  | nil => simp [encs]
  | cons m ms ih =>
    have := ih (fun x hx => h x (List.mem_cons_of_mem _ hx))
    have h1 := enc_len_ten (show m < 2 ^ 64 from h m (List.mem_cons_self ..))
    simp only [encs, List.flatMap_cons, List.length_append, List.length_cons] at this ⊢
    omega

theorem encs_byte (ms : List Nat) (h : ∀ m ∈ ms, m < 18446744073709551616) : ∀ c ∈ encs ms, c < 256 := by
  intro c hc
  obtain ⟨m, hm, hc⟩ := List.mem_flatMap.1 hc
  exact enc_byte (h m hm) c hc

theorem take_snoc {ms : List Nat} {i m : Nat} (hlt : i < ms.length) (hm : ms.getD i 0 = m) : ms.take (i + 1) = ms.take i ++ [m] := by
  rw [List.take_add_one]
  congr 1
  rw [List.getElem?_eq_getElem hlt]
  simp [List.getD_eq_getElem?_getD, List.getElem?_eq_getElem hlt] at hm
  rw [hm]; rfl

theorem encs_split {ms : List Nat} {i m : Nat} (hlt : i < ms.length) (hm : ms.getD i 0 = m) : encs ms = encs (ms.take i) ++ (enc m ++ encs (ms.drop (i + 1))) := by
  conv => lhs; rw [← List.take_append_drop (i + 1) ms, take_snoc hlt hm]
  simp [encs]

set_option maxRecDepth 100000 in
set_option maxHeartbeats 2000000 in
theorem wirePuts_any (a0 : Option Addr) (cap0 : Nat) (ms : List Nat) (a1 : Option Addr) (cap1 : Nat) (bs : List Nat) (w : World) (hmb : ∀ m ∈ ms, m < 18446744073709551616) (hbb : ∀ c ∈ bs, c < 256)
    (hsl0 : Sl .u64 w (fun x => x < w.heap.size) a0 (ib ms)) (hsl1 : Sl .u8 w (fun x => x < w.heap.size) a1 (ib bs)) (hcap : bs.length ≤ cap1) :
    Calls Try.prog 3 #[.slice a0 ms.length cap0, .slice a1 bs.length cap1] w fun e w' => e = .returned (.bool true) ∧ Below w.heap.size w w' := by
  obtain ⟨i0, hi, hz0, hz1, hz2⟩ := info_parts Try.info5
  go_enter Try.func3, Try.ntmps3
  go_wp2_with fail
  refine (head_any _).mono ?_
  rintro e w1 ⟨rfl, hB1⟩
  by_cases hb1 : 60 < ms.length
  · have g1 : (60 : Int) < (ms.length : Int) := by omega
    go_wp2_with fail
    go_ret
    exact ⟨rfl, hB1⟩
  have g1 : ¬ (60 : Int) < (ms.length : Int) := by omega
  by_cases hb2 : 60 < bs.length
  · have g2 : (60 : Int) < (bs.length : Int) := by omega
    go_wp2_with fail
    go_ret
    exact ⟨rfl, hB1⟩
  have g2 : ¬ (60 : Int) < (bs.length : Int) := by omega
  have hbase := hB1.size
  have hnil := (OwnI.empty w1 w1.heap.size 5 .u8 (Nat.le_refl _))
  have hsl2 : Sl .u8 (w1.alloc (.cells #[] 5)) (fun x => x < w.heap.size) a1 (ib bs) := (hsl1.kept (Kept.of_below (F := fun _ => False) hB1) (fun x hx h => h)).kept ((Kept.refl (fun _ => False) w1).alloc _) (fun x hx h => h)
  go_wp2_with (at_builtin; refine wpList_append_ints rfl _ _ _ rfl w1.heap.size 5 .u8 i0 (.int .u8 0) 1 Try.underlying23 hi hz0 hz1 hz2 rfl _ _ rfl hnil a1 cap1 (ib bs) _ (by rw [ib_length]; rfl) hsl2 (by rw [ib_length]; unfold maxLen; simp; omega) (by rw [ib_length]; simp; omega) (by simp) ?_; intro v w2 hown hgrow hloc)
  have hown1 : OwnI w2 w1.heap.size 5 .u8 v (ib bs) := hown
  have hB2 : Below w.heap.size w w2 := (hB1.alloc hbase _).trans ((Kept.of_grown hgrow).below (by simp; omega) (fun x hx h => by
    have h' : some x = some w1.heap.size := h
    cases h'; omega))
  have hsl3 : Sl .u8 w2 (fun x => x < w2.heap.size ∧ v.ownBlock ≠ some x) a1 (ib bs) := (hsl1.kept (Kept.of_below (F := fun _ => False) hB2) (fun x hx h => h)).mono (fun x hx => ⟨Nat.lt_of_lt_of_le hx hB2.size, fun h => by have := (hown1.lt x h).1; omega⟩)
  have hW1 : w1.heap.size ≤ w2.heap.size := by have := hgrow.size; simp at this; omega
  clear hown hgrow hloc hnil hsl2
  go_loopw [28, 5, 6] (fun x y z wr => ∃ (i : Nat) (a : Option Addr) (cap : Nat), x = .int .i64 i ∧ i ≤ ms.length ∧ y = .slice a (bs ++ encs (ms.take i)).length cap ∧ (bs ++ encs (ms.take i)).length ≤ cap ∧ Sl .u8 wr (fun x => x < wr.heap.size ∧ z.ownBlock ≠ some x) a (ib (bs ++ encs (ms.take i))) ∧ OwnI wr w1.heap.size 5 .u8 z (ib (bs ++ encs (ms.take i))) ∧ Below w.heap.size w wr ∧ w1.heap.size ≤ wr.heap.size) (fun x _ _ _ => ms.length - (intOf x).toNat)
  case atStart => exact ⟨0, a1, cap1, rfl, by omega, by simp [encs], by simpa [encs] using hcap, by simpa [encs] using hsl3, by simpa [encs] using hown1, hB2, hW1⟩
  case round =>
    clear hown1 hsl3
    obtain ⟨i, a, cap, rfl, hi', rfl, hcap2, hsl, hown, hB, hW⟩ := hrel
    have htl : (ms.take i).length ≤ 60 := by simp; omega
    have hel := encs_len (ms.take i) (fun m hm => hmb m (List.mem_of_mem_take hm))
    have hGl : (bs ++ encs (ms.take i)).length ≤ 700 := by simp; omega
    by_cases hlt : i < ms.length
    · obtain ⟨b, off, rfl, hb, hcell⟩ := hsl0 i (by rw [ib_length]; omega)
      have hcell := arg_cell hB hcell
      obtain ⟨m, hm⟩ : ∃ m, ms.getD i 0 = m := ⟨_, rfl⟩
      rw [ib_getD, hm] at hcell
      have hm64 : m < 18446744073709551616 := by
        apply hmb
        rw [← hm, List.getD_eq_getElem?_getD, List.getElem?_eq_getElem hlt]
        exact List.getElem_mem hlt
      have hnext : (bs ++ encs (ms.take i)) ++ enc m = bs ++ encs (ms.take (i + 1)) := by rw [take_snoc hlt hm, encs_snoc, List.append_assoc]
      have hten := enc_len_ten (show m < 2 ^ 64 from hm64)
      have j1 : (i : Int) < (ms.length : Int) := by omega
      have hput := put_any a cap (bs ++ encs (ms.take i)) m hm64 _ wr hsl (by omega)
      have hby := bytes_any m hm64
      rw [hnext] at hput
      obtain ⟨G, hG⟩ : ∃ G, bs ++ encs (ms.take i) = G := ⟨_, rfl⟩
      obtain ⟨G2, hG2⟩ : ∃ G2, bs ++ encs (ms.take (i + 1)) = G2 := ⟨_, rfl⟩
      rw [hG] at hput hsl hown hcap2 hGl hnext ⊢
      rw [hG2] at hput hnext
      clear hsl hm hel htl
      go_wp2_with fail
      refine hput.mono ?_
      rintro x w3 ⟨v3, rfl, ho3, hB3⟩
      obtain ⟨p3, c3, rfl, hc3, -, hs3⟩ := ho3.sl
      rw [ib_length] at hc3 ⊢
      have hown3 := hown.kept (Kept.of_below (F := fun _ => False) hB3) (fun g hg h => h)
      have hlt3 := hown.lt
      clear hput hown ho3
      go_wp2_with fail
      refine (hby _).mono ?_
      rintro x w4 ⟨v4, rfl, ho4, hB4⟩
      obtain ⟨p4, c4, rfl, hc4, -, hs4⟩ := ho4.sl
      rw [ib_length] at hc4 ⊢
      have hown4 := hown3.kept (Kept.of_below (F := fun _ => False) hB4) (fun g hg h => h)
      have hs34 := hs3.kept (Kept.of_below (F := fun _ => False) hB4) (fun x hx h => h)
      clear hby hown3 hs3 ho4
      have hz3 := hB3.size
      have hz4 := hB4.size
      go_wp2_with (at_builtin; refine wpList_append_ints rfl _ _ _ rfl w1.heap.size 5 .u8 i0 (.int .u8 0) 1 Try.underlying23 hi hz0 hz1 hz2 rfl _ _ rfl hown4 p4 c4 (ib (enc m)) _ (by rw [ib_length]; rfl) hs4 (by rw [ib_length, ib_length]; unfold maxLen; omega) (by rw [ib_length, ib_length]; omega) (by omega) ?_; intro v5 w5 hown5 hgrow hloc)
      have hgk : Kept (fun x => some x = u6.ownBlock) w4 w5 := Kept.of_grown hgrow
      have hloc' : v5.ownBlock = u6.ownBlock ∨ v5.ownBlock = some w4.heap.size := hloc
      have hz5 := hgk.size
      have hB5 : Below w.heap.size w w5 := ((hB.trans (hB3.mono (by omega))).trans (hB4.mono (by omega))).trans (hgk.below (by omega) (fun x hx h => by have := (hlt3 x h.symm).1; omega))
      have hs5 : Sl .u8 w5 (fun x => x < w5.heap.size ∧ v5.ownBlock ≠ some x) p3 (ib G2) := by
        refine (hs34.kept hgk (fun x hx h => by have := (hlt3 x h.symm).2; omega)).mono (fun x hx => ⟨by omega, fun h => ?_⟩)
        rcases hloc' with h' | h'
        · rw [h'] at h; have := (hlt3 x h).2; omega
        · rw [h'] at h; cases h; omega
      have hown6 : OwnI w5 w1.heap.size 5 .u8 v5 (ib G2) := by rw [← hnext, ib_append]; exact hown5
      clear hgrow hloc hown5 hown4 hs34 hs4 hgk
      go_wp2_with fail
      go_roundw
      case rel => exact ⟨i + 1, p3, c3, by go_num, by omega, by rw [hG2], by rw [hG2]; exact hc3, by rw [hG2]; exact hs5, by rw [hG2]; exact hown6, hB5, by omega⟩
      case measure => simp [intOf]; omega
    · obtain rfl : i = ms.length := by omega
      rw [List.take_length] at hsl hown hcap2 hGl ⊢
      clear hel htl
      obtain ⟨p5, c5, rfl, -, -, hs5⟩ := hown.sl
      have hc1 := conv_any hsl cap
      have hc2 := conv_any hs5 c5
      rw [ib_length]
      have hGd : (bs ++ encs ms).drop bs.length = encs ms := by simp
      have hGlen : (bs ++ encs ms).length = bs.length + (encs ms).length := by simp
      obtain ⟨a2, ha2, hsl2⟩ : ∃ a2, ((cap = bs.length ∧ a2 = a) ∨ (¬ cap = bs.length ∧ Option.map (fun x => x.add bs.length) a = a2)) ∧ Sl .u8 wr (fun x => x < wr.heap.size) a2 (ib (encs ms)) := by
        by_cases hc : cap = bs.length
        · have h0 : encs ms = [] := List.eq_nil_of_length_eq_zero (by omega)
          exact ⟨a, .inl ⟨hc, rfl⟩, by rw [h0]; intro i hi; simp [ib] at hi⟩
        · refine ⟨_, .inr ⟨hc, rfl⟩, ?_⟩
          have := (Sl.drop hsl bs.length).mono (q := fun x => x < wr.heap.size) (fun x hx => hx.1)
          rw [← ib_drop, hGd] at this
          exact this
      have hel := encs_len ms hmb
      have heb := encs_byte ms hmb
      have hspl : ∀ i m, i < ms.length → ms.getD i 0 = m → encs ms = encs (ms.take i) ++ (enc m ++ encs (ms.drop (i + 1))) := fun i m h1 h2 => encs_split h1 h2
      obtain ⟨E, hE⟩ : ∃ E, encs ms = E := ⟨_, rfl⟩
      obtain ⟨L, hL⟩ : ∃ L, (bs ++ encs ms).length = L := ⟨_, rfl⟩
      obtain ⟨S, hS⟩ : ∃ S, bstr (bs ++ encs ms) = S := ⟨_, rfl⟩
      rw [hL, hS] at hc1 hc2
      rw [hL] at hcap2 hGlen hGl ⊢
      rw [hE] at hGlen hsl2 heb hel
      have hEl : L - bs.length = E.length := by omega
      have i1 : (bs.length : Int) ≤ (L : Int) := by omega
      have i2 : (L : Int) ≤ (cap : Int) := by omega
      clear hsl hown hs5 hGd
      have HG := Lib.hid hGlen
      have hEb : E.length ≤ 600 := by omega
      have hSub : IntKind.i64.wrap ((L : Int) - (bs.length : Int)) = (E.length : Int) := by rw [IntWalk.i64_in _ ⟨by omega, by omega⟩]; omega
      have hSub2 : (L : Int) - (bs.length : Int) = (E.length : Int) := by omega
      clear hGlen hlt
      rcases ha2 with ⟨rfl, rfl⟩ | ⟨hc, ha2⟩
      all_goals
        go_wp2_with fail
        refine (read_any a2 E.length _ wr).mono ?_
        rintro x w4 ⟨rfl, hrd, hB4, hs4⟩
        have hG := HG.out
        have hsl4 := hsl2.kept (Kept.of_below (F := fun _ => False) hB4) (fun x hx h => h)
        have hZ4 : Below w.heap.size w w4 := hB.trans (hB4.mono hB.size)
        obtain ⟨r, hrr⟩ : ∃ r, wr.heap.size = r := ⟨_, rfl⟩
        have hrb : w.heap.size ≤ r := by rw [← hrr]; exact hB.size
        rw [hrr] at hrd hsl4 ⊢
        have hrlt := lt_of hrd
        obtain ⟨c2, hcc, hcle⟩ : ∃ c2, Rd w4 r a2 E.length c2 0 0 ∧ E.length ≤ c2 := ⟨_, hrd, by omega⟩
        clear hrd hG HG hc1 hc2 hS hL hB4 hs4 hrr hsl2
        go_wp2_with fail
        go_loopw [52] (fun x wr => ∃ (i : Nat), x = .int .i64 i ∧ i ≤ ms.length ∧ Rd wr r a2 E.length c2 (encs (ms.take i)).length 0 ∧ Kept (fun x => x = r) w4 wr) (fun x _ => ms.length - (intOf x).toNat)
        case atStart => exact ⟨0, rfl, by omega, hcc, Kept.refl _ _⟩
        case round =>
          clear hcc
          obtain ⟨i, rfl, hi', hrd, hK⟩ := hrel
          have hslr := hsl4.kept hK (fun x hx h => by omega)
          by_cases hlt : i < ms.length
          · obtain ⟨b, off, rfl, hb, hcell⟩ := hsl0 i (by rw [ib_length]; omega)
            have hcell := (hK.cell (p := ⟨b, off + i, none⟩) (show b < _ by have := hZ4.size; omega) (show ¬ b = r by omega)).trans (arg_cell hZ4 hcell)
            obtain ⟨m, hm⟩ : ∃ m, ms.getD i 0 = m := ⟨_, rfl⟩
            rw [ib_getD, hm] at hcell
            have hm64 : m < 18446744073709551616 := by
              apply hmb
              rw [← hm, List.getD_eq_getElem?_getD, List.getElem?_eq_getElem hlt]
              exact List.getElem_mem hlt
            have hsp := hspl i m hlt hm
            rw [hE] at hsp
            have hlen := congrArg List.length hsp
            simp only [List.length_append] at hlen
            have hpos := enc_len_pos m
            have hnx := nxt_at (pre := encs (ms.take i)) (rest := encs (ms.drop (i + 1))) hm64 (show m ≤ 18446744073709551615 by omega)
            rw [← hsp] at hnx
            have hnext : (encs (ms.take (i + 1))).length = (encs (ms.take i)).length + (enc m).length := by rw [take_snoc hlt hm, encs_snoc, List.length_append]
            have hmm := more_any _ _ _ _ _ _ wr hrd
            rw [show decide ((0 : Nat) = 0 ∧ (encs (ms.take i)).length < E.length) = true by simp; omega] at hmm
            have j1 : (i : Int) < (ms.length : Int) := by omega
            have hlt2 : (encs (ms.take i)).length ≤ E.length := by omega
            clear hm hspl hsp hlen
            go_wp2_with fail
            refine hmm.mono ?_
            rintro x w5 ⟨rfl, hB5⟩
            have hrd5 := hrd.below hB5
            have hsl5 := hslr.kept (Kept.of_below (F := fun _ => False) hB5) (fun x hx h => h)
            have hnum := num_any r a2 c2 _ 18446744073709551615 0 E _ w5 hrd5 hsl5 (fun x hx => by omega) (by omega) hcle (by omega) heb _ _ _ hnx
            clear hmm hslr hrd
            go_wp2_with fail
            refine hnum.mono ?_
            rintro x w6 ⟨rfl, hrd6, hk6⟩
            rw [← hnext] at hrd6
            go_wp2_with fail
            go_roundw
            case rel => exact ⟨i + 1, by go_num, by omega, hrd6, (hK.trans (Kept.of_below (F := fun _ => False) hB5) (fun _ _ h => h.elim)).trans hk6 (fun _ _ h => h)⟩
            case measure => simp [intOf]; omega
          · obtain rfl : i = ms.length := by omega
            rw [List.take_length, hE] at hrd
            have hmm := more_any _ _ _ _ _ _ wr hrd
            rw [show decide ((0 : Nat) = 0 ∧ E.length < E.length) = false by simp] at hmm
            have hend : Below w.heap.size w wr := hZ4.trans (hK.below (by omega) (fun x hx h => by omega))
            clear hspl hlt hi'
            go_wp2_with fail
            refine hmm.mono ?_
            rintro x w5 ⟨rfl, hB5⟩
            have hrd5 := hrd.below hB5
            have hee := err_any _ _ _ _ _ _ w5 hrd5
            have haa := at_any _ _ _ _ _ _ w5 hrd5
            go_wp2_with fail
            refine hee.mono ?_
            rintro x w6 ⟨rfl, rfl⟩
            go_wp2_with fail
            refine haa.mono ?_
            rintro x w6 ⟨rfl, rfl⟩
            go_wp2_with fail
            go_ret
            exact ⟨rfl, hend.trans (hB5.mono hend.size)⟩

theorem wirePuts_walk (a0 : Option Addr) (cap0 : Nat) (z0 : List Int) (a1 : Option Addr) (cap1 : Nat) (z1 : List Int) (w : World) (w0 : IsInts .u64 w a0 z0) (y0 : z0.length ≤ cap0) (w1 : IsInts .u8 w a1 z1) (y1 : z1.length ≤ cap1) :
    Calls Try.prog 3 #[.slice a0 z0.length cap0, .slice a1 z1.length cap1] w fun e w' => e = .returned (.bool true) ∧ Below w.heap.size w w' := by
  obtain ⟨ms, rfl, hmb, hsl0⟩ := isU64s w0
  obtain ⟨bs, rfl, hbb, hsl1⟩ := isBytes w1
  rw [ib_length] at y1
  rw [ib_length, ib_length]
  exact wirePuts_any a0 cap0 ms a1 cap1 bs w hmb hbb hsl0 hsl1 y1
end Go.Proofs.Ytpecjoalahgfpaa
