/- Two keys of a map that are there turned in one statement ('m[a], m[b] = x, y'): the entries are found, then written. -/
import Derived.Test.YtbnpipfmeekbdaaIntMap
import Derived.WideKeyEntry
set_option linter.unusedVariables false
set_option linter.unusedSimpArgs false
namespace Go.Kpt
open Go.RowKit Go.Maps Go.WideElems Go.ChangeMaps Go.MapKept Go.WideShapes

section
variable {P : Program} {kt et t : TypeId} {w : World} {mb c : Nat} {m : Int → Option Int}

theorem setBlock_same {w : World} {b : Nat} {o : Obj} (h : w.heap[b]? = some o) : setBlock w b o = w := by
  unfold setBlock
  have : w.heap.setIfInBounds b o = w.heap := by
    apply Array.ext_getElem?
    intro i
    rw [Array.getElem?_setIfInBounds]
    by_cases e : b = i
    · subst e
      rw [if_pos rfl, h, if_pos (Array.getElem?_eq_some_iff.1 h).1]
    · rw [if_neg e]
  rw [this]

/-- The entry of a key that is there. -/
theorem entry_at {es : Array MapEntry} {clock : Nat} {D : DataW Unit} (hk : P.underlying kt = some (.int .i64)) (ht : P.underlying t = some (.map kt et)) (hz : ∀ w, (zeroValue et).run P w = .ok (.int .i64 0) w) (he : P.underlying et = some (.int .i64))
    (hb : w.heap[mb]? = some (.map es clock)) (F : Fit P kt (plainElem (H := Unit) P et) es clock) (hown : w.ownsMap P kt (plainElem P et) mb c D) (k : Int) (hw : (Lit.int .i64 k).wf = true) (hh : Maps.has D (.int .i64 k) = true) :
    ∃ (j : Nat) (e0 : MapEntry), es[j]? = some e0 ∧ e0.key = .int .i64 k ∧ (Instr.mapEntry t (.map (some mb)) (.int .i64 k)).run P w = .ok (.tuple #[e0.val, goInt e0.born]) w := by
  have K := int_keyed (P := P) hk
  have hkey := keyOf_int_mk (P := P) hk hw
  rcases K.find w hkey es.toList F.keys with ⟨h1, h2⟩ | ⟨j, e0, h1, h2, h3⟩
  · exfalso
    obtain ⟨v, ps, hrun, -⟩ := hown.look_ok K ht (hz w) (plainElem_int (H := Unit) he (by decide : (Lit.int .i64 0).wf = true)) hkey
    rw [hh] at hrun
    simp [Instr.lookup, run_underlying ht, Go.MapKept.run_getObj_map hb, K.check w es.isEmpty hkey, h1, hz, Result.andThen] at hrun
  · have hj : es[j]? = some e0 := by simpa using h2
    have hsame : es.modify j (fun e => { e with key := .int .i64 k }) = es := by
      apply Array.ext'
      rw [Array.toList_modify, modify_eq_set _ _ _ _ h2]
      have : ({ e0 with key := .int .i64 k } : MapEntry) = e0 := by rw [← h3]
      rw [this]
      exact set_self _ _ _ h2
    refine ⟨j, e0, hj, h3, ?_⟩
    have : (Instr.mapEntry t (.map (some mb)) (.int .i64 k)).run P w = .ok (.tuple #[e0.val, goInt e0.born]) (setBlock w mb (.map es clock)) := by
      simp [Instr.mapEntry, run_underlying ht, Go.MapKept.run_getObj_map hb, K.check w false hkey, h1, hj, h3, K.stays w hkey, hsame, Go.MapKept.run_setObj_map _ hb, Result.andThen, setBlock]
    rw [this, setBlock_same hb]

/-- No key stands twice. -/
theorem apart {es : Array MapEntry} {clock : Nat} {R : Value → Option (DataW Unit × List MemPlace)} (K : Keyed P kt) (F : Fit P kt R es clock) {i j : Nat} {x y : MapEntry} (hi : es[i]? = some x) (hj : es[j]? = some y) (h : x.key = y.key) : i = j := by
  have hp := Maps.fit_apart K F
  rw [List.pairwise_map] at hp
  have hkx : ∀ z ∈ es.toList, keyOf P kt z.key = some (Go.WideElems.rg P kt R z).1 := fun z hz => by
    obtain ⟨y, hy⟩ := F.reads z hz
    have h1 := Go.WideElems.rd_key hy
    unfold Go.WideElems.rg
    rw [hy]
    exact h1
  have hi' : es.toList[i]? = some x := by simpa using hi
  have hj' : es.toList[j]? = some y := by simpa using hj
  have hx := hkx x (List.mem_of_getElem? hi')
  have hy := hkx y (List.mem_of_getElem? hj')
  rw [h, hy] at hx
  have he : (Go.WideElems.rg P kt R y).1 = (Go.WideElems.rg P kt R x).1 := Option.some.inj hx
  obtain ⟨li, ei⟩ := List.getElem?_eq_some_iff.1 hi'
  obtain ⟨lj, ej⟩ := List.getElem?_eq_some_iff.1 hj'
  rw [List.pairwise_iff_getElem] at hp
  rcases Nat.lt_trichotomy i j with hlt | rfl | hlt
  · exact absurd (by rw [ei, ej]; exact he.symm) (hp i j li lj hlt)
  · rfl
  · exact absurd (by rw [ei, ej]; exact he) (hp j i lj li hlt)

theorem mp_two (h : Mp P kt et w mb c m) (hk : P.underlying kt = some (.int .i64)) (ht : P.underlying t = some (.map kt et)) (he : P.underlying et = some (.int .i64)) (hz : ∀ w, (zeroValue et).run P w = .ok (.int .i64 0) w) (hc : c < maxLen)
    (k1 k2 v1 v2 : Int) (hw1 : (Lit.int .i64 k1).wf = true) (hw2 : (Lit.int .i64 k2).wf = true) (hv1 : (Lit.int .i64 v1).wf = true) (hv2 : (Lit.int .i64 v2).wf = true) (h1 : (m k1).isSome = true) (h2 : (m k2).isSome = true) :
    ∃ (x1 x2 x3 : Value) (s1 s2 : Nat) (w1 w2 : World),
      (Instr.mapEntry t (.map (some mb)) (.int .i64 k1)).run P w = .ok (.tuple #[x1, .int .i64 s1]) w ∧
      (Instr.mapEntry t (.map (some mb)) (.int .i64 k2)).run P w = .ok (.tuple #[x2, .int .i64 s2]) w ∧
      (Instr.entryStore t (.map (some mb)) (.int .i64 s1) (.int .i64 v1)).run P w = .ok () w1 ∧
      (Instr.mapEntry t (.map (some mb)) (.int .i64 k2)).run P w1 = .ok (.tuple #[x3, .int .i64 s2]) w1 ∧
      (Instr.entryStore t (.map (some mb)) (.int .i64 s2) (.int .i64 v2)).run P w1 = .ok () w2 ∧
      Mp P kt et w2 mb c (mput (mput m k1 v1) k2 v2) ∧ Kept (fun x => x = mb) w w1 ∧ Kept (fun x => x = mb) w w2 := by
  have K := int_keyed (P := P) hk
  have one : ∀ {W : World} {es : Array MapEntry} {clock : Nat} {M : Int → Option Int} {D : DataW Unit}, W.heap[mb]? = some (.map es clock) → Fit P kt (plainElem (H := Unit) P et) es clock → W.ownsMap P kt (plainElem P et) mb c D → Maps.size D = c →
      (∀ k, Maps.has D (.int .i64 k) = (M k).isSome ∧ ∀ i, M k = some i → D.atKey (.int .i64 k) (.lit (.int .i64 0)) = .lit (.int .i64 i)) →
      ∀ (k v : Int), (Lit.int .i64 k).wf = true → (Lit.int .i64 v).wf = true → (M k).isSome = true →
      ∃ (j : Nat) (e0 : MapEntry) (es' : Array MapEntry) (W' : World), es[j]? = some e0 ∧ e0.key = .int .i64 k ∧ (Instr.mapEntry t (.map (some mb)) (.int .i64 k)).run P W = .ok (.tuple #[e0.val, .int .i64 e0.born]) W ∧
        (Instr.entryStore t (.map (some mb)) (.int .i64 e0.born) (.int .i64 v)).run P W = .ok () W' ∧ W'.heap[mb]? = some (.map es' clock) ∧ es' = es.modify j (fun e => { e with val := .int .i64 v }) ∧ Kept (fun x => x = mb) W W' ∧ Mp P kt et W' mb c (mput M k v) := by
    intro W es clock M D hb F hown hsz hM k v hwk hwv hh
    have hh' : Maps.has D (.int .i64 k) = true := by rw [(hM k).1]; exact hh
    have hkey := keyOf_int_mk (P := P) hk hwk
    obtain ⟨j, e0, hj, hkk, hent⟩ := entry_at hk ht hz he hb F hown k hwk hh'
    have h2 : es.toList[j]? = some e0 := by simpa using hj
    have hidx : es.findIdx? (fun e => ((e.born : Nat) : Int) == ((e0.born : Nat) : Int)) = some j := by
      rw [findIdx_arr]
      exact findIdx_born F.stamped.2.1 h2
    have hmod : es.modify j (fun e' => { e' with key := .int .i64 k, val := .int .i64 v }) = es.modify j (fun e => { e with val := .int .i64 v }) := by
      apply Array.ext'
      rw [Array.toList_modify, Array.toList_modify, modify_eq_set _ _ _ _ h2, modify_eq_set _ _ _ _ h2, ← hkk]
    have hst : (Instr.entryStore t (.map (some mb)) (.int .i64 e0.born) (.int .i64 v)).run P W = .ok () (setBlock W mb (.map (es.modify j (fun e => { e with val := .int .i64 v })) clock)) := by
      simp [Instr.entryStore, Go.MapKept.run_getObj_map hb, asInt, asIntOf, hidx, Go.MapKept.run_setObj_map _ hb, Result.andThen, setBlock]
    have hup : (Instr.mapUpdate t (.map (some mb)) (.int .i64 k) (.int .i64 v)).run P W = .ok () (setBlock W mb (.map (es.modify j (fun e => { e with val := .int .i64 v })) clock)) := by
      rcases K.find W hkey es.toList F.keys with ⟨_, h4⟩ | ⟨j', e', h3, h4, h5⟩
      · exact absurd hkk (h4 e0 (List.mem_of_getElem? h2))
      · have hj' : es[j']? = some e' := by simpa using h4
        obtain rfl : j' = j := apart K F hj' hj (by rw [h5, hkk])
        obtain rfl : e' = e0 := by rw [hj] at hj'; exact (Option.some.inj hj').symm
        have := hmod
        simp [Instr.mapUpdate, run_underlying ht, Go.MapKept.run_getObj_map hb, K.check W false hkey, h3, hj, h5, K.stays W hkey, Go.MapKept.run_setObj_map _ hb, Result.andThen, setBlock, hmod]
    obtain ⟨w', hrun, r1, r2⟩ := hown.update K ht hc hkey (plainElem_int he hwv)
    rw [hup] at hrun
    have hw' : setBlock W mb (.map (es.modify j (fun e => { e with val := .int .i64 v })) clock) = w' := by injection hrun
    have hmp := mp_put hk hown hsz hM k v r1
    rw [if_pos hh] at hmp
    refine ⟨j, e0, _, w', hj, hkk, hent, by rw [← hw']; exact hst, ?_, rfl, (Kept.of_grown r2).mono (fun x _ h => by cases h; rfl), hmp⟩
    rw [← hw']
    exact heap_setBlock_same hb _
  obtain ⟨D, hown, hsz, hM⟩ := h
  obtain ⟨es, clock, hb, F, hle, hD⟩ := hown
  have hown : w.ownsMap P kt (plainElem P et) mb c D := ⟨es, clock, hb, F, hle, hD⟩
  obtain ⟨j1, e1, es1, w1, hj1, hk1, ent1, st1, hb1, hes1, kp1, mp1⟩ := one hb F hown hsz hM k1 v1 hw1 hv1 h1
  obtain ⟨j2, e2, _, _, hj2, hk2, ent2, _⟩ := one hb F hown hsz hM k2 v2 hw2 hv2 h2
  obtain ⟨D1, hown1, hsz1, hM1⟩ := mp1
  have h2' : (mput m k1 v1 k2).isSome = true := by unfold mput; split <;> simp_all
  have hF1 : Fit P kt (plainElem (H := Unit) P et) es1 clock := by
    obtain ⟨es', clock', hb', F', -⟩ := hown1
    rw [hb1] at hb'
    cases hb'
    exact F'
  obtain ⟨j3, e3, es3, w2, hj3, hk3, ent3, st3, hb3, hes3, kp3, mp3⟩ := one hb1 hF1 hown1 hsz1 hM1 k2 v2 hw2 hv2 h2'
  have hborn : e3.born = e2.born := by
    rw [hes1, Array.getElem?_modify] at hj3
    by_cases e : j1 = j3
    · rw [if_pos e] at hj3
      subst e
      rw [hj1] at hj3
      simp only [Option.map_some, Option.some.injEq] at hj3
      subst hj3
      have : j1 = j2 := apart K F hj1 hj2 (by rw [hk2]; exact hk3)
      subst this
      rw [hj1] at hj2
      cases hj2
      rfl
    · rw [if_neg e] at hj3
      have : j3 = j2 := apart K F hj3 hj2 (by rw [hk2]; exact hk3)
      subst this
      rw [hj3] at hj2
      cases hj2
      rfl
  rw [hborn] at ent3 st3
  exact ⟨_, _, _, _, _, w1, w2, ent1, ent2, st1, ent3, st3, mp3, kp1, kp1.trans kp3 (fun _ _ h => h)⟩
end
end Go.Kpt
