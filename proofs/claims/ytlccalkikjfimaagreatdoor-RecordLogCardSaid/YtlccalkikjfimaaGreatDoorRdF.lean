/- Records: Parse of both sides (printed by genrdF.py). -/
import Derived.Test.YtlccalkikjfimaaGreatDoorRdE
import Derived.Test.YtlccalkikjfimaaGreatDoorRcC
namespace Go.Proofs.YtlccalkikjfimaaGreatDoor
open Go.RowKit
open Go.Shelf
open SP
def smallN (p : List UInt8) : Bool := decide (valFrom 0 (nlDig p) ≤ 4611686018427387904)
def vI (p : List UInt8) : Int := if nlOK p = true ∧ smallN p = true then nlV p else 0
def vS (p : List UInt8) : Bool := nlOK p && smallN p
theorem valV_eq (p : List UInt8) : valV p = .tuple #[.int .i64 (vI p), .bool (nlOK p), .bool (vS p)] := by
  unfold valV vI vS
  have h : nlOK p = (numOK 19 (nlDig p) && !(nlNeg p && decide ((nlDig p).head? = some 48))) := rfl
  cases hk : nlOK p with
  | false => rw [valOf_bad (by rw [← h]; exact hk), if_neg (by simp)]; rfl
  | true =>
    by_cases hb : 4611686018427387904 < valFrom 0 (nlDig p)
    · rw [valOf_big (by rw [← h]; exact hk) hb]
      have : smallN p = false := decide_eq_false (by omega)
      rw [this, if_neg (by simp)]; rfl
    · rw [valOf_ok (by rw [← h]; exact hk) hb]
      have : smallN p = true := decide_eq_true (by omega)
      simp only [this, and_self, if_true, Bool.and_true]; rfl
theorem small_of_ok {p : List UInt8} (h : -4611686018427387904 ≤ nlV p ∧ nlV p ≤ 4611686018427387904) : smallN p = true := by
  refine decide_eq_true ?_
  unfold nlV at h
  split at h <;> omega
theorem vS_of {p : List UInt8} (h : vS p = true) : vI p = nlV p := by
  unfold vS at h
  rw [Bool.and_eq_true] at h
  unfold vI
  rw [if_pos h]
/-- The words' numbers, the second word left out: how far they have been read. -/
def formUp (L : List (List UInt8)) (i : Nat) : Bool := (List.range i).all fun j => j == 1 || nlOK (L.getD j [])
def fitUp (L : List (List UInt8)) (i : Nat) : Bool := (List.range i).all fun j => j == 1 || vS (L.getD j [])
def cellU (L : List (List UInt8)) (i j : Nat) : Value := if j < i ∧ j ≠ 1 then .int .i64 (vI (L.getD j [])) else .int .i64 0
def cellsU (L : List (List UInt8)) (i : Nat) : List Value := [cellU L i 0, cellU L i 1, cellU L i 2, cellU L i 3, cellU L i 4, cellU L i 5]
theorem formUp_next {L : List (List UInt8)} {i : Nat} {p : List UInt8} (hp : L[i]? = some p) (h1 : i ≠ 1) : formUp L (i + 1) = (formUp L i && nlOK p) := by
  unfold formUp
  rw [List.range_succ, List.all_append]
  have e : (i == 1) = false := beq_eq_false_iff_ne.2 h1
  simp [List.getD_eq_getElem?_getD, hp, e]
theorem fitUp_next {L : List (List UInt8)} {i : Nat} {p : List UInt8} (hp : L[i]? = some p) (h1 : i ≠ 1) : fitUp L (i + 1) = (fitUp L i && vS p) := by
  unfold fitUp
  rw [List.range_succ, List.all_append]
  have e : (i == 1) = false := beq_eq_false_iff_ne.2 h1
  simp [List.getD_eq_getElem?_getD, hp, e]
theorem formUp_one {L : List (List UInt8)} : formUp L 2 = formUp L 1 := by unfold formUp; rw [List.range_succ (n := 1), List.all_append]; simp
theorem fitUp_one {L : List (List UInt8)} : fitUp L 2 = fitUp L 1 := by unfold fitUp; rw [List.range_succ (n := 1), List.all_append]; simp
theorem cellsU_next {L : List (List UInt8)} {i : Nat} {p : List UInt8} (hi : i < 6) (hp : L[i]? = some p) (h1 : i ≠ 1) : (cellsU L i).set i (.int .i64 (vI p)) = cellsU L (i + 1) := by
  have e : L.getD i [] = p := by rw [List.getD_eq_getElem?_getD, hp]; rfl
  match i, hi, h1 with
  | 0, _, _ => simp [cellsU, cellU, ← e]
  | 2, _, _ => simp [cellsU, cellU, ← e]
  | 3, _, _ => simp [cellsU, cellU, ← e]
  | 4, _, _ => simp [cellsU, cellU, ← e]
  | 5, _, _ => simp [cellsU, cellU, ← e]
theorem cellsU_one {L : List (List UInt8)} : cellsU L 2 = cellsU L 1 := by simp [cellsU, cellU]
theorem cellsU_at {L : List (List UInt8)} {i : Nat} (hi : i < 6) : (cellsU L i)[i]? = some (.int .i64 0) := by
  match i, hi with
  | 0, _ => simp [cellsU, cellU]
  | 1, _ => simp [cellsU, cellU]
  | 2, _ => simp [cellsU, cellU]
  | 3, _ => simp [cellsU, cellU]
  | 4, _ => simp [cellsU, cellU]
  | 5, _ => simp [cellsU, cellU]
theorem cellsU_end (a k b c d e : List UInt8) : cellsU [a, k, b, c, d, e] 6 = [.int .i64 (vI a), .int .i64 0, .int .i64 (vI b), .int .i64 (vI c), .int .i64 (vI d), .int .i64 (vI e)] := by simp [cellsU, cellU]
theorem formUp_end (a k b c d e : List UInt8) : formUp [a, k, b, c, d, e] 6 = (nlOK a && (nlOK b && (nlOK c && (nlOK d && nlOK e)))) := by
  show ((0 == 1 || nlOK a) && ((1 == 1 || nlOK k) && ((2 == 1 || nlOK b) && ((3 == 1 || nlOK c) && ((4 == 1 || nlOK d) && ((5 == 1 || nlOK e) && true)))))) = _
  simp
theorem fitUp_end (a k b c d e : List UInt8) : fitUp [a, k, b, c, d, e] 6 = (vS a && (vS b && (vS c && (vS d && vS e)))) := by
  show ((0 == 1 || vS a) && ((1 == 1 || vS k) && ((2 == 1 || vS b) && ((3 == 1 || vS c) && ((4 == 1 || vS d) && ((5 == 1 || vS e) && true)))))) = _
  simp
theorem fitUp_ok {a k b c d e : List UInt8} (hf : formOK a k b c d e = true) (h : RecOk (recOf a k b c d e)) : fitUp [a, k, b, c, d, e] 6 = true := by
  rw [fitUp_end]
  unfold formOK at hf
  simp only [Bool.and_eq_true, decide_eq_true_eq] at hf
  obtain ⟨_, f1, f2, f3, f4, f5⟩ := hf
  have h1 := h.slot
  have h2 := h.flow
  have h3 := h.packet
  have h4 := h.why
  have h5 := h.value
  have e1 : (recOf a k b c d e).slot = nlV a := rfl
  have e2 : (recOf a k b c d e).flow = nlV b := rfl
  have e3 : (recOf a k b c d e).packet = nlV c := rfl
  have e4 : (recOf a k b c d e).why = nlV d := rfl
  have e5 : (recOf a k b c d e).value = nlV e := rfl
  unfold vS
  rw [f1, f2, f3, f4, f5, small_of_ok (p := a) (by omega), small_of_ok (p := b) (by omega), small_of_ok (p := c) (by omega), small_of_ok (p := d) (by omega), small_of_ok (p := e) (by omega)]
  rfl
/-- The kind among those tried so far. -/
def kUp (x : List UInt8) (k : Nat) : Int := if kindOf x ≠ 0 ∧ kindOf x < k then (kindOf x : Int) else 0
theorem kind_eq {x : List UInt8} {k : Nat} (h1 : 1 ≤ k) (h2 : k ≤ 10) : x = wordOf (k : Int) ↔ kindOf x = k := by
  constructor
  · rintro rfl
    have := (kind_word (k := (k : Int)) (by omega) (by omega)).1
    omega
  · intro h
    have := (word_kind (x := x) (by omega)).1
    rw [h] at this
    exact this.symm
theorem kUp_hit {x : List UInt8} {k : Nat} (h1 : 1 ≤ k) (h2 : k ≤ 10) (h : x = wordOf (k : Int)) : kUp x (k + 1) = (k : Int) := by
  rw [kind_eq h1 h2] at h
  unfold kUp
  rw [if_pos (by omega), h]
theorem kUp_miss {x : List UInt8} {k : Nat} (h1 : 1 ≤ k) (h2 : k ≤ 10) (h : ¬ x = wordOf (k : Int)) : kUp x (k + 1) = kUp x k := by
  rw [kind_eq h1 h2] at h
  unfold kUp
  by_cases h3 : kindOf x ≠ 0 ∧ kindOf x < k
  · rw [if_pos h3, if_pos (by omega)]
  · rw [if_neg h3, if_neg (by omega)]
theorem kindOf_le (x : List UInt8) : kindOf x ≤ 10 := by
  by_cases h : kindOf x = 0
  · omega
  · exact (word_kind h).2
theorem kUp_end (x : List UInt8) : kUp x 11 = (kindOf x : Int) := by
  have := kindOf_le x
  unfold kUp
  by_cases h : kindOf x = 0
  · rw [if_neg (by omega), h]; rfl
  · rw [if_pos (by omega)]
section
variable {W w w' : World} {R : List SP}
theorem strs_cell {T : TypeId} {g n c : Nat} {L : List (List UInt8)} (o : Own w (slc T 1 (some ⟨g, 0, none⟩) n c (strs L) :: R)) {j : Nat} {x : List UInt8} (h : L[j]? = some x) : w.cell? ⟨g, j, none⟩ = some (.string (mkB x)) := by
  have hl := (o.slc_len).1
  have hj := (List.getElem?_eq_some_iff.1 h).1
  rw [strs_length] at hl
  obtain ⟨g', hg, hc, _⟩ := o.slc_cell (by omega)
  cases hg
  exact hc j _ (strs_get h)
theorem recParse_spec (s : ByteArray) (hs : s.size ≤ 1000000) (hm : MaxV W) (he : ErrW W) (hT : TabsR W) (o : Own w (old W :: R)) : Calls Tryz.prog 26 #[.string s] w (Ret (prL (parseL s.data.toList)) (old W :: R) w) := by
  by_cases hl : (spl 32 s.data.toList).length = 6
  · obtain ⟨a, k, b, c, d, e, hL⟩ := six_of hl
    by_cases h0 : kindOf k = 0
    · exact recParse_word s hs hm hT o a k b c d e hL h0
    · exact recParse_main s hs hm he hT o a k b c d e hL h0
  · exact recParse_short s hs hm o hl
theorem parts6_spec {s : ByteArray} {a k b c d e : List UInt8} (hL : spl 32 s.data.toList = [a, k, b, c, d, e]) (hs : s.size < 4294967281) (o : Own w R) :
    Calls Tryz.prog 39 #[.string s] w fun e' w' => ∃ g cp, e' = .returned (.slice (some ⟨g, 0, none⟩) 6 cp) ∧ Own w' (slc 9 1 (some ⟨g, 0, none⟩) 6 cp (strs [a, k, b, c, d, e]) :: R) ∧ Calm w w' := by
  have hS := refParts_spec s hs o
  rw [hL] at hS
  refine hS.mono ?_
  rintro e1 w1 ⟨ad, cp, rfl, o2, k2⟩
  obtain ⟨g, rfl, _⟩ := o2.slc_cell (by simp)
  exact ⟨g, cp, rfl, o2, k2⟩
set_option maxHeartbeats 6400000 in
set_option maxRecDepth 100000 in
theorem refParse_short (s : ByteArray) (hs : s.size ≤ 1000000) (o : Own w R) (h6 : (spl 32 s.data.toList).length ≠ 6) :
    Calls Tryz.prog 27 #[.string s] w (Ret (prL (parseL s.data.toList)) R w) := by
  have o1 := o.alloc (.cells (recC rec0).toArray 39)
  have hS := refParts_spec s (by omega) o1
  have HV := Lib.hid (parseL_else h6)
  obtain ⟨L, hL⟩ : ∃ L, spl 32 s.data.toList = L := ⟨_, rfl⟩
  rw [hL] at h6 hS
  have hz : (recC rec0).length = 6 := rfl
  clear hL
  have h6' : ((L.length : Int) != 6) = true := by rw [bne_iff_ne]; omega
  go_enter Tryz.func27, Tryz.ntmps27
  go_wp2_with fail
  refine hS.mono ?_
  rintro e1 w1 ⟨a, c, rfl, o2, k2⟩
  have o5 := o2.up 1
  have r0 := Own.cell (T := 39) o5 0
  have r1 := Own.cell (T := 39) o5 1
  have r2 := Own.cell (T := 39) o5 2
  have r3 := Own.cell (T := 39) o5 3
  have r4 := Own.cell (T := 39) o5 4
  have r5 := Own.cell (T := 39) o5 5
  have rf := Own.frozen (T := 39) o5
  have rl := Own.celLt (T := 39) o5
  go_wp2
  have oZ := own_zero6 hz o5
  refine bodyPost_ret (v := prL (rec0, 8)) ?_ rfl ?_
  · refine res_rec (b := w.heap.size) (r := rec0) (e := 8) Tryz.results27 ?_ ?_ oZ rfl
    · rfl
    · rfl
  · exact ⟨by rw [HV.out], oZ.drop.drop, calm_zero6 k2.al⟩
set_option maxHeartbeats 12800000 in
set_option maxRecDepth 100000 in
theorem refParse_main (s : ByteArray) (hs : s.size ≤ 1000000) (o : Own w R) (a k b c d e : List UInt8) (hL : spl 32 s.data.toList = [a, k, b, c, d, e]) :
    Calls Tryz.prog 27 #[.string s] w (Ret (prL (parseL s.data.toList)) R w) := by
  have o1 := o.alloc (.cells (recC rec0).toArray 39)
  have hS := parts6_spec hL (by omega) o1
  have hP := parseL_words hL
  have hl : s.data.toList.length = s.size := (Lib.size_eq s).symm
  have hsz := spl_len 32 s.data.toList
  rw [hL] at hsz
  have HSZ := Lib.hid fun (j : Nat) (p : List UInt8) (h : ([a, k, b, c, d, e] : List (List UInt8))[j]? = some p) => show p.length ≤ 1000000 by
    have := hsz p (List.mem_of_getElem? h)
    omega
  have HP := Lib.hid hP
  have HW := Lib.hid fun (q : Int) (h1 : 1 ≤ q) (h2 : q ≤ 10) (w1 : World) (R1 : List SP) (o1 : Own w1 R1) => word_spec q h1 h2 o1
  have hz : (recC rec0).length = 6 := rfl
  clear hL hP hsz hl
  go_enter Tryz.func27, Tryz.ntmps27
  go_wp2_with fail
  refine hS.mono ?_
  rintro e1 w1 ⟨g, cp, rfl, o2, k2⟩
  clear hS o1
  have kA := k2.al
  generalize w.heap.size = bx at *
  have oA := o2.alloc (.cells #[.int .i64 0, .int .i64 0, .int .i64 0, .int .i64 0, .int .i64 0, .int .i64 0] 39)
  have hT1 : ∃ j : Nat, (Value.int .i64 1 : Value) = .int .i64 (j : Int) ∧ 1 ≤ j ∧ j ≤ 11 ∧ Own (w1.alloc (.cells #[.int .i64 0, .int .i64 0, .int .i64 0, .int .i64 0, .int .i64 0, .int .i64 0] 39)) (cel w1.heap.size 39 [.int .i64 0, .int .i64 (kUp k j), .int .i64 0, .int .i64 0, .int .i64 0, .int .i64 0] :: slc 9 1 (some ⟨g, 0, none⟩) 6 cp (strs [a, k, b, c, d, e]) :: cel bx 39 (recC rec0) :: R) ∧ Calm w (w1.alloc (.cells #[.int .i64 0, .int .i64 0, .int .i64 0, .int .i64 0, .int .i64 0, .int .i64 0] 39)) :=
    ⟨1, rfl, by omega, by omega, by
      have e0 : kUp k 1 = 0 := by unfold kUp; rw [if_neg (by omega)]
      rw [e0]; exact oA, rcalm_alloc kA⟩
  go_wp2_with fail
  generalize w1.heap.size = gr at *
  generalize w1.alloc (.cells #[.int .i64 0, .int .i64 0, .int .i64 0, .int .i64 0, .int .i64 0, .int .i64 0] 39) = w2 at *
  clear oA o2 kA
  have HC := Lib.hid fun (w1 : World) (R1 : List SP) (j : Nat) (p : List UInt8) (hp : ([a, k, b, c, d, e] : List (List UInt8))[j]? = some p) (o1 : Own w1 (slc 9 1 (some ⟨g, 0, none⟩) 6 cp (strs [a, k, b, c, d, e]) :: R1)) => strs_cell o1 hp
  generalize strs [a, k, b, c, d, e] = SL at *
  go_wp2
  go_loopw [6] (fun v wr => ∃ j : Nat, v = .int .i64 (j : Int) ∧ 1 ≤ j ∧ j ≤ 11 ∧ Own wr (cel gr 39 [.int .i64 0, .int .i64 (kUp k j), .int .i64 0, .int .i64 0, .int .i64 0, .int .i64 0] :: slc 9 1 (some ⟨g, 0, none⟩) 6 cp SL :: cel bx 39 (recC rec0) :: R) ∧ Calm w wr) (fun v _ => 11 - viN v)
  case atStart => exact hT1
  case round =>
    clear hT1
    obtain ⟨j, rfl, hj1, hj, oR, kR⟩ := hrel
    by_cases hlt : j ≤ 10
    · have dl : decide (j ≤ 10) = true := decide_eq_true hlt
      have hw := Lib.hid (HW.out (j : Int) (by omega) (by omega))
      have hzz := beqB (mkB k) (mkB (wordOf (j : Int)))
      rw [mkB_data, mkB_data] at hzz
      have HH := Lib.hid fun (h : k = wordOf (j : Int)) => kUp_hit (x := k) hj1 hlt h
      have HM := Lib.hid fun (h : ¬ k = wordOf (j : Int)) => kUp_miss (x := k) hj1 hlt h
      have hc1 := Lib.hid fun (w1 : World) (R1 : List SP) => HC.out w1 R1 1 k rfl
      generalize mkB (wordOf (j : Int)) = WK at *
      generalize mkB k = KB at *
      go_wp2
      by_cases hkw : k = wordOf (j : Int)
      · rw [decide_eq_true hkw] at hzz
        have HK := Lib.hid (HH.out hkw)
        clear HH HM hkw HC HP HW HSZ
        refine wp_region_draws (fun L v wc => Own wc (cel gr 39 [.int .i64 0, .int .i64 (kUp k j), .int .i64 0, .int .i64 0, .int .i64 0, .int .i64 0] :: slc 9 1 (some ⟨g, 0, none⟩) 6 cp SL :: cel bx 39 (recC rec0) :: R) ∧ Calm w wc ∧ OVals (fun i => ([some (.slice (some ⟨g, 0, none⟩) 6 cp), some (.pointer (some ⟨g, 1, none⟩)), some (.string KB), some (.int .i64 (j : Int)), some (.string WK), some (.bool true)] : List (Option Value)).getD i none) L v) (by kernel_rfl) (by kernel_rfl) (by kernel_rfl) ?h0 ?step ?fin
        case h0 => exact ⟨oR.drew, ⟨kR.os, kR.tape, kR.output⟩, OVals.no⟩
        case step =>
          refine ⟨DrawStep.mk rfl ?_, DrawStep.mk rfl ?_, DrawStep.mk rfl ?_, DrawStep.mk rfl ?_, DrawStep.mk rfl ?_, DrawStep.mk rfl ?_, trivial⟩
          all_goals intro L v actZ wc hL hd hA hI K' hK
          all_goals obtain ⟨oD, kD, hv⟩ := hI
          all_goals simp [Region.binds] at hd
          all_goals have HV := Lib.hid hv
          all_goals clear hv
          · have c4_ := hA.base 4 (by rfl)
            simp only [List.getElem?_toArray, List.getElem?_cons_zero, List.getElem?_cons_succ, Option.getD_some] at c4_
            go_simp
            exact hK.out (.slice (some ⟨g, 0, none⟩) 6 cp) _ ⟨oD, kD, HV.out.put 0 (fun _ h => some_eq h)⟩
          · have h0_ : L 0 = true := by simp [hd]
            have c24_ : actZ.tmps[24]?.getD undef = .slice (some ⟨g, 0, none⟩) 6 cp := (hA.get 0 h0_).trans (HV.out 0 _ rfl h0_)
            go_simp
            exact hK.out (.pointer (some ⟨g, 1, none⟩)) _ ⟨oD, kD, HV.out.put 1 (fun _ h => some_eq h)⟩
          · have h1_ : L 1 = true := by simp [hd]
            have c25_ : actZ.tmps[25]?.getD undef = .pointer (some ⟨g, 1, none⟩) := (hA.get 1 h1_).trans (HV.out 1 _ rfl h1_)
            have u_ := hc1.out _ _ (oD.up 1)
            go_simp
            exact hK.out (.string KB) _ ⟨oD, kD, HV.out.put 2 (fun _ h => some_eq h)⟩
          · have c6_ := hA.base 6 (by rfl)
            simp only [List.getElem?_toArray, List.getElem?_cons_zero, List.getElem?_cons_succ, Option.getD_some] at c6_
            go_simp
            exact hK.out (.int .i64 (j : Int)) _ ⟨oD, kD, HV.out.put 3 (fun _ h => some_eq h)⟩
          · have h3_ : L 3 = true := by simp [hd]
            have c27_ : actZ.tmps[27]?.getD undef = .int .i64 (j : Int) := (hA.get 3 h3_).trans (HV.out 3 _ rfl h3_)
            go_simp
            refine (hw.out _ _ oD).mono ?_
            rintro _ w3_ ⟨rfl, o3_, k3_⟩
            exact hK.out (.string WK) _ ⟨o3_, kD.trans k3_, HV.out.put 4 (fun _ h => some_eq h)⟩
          · have h2_ : L 2 = true := by simp [hd]
            have c26_ : actZ.tmps[26]?.getD undef = .string KB := (hA.get 2 h2_).trans (HV.out 2 _ rfl h2_)
            have h4_ : L 4 = true := by simp [hd]
            have c28_ : actZ.tmps[28]?.getD undef = .string WK := (hA.get 4 h4_).trans (HV.out 4 _ rfl h4_)
            go_simp
            try simp only [hzz]
            exact hK.out (.bool true) _ ⟨oD, kD, HV.out.put 5 (fun _ h => some_eq h)⟩
        case fin =>
          rintro L v wc hall ⟨oD, kD, hv⟩
          have h_ := hv 5 _ rfl (hall 5 (by decide))
          clear hv hall
          simp only [putAll, Act.put, List.setIfInBounds_toArray, List.set_cons_zero, List.set_cons_succ, Nat.zero_add, Nat.reduceAdd, h_]
          have n1_ := oD.cell 1
          have nf_ := oD.frozen
          have nl_ := oD.celLt
          go_wp2
          go_roundw
          case rel => exact ⟨j + 1, by go_num, by omega, by omega, by rw [HK.out]; exact oD.setCell 1 (.int .i64 (j : Int)), rcalm_set kD⟩
          case measure => simp [viN]; omega
      · rw [decide_eq_false hkw] at hzz
        have HK := Lib.hid (HM.out hkw)
        clear HH HM hkw HC HP HW HSZ
        refine wp_region_draws (fun L v wc => Own wc (cel gr 39 [.int .i64 0, .int .i64 (kUp k j), .int .i64 0, .int .i64 0, .int .i64 0, .int .i64 0] :: slc 9 1 (some ⟨g, 0, none⟩) 6 cp SL :: cel bx 39 (recC rec0) :: R) ∧ Calm w wc ∧ OVals (fun i => ([some (.slice (some ⟨g, 0, none⟩) 6 cp), some (.pointer (some ⟨g, 1, none⟩)), some (.string KB), some (.int .i64 (j : Int)), some (.string WK), some (.bool false)] : List (Option Value)).getD i none) L v) (by kernel_rfl) (by kernel_rfl) (by kernel_rfl) ?h0 ?step ?fin
        case h0 => exact ⟨oR.drew, ⟨kR.os, kR.tape, kR.output⟩, OVals.no⟩
        case step =>
          refine ⟨DrawStep.mk rfl ?_, DrawStep.mk rfl ?_, DrawStep.mk rfl ?_, DrawStep.mk rfl ?_, DrawStep.mk rfl ?_, DrawStep.mk rfl ?_, trivial⟩
          all_goals intro L v actZ wc hL hd hA hI K' hK
          all_goals obtain ⟨oD, kD, hv⟩ := hI
          all_goals simp [Region.binds] at hd
          all_goals have HV := Lib.hid hv
          all_goals clear hv
          · have c4_ := hA.base 4 (by rfl)
            simp only [List.getElem?_toArray, List.getElem?_cons_zero, List.getElem?_cons_succ, Option.getD_some] at c4_
            go_simp
            exact hK.out (.slice (some ⟨g, 0, none⟩) 6 cp) _ ⟨oD, kD, HV.out.put 0 (fun _ h => some_eq h)⟩
          · have h0_ : L 0 = true := by simp [hd]
            have c24_ : actZ.tmps[24]?.getD undef = .slice (some ⟨g, 0, none⟩) 6 cp := (hA.get 0 h0_).trans (HV.out 0 _ rfl h0_)
            go_simp
            exact hK.out (.pointer (some ⟨g, 1, none⟩)) _ ⟨oD, kD, HV.out.put 1 (fun _ h => some_eq h)⟩
          · have h1_ : L 1 = true := by simp [hd]
            have c25_ : actZ.tmps[25]?.getD undef = .pointer (some ⟨g, 1, none⟩) := (hA.get 1 h1_).trans (HV.out 1 _ rfl h1_)
            have u_ := hc1.out _ _ (oD.up 1)
            go_simp
            exact hK.out (.string KB) _ ⟨oD, kD, HV.out.put 2 (fun _ h => some_eq h)⟩
          · have c6_ := hA.base 6 (by rfl)
            simp only [List.getElem?_toArray, List.getElem?_cons_zero, List.getElem?_cons_succ, Option.getD_some] at c6_
            go_simp
            exact hK.out (.int .i64 (j : Int)) _ ⟨oD, kD, HV.out.put 3 (fun _ h => some_eq h)⟩
          · have h3_ : L 3 = true := by simp [hd]
            have c27_ : actZ.tmps[27]?.getD undef = .int .i64 (j : Int) := (hA.get 3 h3_).trans (HV.out 3 _ rfl h3_)
            go_simp
            refine (hw.out _ _ oD).mono ?_
            rintro _ w3_ ⟨rfl, o3_, k3_⟩
            exact hK.out (.string WK) _ ⟨o3_, kD.trans k3_, HV.out.put 4 (fun _ h => some_eq h)⟩
          · have h2_ : L 2 = true := by simp [hd]
            have c26_ : actZ.tmps[26]?.getD undef = .string KB := (hA.get 2 h2_).trans (HV.out 2 _ rfl h2_)
            have h4_ : L 4 = true := by simp [hd]
            have c28_ : actZ.tmps[28]?.getD undef = .string WK := (hA.get 4 h4_).trans (HV.out 4 _ rfl h4_)
            go_simp
            try simp only [hzz]
            exact hK.out (.bool false) _ ⟨oD, kD, HV.out.put 5 (fun _ h => some_eq h)⟩
        case fin =>
          rintro L v wc hall ⟨oD, kD, hv⟩
          have h_ := hv 5 _ rfl (hall 5 (by decide))
          clear hv hall
          simp only [putAll, Act.put, List.setIfInBounds_toArray, List.set_cons_zero, List.set_cons_succ, Nat.zero_add, Nat.reduceAdd, h_]
          go_wp2
          go_roundw
          case rel => exact ⟨j + 1, by go_num, by omega, by omega, by rw [HK.out]; exact oD, kD⟩
          case measure => simp [viN]; omega
    · have hj11 : j = 11 := by omega
      have dl : decide (j ≤ 10) = false := decide_eq_false hlt
      rw [hj11, kUp_end] at oR
      clear hj11
      have hP := HP.out
      have hkp : formOK a k b c d e = (decide (0 < kindOf k) && formUp [a, k, b, c, d, e] 6) := by
        rw [formUp_end]; unfold formOK
        congr 1
        exact decide_eq_decide.2 (by omega)
      rw [hkp] at hP
      have hFO := fun (h : (decide (0 < kindOf k) && formUp [a, k, b, c, d, e] 6) = true) => fitUp_ok (a := a) (k := k) (b := b) (c := c) (d := d) (e := e) (by rw [hkp]; exact h)
      have hV1 := Lib.hid fun (h : fitUp [a, k, b, c, d, e] 6 = true) => (show recOf a k b c d e = ⟨vI a, (kindOf k : Nat), vI b, vI c, vI d, vI e⟩ by
        rw [fitUp_end] at h
        simp only [Bool.and_eq_true] at h
        rw [vS_of h.1, vS_of h.2.1, vS_of h.2.2.1, vS_of h.2.2.2.1, vS_of h.2.2.2.2]; rfl)
      have hce := Lib.hid (cellsU_end a k b c d e)
      have HFO := Lib.hid hFO
      have HPP := Lib.hid hP
      clear HP hkp hFO hP HW
      generalize recOf a k b c d e = ro at *
      have c1_ := oR.cell 1
      generalize kindOf k = K at *
      generalize hkp : decide (0 < K) = kp at *
      have oA := oR.alloc (.cells #[.int .i64 0, .int .i64 0, .int .i64 0, .int .i64 0, .int .i64 0, .int .i64 0] 74)
      have kA := rcalm_alloc (x := .cells #[.int .i64 0, .int .i64 0, .int .i64 0, .int .i64 0, .int .i64 0, .int .i64 0] 74) kR
      go_wp2_with fail
      generalize wr.heap.size = gN at *
      generalize wr.alloc (.cells #[.int .i64 0, .int .i64 0, .int .i64 0, .int .i64 0, .int .i64 0, .int .i64 0] 74) = w3 at *
      clear c1_ oR kR
      have hT2 : ∃ i : Nat, (Value.int .i64 0 : Value) = .int .i64 (i : Int) ∧ i ≤ 6 ∧ (Value.bool kp : Value) = .bool (kp && formUp [a, k, b, c, d, e] i) ∧ (Value.bool true : Value) = .bool (fitUp [a, k, b, c, d, e] i) ∧
          Own w3 (cel gN 74 (cellsU [a, k, b, c, d, e] i) :: cel gr 39 [.int .i64 0, .int .i64 (K : Int), .int .i64 0, .int .i64 0, .int .i64 0, .int .i64 0] :: slc 9 1 (some ⟨g, 0, none⟩) 6 cp SL :: cel bx 39 (recC rec0) :: R) ∧ Calm w w3 :=
        ⟨0, rfl, by omega, by cases kp <;> rfl, rfl, oA, kA⟩
      clear oA kA hkp
      generalize hLL : ([a, k, b, c, d, e] : List (List UInt8)) = LL at *
      have hlen : LL.length = 6 := by rw [← hLL]; rfl
      clear hLL
      go_wp2
      go_loopw [10, 7, 8] (fun v10 v7 v8 wr => ∃ i : Nat, v10 = .int .i64 (i : Int) ∧ i ≤ 6 ∧ v7 = .bool (kp && formUp LL i) ∧ v8 = .bool (fitUp LL i) ∧
          Own wr (cel gN 74 (cellsU LL i) :: cel gr 39 [.int .i64 0, .int .i64 (K : Int), .int .i64 0, .int .i64 0, .int .i64 0, .int .i64 0] :: slc 9 1 (some ⟨g, 0, none⟩) 6 cp SL :: cel bx 39 (recC rec0) :: R) ∧ Calm w wr) (fun v _ _ _ => 6 - viN v)
      case atStart => exact hT2
      case round =>
        clear hT2
        obtain ⟨i, rfl, hi, rfl, rfl, oR, kR⟩ := hrel
        by_cases hlt : i < 6
        · have dl : decide (i < 6) = true := decide_eq_true hlt
          by_cases hi1 : i = 1
          · subst hi1
            have e1 := Lib.hid (formUp_one (L := LL))
            have e2 := Lib.hid (fitUp_one (L := LL))
            have e3 := Lib.hid (cellsU_one (L := LL))
            go_wp2
            go_roundw
            case rel => exact ⟨2, by go_num, by omega, by rw [e1.out], by rw [e2.out], by rw [e3.out]; exact oR, kR⟩
            case measure => simp [viN]
          · have d1 : ((i : Int) != 1) = true := bne_iff_ne.2 (by omega)
            obtain ⟨p, hp⟩ : ∃ p, LL[i]? = some p := ⟨_, List.getElem?_eq_getElem (by omega)⟩
            have s1 := HC.out _ _ i p hp (oR.up 2)
            have hval := value_spec (w := wr) (mkB p) (by rw [mkB_size]; exact HSZ.out i p hp)
            rw [mkB_data, valV_eq] at hval
            have e1 := Lib.hid (formUp_next hp hi1)
            have e2 := Lib.hid (fitUp_next hp hi1)
            have e3 := Lib.hid (cellsU_next hlt hp hi1)
            have n1_ := oR.cell i (cellsU_at hlt)
            have nf_ := oR.frozen
            have nl_ := oR.celLt
            have hslt := (oR.up 2).slc_len
            clear hp
            generalize vI p = vx at *
            generalize nlOK p = np at *
            generalize vS p = vs at *
            generalize mkB p = PB at *
            generalize formUp LL i = fu at *
            generalize fitUp LL i = ft at *
            obtain ⟨kf, hkf⟩ : ∃ kf, (kp && fu) = kf := ⟨_, rfl⟩
            rw [hkf]
            have HKF := Lib.hid hkf
            clear hkf
            go_wp2_with fail
            refine hval.mono ?_
            rintro e5 w5 ⟨rfl, rfl⟩
            cases kf <;> cases ft
            all_goals
              go_wp2
              go_roundw
              case rel => exact ⟨i + 1, by go_num, by omega, by rw [e1.out, ← Bool.and_assoc, HKF.out]; rfl, by rw [e2.out]; rfl, by rw [← e3.out]; exact oR.setCell i (.int .i64 vx), rcalm_set kR⟩
              case measure => simp [viN]; omega
        · have hi6 : i = 6 := by omega
          subst hi6
          rw [hce.out] at oR
          obtain ⟨kf, hkf⟩ : ∃ kf, (kp && formUp LL 6) = kf := ⟨_, rfl⟩
          have hPP := HPP.out
          have hFO := HFO.out
          have hV1 := hV1.out
          rw [hkf] at hPP hFO ⊢
          clear hkf HPP HFO hce HC HSZ
          generalize fitUp LL 6 = ft at *
          cases kf with
          | false =>
            have HV := Lib.hid (hPP.trans (if_neg Bool.false_ne_true))
            clear hPP hFO hV1
            have o5 := (oR.up 3)
            have r0 := Own.cell (T := 39) o5 0
            have r1 := Own.cell (T := 39) o5 1
            have r2 := Own.cell (T := 39) o5 2
            have r3 := Own.cell (T := 39) o5 3
            have r4 := Own.cell (T := 39) o5 4
            have r5 := Own.cell (T := 39) o5 5
            have rf := Own.frozen (T := 39) o5
            have rl := Own.celLt (T := 39) o5
            go_wp2
            have oZ := own_zero6 hz o5
            refine bodyPost_ret (v := prL (rec0, 8)) ?_ rfl ?_
            · refine res_rec (b := bx) (r := rec0) (e := 8) Tryz.results27 ?_ ?_ oZ rfl
              · rfl
              · rfl
            · exact ⟨by rw [HV.out], oZ.drop.drop.drop.drop, calm_zero6 kR⟩
          | true =>
            have hPT := hPP.trans (if_pos rfl)
            clear hPP
            generalize vI a = va at *
            generalize vI b = vb at *
            generalize vI c = vc at *
            generalize vI d = vd at *
            generalize vI e = ve at *
            have hRO := Lib.hid fun (h : ft = true) => (show ro = ⟨va, (K : Int), vb, vc, vd, ve⟩ from hV1 h)
            have HPT := Lib.hid hPT
            have HFO := Lib.hid hFO
            clear hV1 hPT hFO
            go_wp2
            refine wp_region_draws (fun L v wc => Own wc (cel gN 74 [.int .i64 va, .int .i64 0, .int .i64 vb, .int .i64 vc, .int .i64 vd, .int .i64 ve] :: cel gr 39 [cond (L 11) (.int .i64 va) (.int .i64 0), .int .i64 (K : Int), cond (L 13) (.int .i64 vb) (.int .i64 0), cond (L 15) (.int .i64 vc) (.int .i64 0), cond (L 17) (.int .i64 vd) (.int .i64 0), cond (L 19) (.int .i64 ve) (.int .i64 0)] :: slc 9 1 (some ⟨g, 0, none⟩) 6 cp SL :: cel bx 39 (recC rec0) :: R) ∧ Calm w wc ∧ OVals (fun i => ([some (.pointer (some ⟨gN, 0, none⟩)), some (.int .i64 va), some (.pointer (some ⟨gN, 2, none⟩)), some (.int .i64 vb), some (.pointer (some ⟨gN, 3, none⟩)), some (.int .i64 vc), some (.pointer (some ⟨gN, 4, none⟩)), some (.int .i64 vd), some (.pointer (some ⟨gN, 5, none⟩)), some (.int .i64 ve), some (.pointer (some ⟨gr, 0, none⟩)), none, some (.pointer (some ⟨gr, 2, none⟩)), none, some (.pointer (some ⟨gr, 3, none⟩)), none, some (.pointer (some ⟨gr, 4, none⟩)), none, some (.pointer (some ⟨gr, 5, none⟩)), none] : List (Option Value)).getD i none) L v) (by kernel_rfl) (by kernel_rfl) (by kernel_rfl) ?h0 ?step ?fin
            case h0 => exact ⟨oR.drew, ⟨kR.os, kR.tape, kR.output⟩, OVals.no⟩
            case step =>
              refine ⟨DrawStep.mk rfl ?_, DrawStep.mk rfl ?_, DrawStep.mk rfl ?_, DrawStep.mk rfl ?_, DrawStep.mk rfl ?_, DrawStep.mk rfl ?_, DrawStep.mk rfl ?_, DrawStep.mk rfl ?_, DrawStep.mk rfl ?_, DrawStep.mk rfl ?_, DrawStep.mk rfl ?_, DrawStep.mk rfl ?_, DrawStep.mk rfl ?_, DrawStep.mk rfl ?_, DrawStep.mk rfl ?_, DrawStep.mk rfl ?_, DrawStep.mk rfl ?_, DrawStep.mk rfl ?_, DrawStep.mk rfl ?_, DrawStep.mk rfl ?_, trivial⟩
              all_goals intro L v actZ wc hL hd hA hI K' hK
              all_goals obtain ⟨oD, kD, hv⟩ := hI
              all_goals simp [Region.binds] at hd
              all_goals have HV := Lib.hid hv
              all_goals clear hv
              · have c9_ := hA.base 9 (by rfl)
                simp only [List.getElem?_toArray, List.getElem?_cons_zero, List.getElem?_cons_succ, Option.getD_some] at c9_
                go_simp
                exact hK.out (.pointer (some ⟨gN, 0, none⟩)) _ ⟨oD, kD, HV.out.put 0 (fun _ h => some_eq h)⟩
              · have h0_ : L 0 = true := by simp [hd]
                have c64_ : actZ.tmps[64]?.getD undef = .pointer (some ⟨gN, 0, none⟩) := (hA.get 0 h0_).trans (HV.out 0 _ rfl h0_)
                have u0_ := (oD.up 0).cell 0
                have u1_ := (oD.up 0).cell 1
                have u2_ := (oD.up 0).cell 2
                have u3_ := (oD.up 0).cell 3
                have u4_ := (oD.up 0).cell 4
                have u5_ := (oD.up 0).cell 5
                go_simp
                exact hK.out (.int .i64 va) _ ⟨oD, kD, HV.out.put 1 (fun _ h => some_eq h)⟩
              · have c9_ := hA.base 9 (by rfl)
                simp only [List.getElem?_toArray, List.getElem?_cons_zero, List.getElem?_cons_succ, Option.getD_some] at c9_
                go_simp
                exact hK.out (.pointer (some ⟨gN, 2, none⟩)) _ ⟨oD, kD, HV.out.put 2 (fun _ h => some_eq h)⟩
              · have h2_ : L 2 = true := by simp [hd]
                have c66_ : actZ.tmps[66]?.getD undef = .pointer (some ⟨gN, 2, none⟩) := (hA.get 2 h2_).trans (HV.out 2 _ rfl h2_)
                have u0_ := (oD.up 0).cell 0
                have u1_ := (oD.up 0).cell 1
                have u2_ := (oD.up 0).cell 2
                have u3_ := (oD.up 0).cell 3
                have u4_ := (oD.up 0).cell 4
                have u5_ := (oD.up 0).cell 5
                go_simp
                exact hK.out (.int .i64 vb) _ ⟨oD, kD, HV.out.put 3 (fun _ h => some_eq h)⟩
              · have c9_ := hA.base 9 (by rfl)
                simp only [List.getElem?_toArray, List.getElem?_cons_zero, List.getElem?_cons_succ, Option.getD_some] at c9_
                go_simp
                exact hK.out (.pointer (some ⟨gN, 3, none⟩)) _ ⟨oD, kD, HV.out.put 4 (fun _ h => some_eq h)⟩
              · have h4_ : L 4 = true := by simp [hd]
                have c68_ : actZ.tmps[68]?.getD undef = .pointer (some ⟨gN, 3, none⟩) := (hA.get 4 h4_).trans (HV.out 4 _ rfl h4_)
                have u0_ := (oD.up 0).cell 0
                have u1_ := (oD.up 0).cell 1
                have u2_ := (oD.up 0).cell 2
                have u3_ := (oD.up 0).cell 3
                have u4_ := (oD.up 0).cell 4
                have u5_ := (oD.up 0).cell 5
                go_simp
                exact hK.out (.int .i64 vc) _ ⟨oD, kD, HV.out.put 5 (fun _ h => some_eq h)⟩
              · have c9_ := hA.base 9 (by rfl)
                simp only [List.getElem?_toArray, List.getElem?_cons_zero, List.getElem?_cons_succ, Option.getD_some] at c9_
                go_simp
                exact hK.out (.pointer (some ⟨gN, 4, none⟩)) _ ⟨oD, kD, HV.out.put 6 (fun _ h => some_eq h)⟩
              · have h6_ : L 6 = true := by simp [hd]
                have c70_ : actZ.tmps[70]?.getD undef = .pointer (some ⟨gN, 4, none⟩) := (hA.get 6 h6_).trans (HV.out 6 _ rfl h6_)
                have u0_ := (oD.up 0).cell 0
                have u1_ := (oD.up 0).cell 1
                have u2_ := (oD.up 0).cell 2
                have u3_ := (oD.up 0).cell 3
                have u4_ := (oD.up 0).cell 4
                have u5_ := (oD.up 0).cell 5
                go_simp
                exact hK.out (.int .i64 vd) _ ⟨oD, kD, HV.out.put 7 (fun _ h => some_eq h)⟩
              · have c9_ := hA.base 9 (by rfl)
                simp only [List.getElem?_toArray, List.getElem?_cons_zero, List.getElem?_cons_succ, Option.getD_some] at c9_
                go_simp
                exact hK.out (.pointer (some ⟨gN, 5, none⟩)) _ ⟨oD, kD, HV.out.put 8 (fun _ h => some_eq h)⟩
              · have h8_ : L 8 = true := by simp [hd]
                have c72_ : actZ.tmps[72]?.getD undef = .pointer (some ⟨gN, 5, none⟩) := (hA.get 8 h8_).trans (HV.out 8 _ rfl h8_)
                have u0_ := (oD.up 0).cell 0
                have u1_ := (oD.up 0).cell 1
                have u2_ := (oD.up 0).cell 2
                have u3_ := (oD.up 0).cell 3
                have u4_ := (oD.up 0).cell 4
                have u5_ := (oD.up 0).cell 5
                go_simp
                exact hK.out (.int .i64 ve) _ ⟨oD, kD, HV.out.put 9 (fun _ h => some_eq h)⟩
              · have c5_ := hA.base 5 (by rfl)
                simp only [List.getElem?_toArray, List.getElem?_cons_zero, List.getElem?_cons_succ, Option.getD_some] at c5_
                go_simp
                exact hK.out (.pointer (some ⟨gr, 0, none⟩)) _ ⟨oD, kD, HV.out.put 10 (fun _ h => some_eq h)⟩
              · have h1_ : L 1 = true := by simp [hd]
                have c65_ : actZ.tmps[65]?.getD undef = .int .i64 va := (hA.get 1 h1_).trans (HV.out 1 _ rfl h1_)
                have h10_ : L 10 = true := by simp [hd]
                have c74_ : actZ.tmps[74]?.getD undef = .pointer (some ⟨gr, 0, none⟩) := (hA.get 10 h10_).trans (HV.out 10 _ rfl h10_)
                have n_ := (oD.up 1).cell 0
                have nf_ := (oD.up 1).frozen
                have nl_ := (oD.up 1).celLt
                go_simp
                exact hK.out undef _ ⟨((oD.up 1).setCell 0 (.int .i64 va)).swap, rcalm_set kD, HV.out.put 11 (fun _ h => by cases h)⟩
              · have c5_ := hA.base 5 (by rfl)
                simp only [List.getElem?_toArray, List.getElem?_cons_zero, List.getElem?_cons_succ, Option.getD_some] at c5_
                go_simp
                exact hK.out (.pointer (some ⟨gr, 2, none⟩)) _ ⟨oD, kD, HV.out.put 12 (fun _ h => some_eq h)⟩
              · have h3_ : L 3 = true := by simp [hd]
                have c67_ : actZ.tmps[67]?.getD undef = .int .i64 vb := (hA.get 3 h3_).trans (HV.out 3 _ rfl h3_)
                have h12_ : L 12 = true := by simp [hd]
                have c75_ : actZ.tmps[75]?.getD undef = .pointer (some ⟨gr, 2, none⟩) := (hA.get 12 h12_).trans (HV.out 12 _ rfl h12_)
                have n_ := (oD.up 1).cell 2
                have nf_ := (oD.up 1).frozen
                have nl_ := (oD.up 1).celLt
                go_simp
                exact hK.out undef _ ⟨((oD.up 1).setCell 2 (.int .i64 vb)).swap, rcalm_set kD, HV.out.put 13 (fun _ h => by cases h)⟩
              · have c5_ := hA.base 5 (by rfl)
                simp only [List.getElem?_toArray, List.getElem?_cons_zero, List.getElem?_cons_succ, Option.getD_some] at c5_
                go_simp
                exact hK.out (.pointer (some ⟨gr, 3, none⟩)) _ ⟨oD, kD, HV.out.put 14 (fun _ h => some_eq h)⟩
              · have h5_ : L 5 = true := by simp [hd]
                have c69_ : actZ.tmps[69]?.getD undef = .int .i64 vc := (hA.get 5 h5_).trans (HV.out 5 _ rfl h5_)
                have h14_ : L 14 = true := by simp [hd]
                have c76_ : actZ.tmps[76]?.getD undef = .pointer (some ⟨gr, 3, none⟩) := (hA.get 14 h14_).trans (HV.out 14 _ rfl h14_)
                have n_ := (oD.up 1).cell 3
                have nf_ := (oD.up 1).frozen
                have nl_ := (oD.up 1).celLt
                go_simp
                exact hK.out undef _ ⟨((oD.up 1).setCell 3 (.int .i64 vc)).swap, rcalm_set kD, HV.out.put 15 (fun _ h => by cases h)⟩
              · have c5_ := hA.base 5 (by rfl)
                simp only [List.getElem?_toArray, List.getElem?_cons_zero, List.getElem?_cons_succ, Option.getD_some] at c5_
                go_simp
                exact hK.out (.pointer (some ⟨gr, 4, none⟩)) _ ⟨oD, kD, HV.out.put 16 (fun _ h => some_eq h)⟩
              · have h7_ : L 7 = true := by simp [hd]
                have c71_ : actZ.tmps[71]?.getD undef = .int .i64 vd := (hA.get 7 h7_).trans (HV.out 7 _ rfl h7_)
                have h16_ : L 16 = true := by simp [hd]
                have c77_ : actZ.tmps[77]?.getD undef = .pointer (some ⟨gr, 4, none⟩) := (hA.get 16 h16_).trans (HV.out 16 _ rfl h16_)
                have n_ := (oD.up 1).cell 4
                have nf_ := (oD.up 1).frozen
                have nl_ := (oD.up 1).celLt
                go_simp
                exact hK.out undef _ ⟨((oD.up 1).setCell 4 (.int .i64 vd)).swap, rcalm_set kD, HV.out.put 17 (fun _ h => by cases h)⟩
              · have c5_ := hA.base 5 (by rfl)
                simp only [List.getElem?_toArray, List.getElem?_cons_zero, List.getElem?_cons_succ, Option.getD_some] at c5_
                go_simp
                exact hK.out (.pointer (some ⟨gr, 5, none⟩)) _ ⟨oD, kD, HV.out.put 18 (fun _ h => some_eq h)⟩
              · have h9_ : L 9 = true := by simp [hd]
                have c73_ : actZ.tmps[73]?.getD undef = .int .i64 ve := (hA.get 9 h9_).trans (HV.out 9 _ rfl h9_)
                have h18_ : L 18 = true := by simp [hd]
                have c78_ : actZ.tmps[78]?.getD undef = .pointer (some ⟨gr, 5, none⟩) := (hA.get 18 h18_).trans (HV.out 18 _ rfl h18_)
                have n_ := (oD.up 1).cell 5
                have nf_ := (oD.up 1).frozen
                have nl_ := (oD.up 1).celLt
                go_simp
                exact hK.out undef _ ⟨((oD.up 1).setCell 5 (.int .i64 ve)).swap, rcalm_set kD, HV.out.put 19 (fun _ h => by cases h)⟩
            case fin =>
              rintro L v wc hall ⟨oD, kD, hv⟩
              rw [hall 11 (by decide), hall 13 (by decide), hall 15 (by decide), hall 17 (by decide), hall 19 (by decide)] at oD
              simp only [cond_true] at oD
              clear hv hall oR kR
              simp only [putAll, Act.put, List.setIfInBounds_toArray, List.set_cons_zero, List.set_cons_succ]
              cases ft with
              | false =>
                have hno : ¬ RecOk ro := fun h => by have h1 := HFO.out (by first | rfl | trivial) h; cases h1
                have HV := Lib.hid (HPT.out.trans (if_neg hno))
                clear HFO HPT hno hRO
                have o5 := (oD.up 3)
                have r0 := Own.cell (T := 39) o5 0
                have r1 := Own.cell (T := 39) o5 1
                have r2 := Own.cell (T := 39) o5 2
                have r3 := Own.cell (T := 39) o5 3
                have r4 := Own.cell (T := 39) o5 4
                have r5 := Own.cell (T := 39) o5 5
                have rf := Own.frozen (T := 39) o5
                have rl := Own.celLt (T := 39) o5
                go_wp2
                have oZ := own_zero6 hz o5
                refine bodyPost_ret (v := prL (rec0, 1)) ?_ rfl ?_
                · refine res_rec (b := bx) (r := rec0) (e := 1) Tryz.results27 ?_ ?_ oZ rfl
                  · rfl
                  · rfl
                · exact ⟨by rw [HV.out], oZ.drop.drop.drop.drop, calm_zero6 kD⟩
              | true =>
                have hPT := HPT.out
                rw [hRO.out (by first | rfl | trivial)] at hPT
                have hvd := refValidRec_spec ⟨va, (K : Int), vb, vc, vd, ve⟩ oD
                unfold recV at hvd
                dsimp only at hvd
                have oG := oD.up 1
                have n0_ := oG.cell 0
                have n1_ := oG.cell 1
                have n2_ := oG.cell 2
                have n3_ := oG.cell 3
                have n4_ := oG.cell 4
                have n5_ := oG.cell 5
                by_cases hok : RecOk ⟨va, (K : Int), vb, vc, vd, ve⟩
                · rw [decide_eq_true hok] at hvd
                  have HV2 := Lib.hid (hPT.trans (if_pos hok))
                  clear hPT hok
                  go_wp2_with fail
                  refine hvd.mono ?_
                  rintro e4 w4 ⟨rfl, o4, k4⟩
                  have oH := o4.up 1
                  have q0_ := oH.cell 0
                  have q1_ := oH.cell 1
                  have q2_ := oH.cell 2
                  have q3_ := oH.cell 3
                  have q4_ := oH.cell 4
                  have q5_ := oH.cell 5
                  clear n0_ n1_ n2_ n3_ n4_ n5_
                  have o5 := (o4.up 3)
                  have r0 := Own.cell (T := 39) o5 0
                  have r1 := Own.cell (T := 39) o5 1
                  have r2 := Own.cell (T := 39) o5 2
                  have r3 := Own.cell (T := 39) o5 3
                  have r4 := Own.cell (T := 39) o5 4
                  have r5 := Own.cell (T := 39) o5 5
                  have rf := Own.frozen (T := 39) o5
                  have rl := Own.celLt (T := 39) o5
                  go_wp2
                  have oZ := (((((o5.setCell 0 (.int .i64 va)).setCell 1 (.int .i64 (K : Int))).setCell 2 (.int .i64 vb)).setCell 3 (.int .i64 vc)).setCell 4 (.int .i64 vd)).setCell 5 (.int .i64 ve)
                  refine bodyPost_ret (v := prL (⟨va, (K : Int), vb, vc, vd, ve⟩, 0)) ?_ rfl ?_
                  · refine res_rec (b := bx) (r := ⟨va, (K : Int), vb, vc, vd, ve⟩) (e := 0) Tryz.results27 ?_ ?_ oZ rfl
                    · rfl
                    · rfl
                  · exact ⟨by rw [HV2.out], oZ.drop.drop.drop.drop, rcalm_set (rcalm_set (rcalm_set (rcalm_set (rcalm_set (rcalm_set (kD.trans k4))))))⟩
                · rw [decide_eq_false hok] at hvd
                  have HV2 := Lib.hid (hPT.trans (if_neg hok))
                  clear hPT hok
                  go_wp2_with fail
                  refine hvd.mono ?_
                  rintro e4 w4 ⟨rfl, o4, k4⟩
                  have o5 := (o4.up 3)
                  have r0 := Own.cell (T := 39) o5 0
                  have r1 := Own.cell (T := 39) o5 1
                  have r2 := Own.cell (T := 39) o5 2
                  have r3 := Own.cell (T := 39) o5 3
                  have r4 := Own.cell (T := 39) o5 4
                  have r5 := Own.cell (T := 39) o5 5
                  have rf := Own.frozen (T := 39) o5
                  have rl := Own.celLt (T := 39) o5
                  go_wp2
                  have oZ := own_zero6 hz o5
                  refine bodyPost_ret (v := prL (rec0, 1)) ?_ rfl ?_
                  · refine res_rec (b := bx) (r := rec0) (e := 1) Tryz.results27 ?_ ?_ oZ rfl
                    · rfl
                    · rfl
                  · exact ⟨by rw [HV2.out], oZ.drop.drop.drop.drop, calm_zero6 (kD.trans k4)⟩

end
end Go.Proofs.YtlccalkikjfimaaGreatDoor
