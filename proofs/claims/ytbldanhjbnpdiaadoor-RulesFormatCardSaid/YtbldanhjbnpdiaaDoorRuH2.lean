/- Rules: the reference's ParseRule, some of its ways (printed by genparse2.py). -/
import Derived.Test.YtbldanhjbnpdiaaDoorRuF
namespace Go.Proofs.YtbldanhjbnpdiaaDoor
open Go.RowKit
open Go.Shelf
open SP
section
variable {W w w' : World} {R : List SP}
set_option maxHeartbeats 25600000 in
set_option maxRecDepth 100000 in
theorem refParse_ny (s : ByteArray) (hs : s.size ≤ 1000000) (o : Own w R) (a b c d : List UInt8) (hL : spl 32 s.data.toList = [a, b, c, d]) (h0 : a ≠ []) (hf : d.head? = some 62) (ha : ¬ a = [42]) (hb : b = [42]) :
    Calls Tryd.prog 18 #[.string s] w (Ret (prV (parseR s.data.toList)) R w) := by
  have o1 := o.alloc (.cells #[.string ⟨#[]⟩, .int .i64 0, .int .i64 0, .int .i64 0, .int .i64 0] 29)
  have hS := refWords_spec s (by omega) o1
  have hl : s.data.toList.length = s.size := (Lib.size_eq s).symm
  have hsz := spl_len 32 s.data.toList
  rw [hL] at hS hsz
  have za := hsz a (by simp)
  have zb := hsz b (by simp)
  have zc := hsz c (by simp)
  have zd := hsz d (by simp)
  have hP := parseR_words hL
  clear hL hsz
  have ea := emptyB (mkB a)
  have ed := emptyB (mkB d)
  have sa := litB (mkB a) [42]
  have sb := litB (mkB b) [42]
  rw [mkB_data] at ea sa sb ed
  have hW : wordsOK a b c d = (!decide (a = []) && (decide (b = [42]) || numOK 5 b) && portOK c && decide (d.head? = some 62) && numOK 5 d.tail) := rfl
  rw [hW] at hP
  clear hW
  have h1 : d ≠ [] := by rintro rfl; cases hf
  rw [decide_eq_false h1] at ed
  rw [decide_eq_false h0] at ea hP
  rw [decide_eq_true hf] at hP
  rw [decide_eq_false ha] at sa
  rw [decide_eq_true hb] at sb hP
  have hz : 0 < (mkB d).size := by rw [mkB_size]; exact List.length_pos_iff.2 h1
  have g0 := getB (mkB d) 0 hz
  rw [mkB_data, ← List.head?_eq_getElem?, hf] at g0
  have e62 : ((((mkB d)[0]'hz).toNat : Nat) : Int) = 62 := by rw [← Option.some.inj g0]; rfl
  have e62b : (((((mkB d)[0]'hz).toNat : Nat) : Int) != 62) = false := by rw [e62]; rfl
  clear g0
  have NB := Lib.hid fun (w1 : World) => digits_spec (w := w1) (mkB b) 5 (by omega) (by rw [mkB_size]; omega)
  have NT := Lib.hid fun (w1 : World) => digits_spec (w := w1) (mkB d.tail) 5 (by omega) (by rw [mkB_size, List.length_tail]; omega)
  have PC := Lib.hid fun (w1 : World) => refPorts_spec (w := w1) (mkB c) (by rw [mkB_size]; omega)
  unfold portsV at PC
  rw [mkB_data] at NB NT PC
  have xD : (mkB d).extract 1 (mkB d).size = mkB d.tail := by
    have e : ((mkB d).extract 1 (mkB d).size).data.toList = d.tail := by rw [Lib.extract_to_end, mkB_data, List.drop_one]
    rw [← mkB_self ((mkB d).extract 1 (mkB d).size), e]
  have hr : ruOf a b c d = ⟨a, (-1), (portF c : Nat), (portL c : Nat), (numV 5 d.tail : Nat)⟩ := by
    unfold ruOf
    rw [if_neg ha, if_pos hb]
  rw [hr] at hP
  generalize portF c = pf at *
  generalize portL c = pl at *
  generalize portOK c = pok at *
  generalize numV 5 d.tail = nt at *
  generalize numOK 5 d.tail = kt at *
  have VX := Lib.hid fun (w1 : World) (R1 : List SP) (o1 : Own w1 R1) => refValidRu_spec ⟨a, (-1), (pf : Nat), (pl : Nat), (nt : Nat)⟩ (by show a.length ≤ _; omega) (w := w1) (R := R1) o1
  unfold ruV at VX
  dsimp only at VX
  generalize ruOK ⟨a, (-1), (pf : Nat), (pl : Nat), (nt : Nat)⟩ = z at *
  have HV := Lib.hid hP
  obtain ⟨A, hA⟩ : ∃ A, mkB a = A := ⟨_, rfl⟩
  obtain ⟨B, hB⟩ : ∃ A, mkB b = A := ⟨_, rfl⟩
  obtain ⟨C, hC⟩ : ∃ A, mkB c = A := ⟨_, rfl⟩
  obtain ⟨D, hD⟩ : ∃ A, mkB d = A := ⟨_, rfl⟩
  have hS2 : Calls Tryd.prog 27 #[.string s] (w.alloc (.cells #[.string ⟨#[]⟩, .int .i64 0, .int .i64 0, .int .i64 0, .int .i64 0] 29)) fun e w1 => ∃ ad cc, e = .returned (.slice ad 4 cc) ∧ Own w1 (slc 9 1 ad 4 cc [.string A, .string B, .string C, .string D] :: cel w.heap.size 29 [.string ⟨#[]⟩, .int .i64 0, .int .i64 0, .int .i64 0, .int .i64 0] :: R) ∧ Calm w w1 := by
    subst hA hB hC hD
    refine hS.mono ?_
    rintro e w1 ⟨ad, cc, rfl, o2, k2⟩
    exact ⟨ad, cc, rfl, o2, ⟨k2.os, k2.tape, k2.output⟩⟩
  clear hS
  obtain ⟨E, hE⟩ : ∃ A, mkB d.tail = A := ⟨_, rfl⟩
  rw [hE] at NT xD
  rw [hA] at VX
  rw [hA] at ea sa
  rw [hB] at sb
  rw [hC] at PC
  have HA := Lib.hid hA
  clear hP hr hA hB hC ha hb hf h0 h1 hE NB
  subst hD
  go_enter Tryd.func18, Tryd.ntmps18
  go_wp2_with fail
  refine hS2.mono ?_
  rintro e1 w1 ⟨ad, cc, rfl, o2, k2⟩
  obtain ⟨g, rfl, hcell, hfr, hblt⟩ := o2.slc_cell (by decide)
  have s0 := hcell 0 (.string A) rfl
  have s1 := hcell 1 (.string B) rfl
  have s2 := hcell 2 (.string C) rfl
  have s3 := hcell 3 (.string (mkB d)) rfl
  go_wp2_with fail
  refine (PC.out _).mono ?_
  rintro e3 w3 ⟨rfl, rfl⟩
  go_wp2_with fail
  refine (NT.out _).mono ?_
  rintro e5 w5 ⟨rfl, rfl⟩
  have o6 := o2.alloc (.cells #[.string A, .int .i64 (-1), .int .i64 (pf : Nat), .int .i64 (pl : Nat), .int .i64 (nt : Nat)] 29)
  have K6 := calm_alloc (x := .cells #[.string A, .int .i64 (-1), .int .i64 (pf : Nat), .int .i64 (pl : Nat), .int .i64 (nt : Nat)] 29) k2
  cases pok with
  | false =>
    have r0 := Own.cell (T := 29) (o6.up 2) 0
    have r1 := Own.cell (T := 29) (o6.up 2) 1
    have r2 := Own.cell (T := 29) (o6.up 2) 2
    have r3 := Own.cell (T := 29) (o6.up 2) 3
    have r4 := Own.cell (T := 29) (o6.up 2) 4
    have rf := Own.frozen (T := 29) (o6.up 2)
    have rl := Own.celLt (T := 29) (o6.up 2)
    go_wp2
    have oZ := ((((((o6.up 2).setCell 0 (.string ⟨#[]⟩)).setCell 1 (.int .i64 0)).setCell 2 (.int .i64 0)).setCell 3 (.int .i64 0)).setCell 4 (.int .i64 0))
    refine bodyPost_ret (v := prV (ru0, 8)) ?_ rfl ?_
    · refine res_rule (b := w.heap.size) (r := ru0) (e := 8) Tryd.results18 ?_ ?_ oZ rfl
      · rfl
      · rfl
    · exact ⟨by rw [HV.out]; rfl, oZ.drop.drop.drop, calm_set (calm_set (calm_set (calm_set (calm_set K6))))⟩
  | true =>
    cases kt with
    | false =>
      have r0 := Own.cell (T := 29) (o6.up 2) 0
      have r1 := Own.cell (T := 29) (o6.up 2) 1
      have r2 := Own.cell (T := 29) (o6.up 2) 2
      have r3 := Own.cell (T := 29) (o6.up 2) 3
      have r4 := Own.cell (T := 29) (o6.up 2) 4
      have rf := Own.frozen (T := 29) (o6.up 2)
      have rl := Own.celLt (T := 29) (o6.up 2)
      go_wp2
      have oZ := ((((((o6.up 2).setCell 0 (.string ⟨#[]⟩)).setCell 1 (.int .i64 0)).setCell 2 (.int .i64 0)).setCell 3 (.int .i64 0)).setCell 4 (.int .i64 0))
      refine bodyPost_ret (v := prV (ru0, 8)) ?_ rfl ?_
      · refine res_rule (b := w.heap.size) (r := ru0) (e := 8) Tryd.results18 ?_ ?_ oZ rfl
        · rfl
        · rfl
      · exact ⟨by rw [HV.out]; rfl, oZ.drop.drop.drop, calm_set (calm_set (calm_set (calm_set (calm_set K6))))⟩
    | true =>
      go_wp2_with fail
      refine (VX.out _ _ o6).mono ?_
      rintro e6 w6 ⟨rfl, o12, k12⟩
      have K12 := K6.trans k12
      generalize w1.heap.size = bx at *
      cases z with
      | false =>
        have r0 := Own.cell (T := 29) (o12.up 2) 0
        have r1 := Own.cell (T := 29) (o12.up 2) 1
        have r2 := Own.cell (T := 29) (o12.up 2) 2
        have r3 := Own.cell (T := 29) (o12.up 2) 3
        have r4 := Own.cell (T := 29) (o12.up 2) 4
        have rf := Own.frozen (T := 29) (o12.up 2)
        have rl := Own.celLt (T := 29) (o12.up 2)
        go_wp2
        have oZ := ((((((o12.up 2).setCell 0 (.string ⟨#[]⟩)).setCell 1 (.int .i64 0)).setCell 2 (.int .i64 0)).setCell 3 (.int .i64 0)).setCell 4 (.int .i64 0))
        refine bodyPost_ret (v := prV (ru0, 1)) ?_ rfl ?_
        · refine res_rule (b := w.heap.size) (r := ru0) (e := 1) Tryd.results18 ?_ ?_ oZ rfl
          · rfl
          · rfl
        · exact ⟨by rw [HV.out]; rfl, oZ.drop.drop.drop, calm_set (calm_set (calm_set (calm_set (calm_set K12))))⟩
      | true =>
        have z0 := o12.cell 0
        have z1 := o12.cell 1
        have z2 := o12.cell 2
        have z3 := o12.cell 3
        have z4 := o12.cell 4
        have r0 := Own.cell (T := 29) (o12.up 2) 0
        have r1 := Own.cell (T := 29) (o12.up 2) 1
        have r2 := Own.cell (T := 29) (o12.up 2) 2
        have r3 := Own.cell (T := 29) (o12.up 2) 3
        have r4 := Own.cell (T := 29) (o12.up 2) 4
        have rf := Own.frozen (T := 29) (o12.up 2)
        have rl := Own.celLt (T := 29) (o12.up 2)
        go_wp2
        have oZ := ((((((o12.up 2).setCell 0 (.string A)).setCell 1 (.int .i64 (-1))).setCell 2 (.int .i64 (pf : Nat))).setCell 3 (.int .i64 (pl : Nat))).setCell 4 (.int .i64 (nt : Nat)))
        refine bodyPost_ret (v := prV (⟨a, (-1), (pf : Nat), (pl : Nat), (nt : Nat)⟩, 0)) ?_ rfl ?_
        · refine res_rule (b := w.heap.size) (r := ⟨a, (-1), (pf : Nat), (pl : Nat), (nt : Nat)⟩) (e := 0) Tryd.results18 ?_ ?_ oZ (by unfold ruC; rw [HA.out]; rfl)
          · rfl
          · rfl
        · exact ⟨by rw [HV.out]; rfl, oZ.drop.drop.drop, calm_set (calm_set (calm_set (calm_set (calm_set K12))))⟩
set_option maxHeartbeats 25600000 in
set_option maxRecDepth 100000 in
theorem refParse_nn (s : ByteArray) (hs : s.size ≤ 1000000) (o : Own w R) (a b c d : List UInt8) (hL : spl 32 s.data.toList = [a, b, c, d]) (h0 : a ≠ []) (hf : d.head? = some 62) (ha : ¬ a = [42]) (hb : ¬ b = [42]) :
    Calls Tryd.prog 18 #[.string s] w (Ret (prV (parseR s.data.toList)) R w) := by
  have o1 := o.alloc (.cells #[.string ⟨#[]⟩, .int .i64 0, .int .i64 0, .int .i64 0, .int .i64 0] 29)
  have hS := refWords_spec s (by omega) o1
  have hl : s.data.toList.length = s.size := (Lib.size_eq s).symm
  have hsz := spl_len 32 s.data.toList
  rw [hL] at hS hsz
  have za := hsz a (by simp)
  have zb := hsz b (by simp)
  have zc := hsz c (by simp)
  have zd := hsz d (by simp)
  have hP := parseR_words hL
  clear hL hsz
  have ea := emptyB (mkB a)
  have ed := emptyB (mkB d)
  have sa := litB (mkB a) [42]
  have sb := litB (mkB b) [42]
  rw [mkB_data] at ea sa sb ed
  have hW : wordsOK a b c d = (!decide (a = []) && (decide (b = [42]) || numOK 5 b) && portOK c && decide (d.head? = some 62) && numOK 5 d.tail) := rfl
  rw [hW] at hP
  clear hW
  have h1 : d ≠ [] := by rintro rfl; cases hf
  rw [decide_eq_false h1] at ed
  rw [decide_eq_false h0] at ea hP
  rw [decide_eq_true hf] at hP
  rw [decide_eq_false ha] at sa
  rw [decide_eq_false hb] at sb hP
  have hz : 0 < (mkB d).size := by rw [mkB_size]; exact List.length_pos_iff.2 h1
  have g0 := getB (mkB d) 0 hz
  rw [mkB_data, ← List.head?_eq_getElem?, hf] at g0
  have e62 : ((((mkB d)[0]'hz).toNat : Nat) : Int) = 62 := by rw [← Option.some.inj g0]; rfl
  have e62b : (((((mkB d)[0]'hz).toNat : Nat) : Int) != 62) = false := by rw [e62]; rfl
  clear g0
  have NB := Lib.hid fun (w1 : World) => digits_spec (w := w1) (mkB b) 5 (by omega) (by rw [mkB_size]; omega)
  have NT := Lib.hid fun (w1 : World) => digits_spec (w := w1) (mkB d.tail) 5 (by omega) (by rw [mkB_size, List.length_tail]; omega)
  have PC := Lib.hid fun (w1 : World) => refPorts_spec (w := w1) (mkB c) (by rw [mkB_size]; omega)
  unfold portsV at PC
  rw [mkB_data] at NB NT PC
  have xD : (mkB d).extract 1 (mkB d).size = mkB d.tail := by
    have e : ((mkB d).extract 1 (mkB d).size).data.toList = d.tail := by rw [Lib.extract_to_end, mkB_data, List.drop_one]
    rw [← mkB_self ((mkB d).extract 1 (mkB d).size), e]
  have hr : ruOf a b c d = ⟨a, (numV 5 b : Nat), (portF c : Nat), (portL c : Nat), (numV 5 d.tail : Nat)⟩ := by
    unfold ruOf
    rw [if_neg ha, if_neg hb]
  rw [hr] at hP
  generalize portF c = pf at *
  generalize portL c = pl at *
  generalize portOK c = pok at *
  generalize numV 5 d.tail = nt at *
  generalize numOK 5 d.tail = kt at *
  generalize numV 5 b = nb at *
  generalize numOK 5 b = kb at *
  have VX := Lib.hid fun (w1 : World) (R1 : List SP) (o1 : Own w1 R1) => refValidRu_spec ⟨a, (nb : Nat), (pf : Nat), (pl : Nat), (nt : Nat)⟩ (by show a.length ≤ _; omega) (w := w1) (R := R1) o1
  unfold ruV at VX
  dsimp only at VX
  generalize ruOK ⟨a, (nb : Nat), (pf : Nat), (pl : Nat), (nt : Nat)⟩ = z at *
  have HV := Lib.hid hP
  obtain ⟨A, hA⟩ : ∃ A, mkB a = A := ⟨_, rfl⟩
  obtain ⟨B, hB⟩ : ∃ A, mkB b = A := ⟨_, rfl⟩
  obtain ⟨C, hC⟩ : ∃ A, mkB c = A := ⟨_, rfl⟩
  obtain ⟨D, hD⟩ : ∃ A, mkB d = A := ⟨_, rfl⟩
  have hS2 : Calls Tryd.prog 27 #[.string s] (w.alloc (.cells #[.string ⟨#[]⟩, .int .i64 0, .int .i64 0, .int .i64 0, .int .i64 0] 29)) fun e w1 => ∃ ad cc, e = .returned (.slice ad 4 cc) ∧ Own w1 (slc 9 1 ad 4 cc [.string A, .string B, .string C, .string D] :: cel w.heap.size 29 [.string ⟨#[]⟩, .int .i64 0, .int .i64 0, .int .i64 0, .int .i64 0] :: R) ∧ Calm w w1 := by
    subst hA hB hC hD
    refine hS.mono ?_
    rintro e w1 ⟨ad, cc, rfl, o2, k2⟩
    exact ⟨ad, cc, rfl, o2, ⟨k2.os, k2.tape, k2.output⟩⟩
  clear hS
  obtain ⟨E, hE⟩ : ∃ A, mkB d.tail = A := ⟨_, rfl⟩
  rw [hE] at NT xD
  rw [hA] at VX
  rw [hA] at ea sa
  rw [hB] at sb NB
  rw [hC] at PC
  have HA := Lib.hid hA
  clear hP hr hA hB hC ha hb hf h0 h1 hE
  subst hD
  go_enter Tryd.func18, Tryd.ntmps18
  go_wp2_with fail
  refine hS2.mono ?_
  rintro e1 w1 ⟨ad, cc, rfl, o2, k2⟩
  obtain ⟨g, rfl, hcell, hfr, hblt⟩ := o2.slc_cell (by decide)
  have s0 := hcell 0 (.string A) rfl
  have s1 := hcell 1 (.string B) rfl
  have s2 := hcell 2 (.string C) rfl
  have s3 := hcell 3 (.string (mkB d)) rfl
  go_wp2_with fail
  refine (NB.out _).mono ?_
  rintro e2 w2 ⟨rfl, rfl⟩
  go_wp2_with fail
  refine (PC.out _).mono ?_
  rintro e3 w3 ⟨rfl, rfl⟩
  go_wp2_with fail
  refine (NT.out _).mono ?_
  rintro e5 w5 ⟨rfl, rfl⟩
  have o6 := o2.alloc (.cells #[.string A, .int .i64 (nb : Nat), .int .i64 (pf : Nat), .int .i64 (pl : Nat), .int .i64 (nt : Nat)] 29)
  have K6 := calm_alloc (x := .cells #[.string A, .int .i64 (nb : Nat), .int .i64 (pf : Nat), .int .i64 (pl : Nat), .int .i64 (nt : Nat)] 29) k2
  cases kb with
  | false =>
    have r0 := Own.cell (T := 29) (o6.up 2) 0
    have r1 := Own.cell (T := 29) (o6.up 2) 1
    have r2 := Own.cell (T := 29) (o6.up 2) 2
    have r3 := Own.cell (T := 29) (o6.up 2) 3
    have r4 := Own.cell (T := 29) (o6.up 2) 4
    have rf := Own.frozen (T := 29) (o6.up 2)
    have rl := Own.celLt (T := 29) (o6.up 2)
    go_wp2
    have oZ := ((((((o6.up 2).setCell 0 (.string ⟨#[]⟩)).setCell 1 (.int .i64 0)).setCell 2 (.int .i64 0)).setCell 3 (.int .i64 0)).setCell 4 (.int .i64 0))
    refine bodyPost_ret (v := prV (ru0, 8)) ?_ rfl ?_
    · refine res_rule (b := w.heap.size) (r := ru0) (e := 8) Tryd.results18 ?_ ?_ oZ rfl
      · rfl
      · rfl
    · exact ⟨by rw [HV.out]; rfl, oZ.drop.drop.drop, calm_set (calm_set (calm_set (calm_set (calm_set K6))))⟩
  | true =>
    cases pok with
    | false =>
      have r0 := Own.cell (T := 29) (o6.up 2) 0
      have r1 := Own.cell (T := 29) (o6.up 2) 1
      have r2 := Own.cell (T := 29) (o6.up 2) 2
      have r3 := Own.cell (T := 29) (o6.up 2) 3
      have r4 := Own.cell (T := 29) (o6.up 2) 4
      have rf := Own.frozen (T := 29) (o6.up 2)
      have rl := Own.celLt (T := 29) (o6.up 2)
      go_wp2
      have oZ := ((((((o6.up 2).setCell 0 (.string ⟨#[]⟩)).setCell 1 (.int .i64 0)).setCell 2 (.int .i64 0)).setCell 3 (.int .i64 0)).setCell 4 (.int .i64 0))
      refine bodyPost_ret (v := prV (ru0, 8)) ?_ rfl ?_
      · refine res_rule (b := w.heap.size) (r := ru0) (e := 8) Tryd.results18 ?_ ?_ oZ rfl
        · rfl
        · rfl
      · exact ⟨by rw [HV.out]; rfl, oZ.drop.drop.drop, calm_set (calm_set (calm_set (calm_set (calm_set K6))))⟩
    | true =>
      cases kt with
      | false =>
        have r0 := Own.cell (T := 29) (o6.up 2) 0
        have r1 := Own.cell (T := 29) (o6.up 2) 1
        have r2 := Own.cell (T := 29) (o6.up 2) 2
        have r3 := Own.cell (T := 29) (o6.up 2) 3
        have r4 := Own.cell (T := 29) (o6.up 2) 4
        have rf := Own.frozen (T := 29) (o6.up 2)
        have rl := Own.celLt (T := 29) (o6.up 2)
        go_wp2
        have oZ := ((((((o6.up 2).setCell 0 (.string ⟨#[]⟩)).setCell 1 (.int .i64 0)).setCell 2 (.int .i64 0)).setCell 3 (.int .i64 0)).setCell 4 (.int .i64 0))
        refine bodyPost_ret (v := prV (ru0, 8)) ?_ rfl ?_
        · refine res_rule (b := w.heap.size) (r := ru0) (e := 8) Tryd.results18 ?_ ?_ oZ rfl
          · rfl
          · rfl
        · exact ⟨by rw [HV.out]; rfl, oZ.drop.drop.drop, calm_set (calm_set (calm_set (calm_set (calm_set K6))))⟩
      | true =>
        go_wp2_with fail
        refine (VX.out _ _ o6).mono ?_
        rintro e6 w6 ⟨rfl, o12, k12⟩
        have K12 := K6.trans k12
        generalize w1.heap.size = bx at *
        cases z with
        | false =>
          have r0 := Own.cell (T := 29) (o12.up 2) 0
          have r1 := Own.cell (T := 29) (o12.up 2) 1
          have r2 := Own.cell (T := 29) (o12.up 2) 2
          have r3 := Own.cell (T := 29) (o12.up 2) 3
          have r4 := Own.cell (T := 29) (o12.up 2) 4
          have rf := Own.frozen (T := 29) (o12.up 2)
          have rl := Own.celLt (T := 29) (o12.up 2)
          go_wp2
          have oZ := ((((((o12.up 2).setCell 0 (.string ⟨#[]⟩)).setCell 1 (.int .i64 0)).setCell 2 (.int .i64 0)).setCell 3 (.int .i64 0)).setCell 4 (.int .i64 0))
          refine bodyPost_ret (v := prV (ru0, 1)) ?_ rfl ?_
          · refine res_rule (b := w.heap.size) (r := ru0) (e := 1) Tryd.results18 ?_ ?_ oZ rfl
            · rfl
            · rfl
          · exact ⟨by rw [HV.out]; rfl, oZ.drop.drop.drop, calm_set (calm_set (calm_set (calm_set (calm_set K12))))⟩
        | true =>
          have z0 := o12.cell 0
          have z1 := o12.cell 1
          have z2 := o12.cell 2
          have z3 := o12.cell 3
          have z4 := o12.cell 4
          have r0 := Own.cell (T := 29) (o12.up 2) 0
          have r1 := Own.cell (T := 29) (o12.up 2) 1
          have r2 := Own.cell (T := 29) (o12.up 2) 2
          have r3 := Own.cell (T := 29) (o12.up 2) 3
          have r4 := Own.cell (T := 29) (o12.up 2) 4
          have rf := Own.frozen (T := 29) (o12.up 2)
          have rl := Own.celLt (T := 29) (o12.up 2)
          go_wp2
          have oZ := ((((((o12.up 2).setCell 0 (.string A)).setCell 1 (.int .i64 (nb : Nat))).setCell 2 (.int .i64 (pf : Nat))).setCell 3 (.int .i64 (pl : Nat))).setCell 4 (.int .i64 (nt : Nat)))
          refine bodyPost_ret (v := prV (⟨a, (nb : Nat), (pf : Nat), (pl : Nat), (nt : Nat)⟩, 0)) ?_ rfl ?_
          · refine res_rule (b := w.heap.size) (r := ⟨a, (nb : Nat), (pf : Nat), (pl : Nat), (nt : Nat)⟩) (e := 0) Tryd.results18 ?_ ?_ oZ (by unfold ruC; rw [HA.out]; rfl)
            · rfl
            · rfl
          · exact ⟨by rw [HV.out]; rfl, oZ.drop.drop.drop, calm_set (calm_set (calm_set (calm_set (calm_set K12))))⟩
end
end Go.Proofs.YtbldanhjbnpdiaaDoor
