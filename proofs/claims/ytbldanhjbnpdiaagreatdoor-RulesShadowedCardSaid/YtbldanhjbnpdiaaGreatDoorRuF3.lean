/- Rules: the program's Parse, some of its ways (printed by genparse.py). -/
import Derived.Test.YtbldanhjbnpdiaaGreatDoorRuF
namespace Go.Proofs.YtbldanhjbnpdiaaGreatDoor
open Go.RowKit
open Go.Shelf
open SP
section
variable {W w w' : World} {R : List SP}
set_option maxHeartbeats 25600000 in
set_option maxRecDepth 100000 in
theorem ruParse_nyy (s : ByteArray) (hs : s.size ≤ 1000000) (hm : MaxV W) (o : Own w (old W :: R)) (a b c d : List UInt8) (hL : spl 32 s.data.toList = [a, b, c, d]) (h0 : a ≠ []) (ha : ¬ a = [42]) (hb : b = [42]) (hf : d.head? = some 62) :
    Calls Tryz.prog 28 #[.string s] w (Ret (prV (parseR s.data.toList)) (old W :: R) w) := by
  have o1 := o.alloc (.cells #[.string ⟨#[]⟩, .int .i64 0, .int .i64 0, .int .i64 0, .int .i64 0] 24)
  have hS := split_spec s (by omega) hm o1.swap _ o1
  have hl : s.data.toList.length = s.size := (Lib.size_eq s).symm
  have hsz := spl_len 32 s.data.toList
  rw [hL] at hS hsz
  have za := hsz a (by simp)
  have zb := hsz b (by simp)
  have zc := hsz c (by simp)
  have zd := hsz d (by simp)
  have hP := parseR_words hL
  clear hL hsz
  have ea := emptyB (mkB a)
  have sa := litB (mkB a) [42]
  have sb := litB (mkB b) [42]
  rw [mkB_data] at ea sa sb
  have NB := Lib.hid fun (w1 : World) (R1 : List SP) (o1 : Own w1 R1) => number_spec (mkB b) (by rw [mkB_size]; omega) o1
  have NT := Lib.hid fun (w1 : World) (R1 : List SP) (o1 : Own w1 R1) => number_spec (mkB d.tail) (by rw [mkB_size, List.length_tail]; omega) o1
  have ND := Lib.hid fun (w1 : World) (R1 : List SP) (o1 : Own w1 R1) => number_spec (mkB d) (by rw [mkB_size]; omega) o1
  have PC := Lib.hid fun (w1 : World) (R1 : List SP) (o1 : Own w1 (old W :: R1)) => ports_spec (mkB c) (by rw [mkB_size]; omega) hm o1
  have CP := Lib.hid fun (w1 : World) => prefix_spec (w := w1) d
  have VR := Lib.hid fun (r : Ru) (hr : r.st.length ≤ 2000000) (w1 : World) (R1 : List SP) (o1 : Own w1 R1) => ruValid_spec r hr o1
  unfold portsV at PC
  rw [mkB_data] at NB NT ND PC
  have KV : ∀ (st : List UInt8) (cls : Int), (if a = [42] then [] else a) = st → (if b = [42] then (-1 : Int) else (numV 5 b : Nat)) = cls → ruOf a b c d = ⟨st, cls, (portF c : Nat), (portL c : Nat), (numV 5 d.tail : Nat)⟩ := by
    rintro _ _ rfl rfl; rfl
  have hW : wordsOK a b c d = (!decide (a = []) && (decide (b = [42]) || numOK 5 b) && portOK c && decide (d.head? = some 62) && numOK 5 d.tail) := rfl
  rw [hW] at hP
  clear hW
  generalize portF c = pf at *
  generalize portL c = pl at *
  generalize portOK c = pok at *
  generalize hnd : numV 5 d.tail = nt at *
  generalize numOK 5 d.tail = kt at *
  generalize numV 5 d = nd at *
  generalize numOK 5 d = kd at *
  generalize hnb : numV 5 b = nb at *
  generalize numOK 5 b = kb at *
  obtain ⟨A, hA⟩ : ∃ A, mkB a = A := ⟨_, rfl⟩
  obtain ⟨B, hB⟩ : ∃ A, mkB b = A := ⟨_, rfl⟩
  obtain ⟨C, hC⟩ : ∃ A, mkB c = A := ⟨_, rfl⟩
  obtain ⟨D, hD⟩ : ∃ A, mkB d = A := ⟨_, rfl⟩
  rw [hA] at ea sa
  rw [hB] at sb NB
  rw [hC] at PC
  rw [hD] at ND CP
  have hS2 : Calls Tryz.prog 35 #[.string s, .string ⟨#[32]⟩] (w.alloc (.cells #[.string ⟨#[]⟩, .int .i64 0, .int .i64 0, .int .i64 0, .int .i64 0] 24)) fun e w1 => ∃ ad cc, e = .returned (.slice ad 4 cc) ∧ Own w1 (slc 9 1 ad 4 cc [.string A, .string B, .string C, .string D] :: cel w.heap.size 24 [.string ⟨#[]⟩, .int .i64 0, .int .i64 0, .int .i64 0, .int .i64 0] :: old W :: R) ∧ Calm w w1 := by
    subst hA hB hC hD
    refine hS.mono ?_
    rintro e w1 ⟨ad, cc, rfl, o2, k2⟩
    exact ⟨ad, cc, rfl, o2, ⟨k2.os, k2.tape, k2.output⟩⟩
  clear hS
  rw [decide_eq_false h0] at ea hP
  rw [decide_eq_false ha] at sa
  rw [decide_eq_true hb] at sb hP
  rw [decide_eq_true hf] at hP
  rw [decide_eq_true hf, if_pos hf] at CP
  have hr := KV a (-1) (if_neg ha) (if_pos hb)
  rw [hr] at hP
  have VX := Lib.hid fun (w1 : World) (R1 : List SP) (o1 : Own w1 R1) => VR.out ⟨a, (-1), (pf : Nat), (pl : Nat), (nt : Nat)⟩ (by show a.length ≤ _; omega) w1 R1 o1
  unfold ruV at VX
  dsimp only at VX
  rw [hA] at VX
  generalize ruOK ⟨a, (-1), (pf : Nat), (pl : Nat), (nt : Nat)⟩ = z at *
  have HV := Lib.hid hP
  obtain ⟨E, hE⟩ : ∃ A, mkB d.tail = A := ⟨_, rfl⟩
  rw [hE] at NT CP
  have HA := Lib.hid hA
  clear hP hr KV VR hA hB hC hD ha hb hf h0 hE
  go_enter Tryz.func28, Tryz.ntmps28
  go_wp2_with fail
  refine hS2.mono ?_
  rintro e1 w1 ⟨ad, cc, rfl, o2, k2⟩
  obtain ⟨g, rfl, hcell, hfr, hblt⟩ := o2.slc_cell (by decide)
  have s0 := hcell 0 (.string A) rfl
  have s1 := hcell 1 (.string B) rfl
  have s2 := hcell 2 (.string C) rfl
  have s3 := hcell 3 (.string D) rfl
  have o4 := o2.alloc (.cells #[.string A, .int .i64 (-1), .int .i64 0, .int .i64 0, .int .i64 0] 24)
  have k4 := calm_alloc (x := .cells #[.string A, .int .i64 (-1), .int .i64 0, .int .i64 0, .int .i64 0] 24) k2
  have o6 := o4
  have k6 := k4
  go_wp2_with fail
  refine (PC.out _ _ (o6.up 3)).mono ?_
  rintro e3 w3 ⟨rfl, o7, k7⟩
  have K7 := k6.trans k7
  generalize w1.heap.size = bx at *
  have o8 := o7.up 1
  skip
  have x0 := Own.cell (T := 24) o8 0
  have x1 := Own.cell (T := 24) o8 1
  have x2 := Own.cell (T := 24) o8 2
  have x3 := Own.cell (T := 24) o8 3
  have x4 := Own.cell (T := 24) o8 4
  have xf := Own.frozen (T := 24) o8
  have xl := Own.celLt (T := 24) o8
  obtain ⟨g'', hg'', hcell'', hfr'', hblt''⟩ := (o8.up 2).slc_cell (by decide)
  cases hg''
  have s3'' := hcell'' 3 (.string D) rfl
  have o9 := (o8.setCell 2 (.int .i64 (pf : Nat))).setCell 3 (.int .i64 (pl : Nat))
  have K9 := calm_set (x := ⟨bx, 3, none⟩) (v := .int .i64 (pl : Nat)) (calm_set (x := ⟨bx, 2, none⟩) (v := .int .i64 (pf : Nat)) K7)
  go_wp2_with fail
  refine (CP.out _).mono ?_
  rintro e4 w4 ⟨rfl, rfl⟩
  go_wp2_with fail
  refine (NT.out _ _ o9).mono ?_
  rintro e5 w5 ⟨rfl, o10, k10⟩
  have K10 := K9.trans k10
  clear x0 x1 x2 x3 x4 xf xl
  have x0 := Own.cell (T := 24) o10 0
  have x1 := Own.cell (T := 24) o10 1
  have x2 := Own.cell (T := 24) o10 2
  have x3 := Own.cell (T := 24) o10 3
  have x4 := Own.cell (T := 24) o10 4
  have xf := Own.frozen (T := 24) o10
  have xl := Own.celLt (T := 24) o10
  have o11 := o10.setCell 4 (.int .i64 (nt : Nat))
  have K11 := calm_set (x := ⟨bx, 4, none⟩) (v := .int .i64 (nt : Nat)) K10
  cases pok with
  | false =>
    have r0 := Own.cell (T := 24) (o11.up 3) 0
    have r1 := Own.cell (T := 24) (o11.up 3) 1
    have r2 := Own.cell (T := 24) (o11.up 3) 2
    have r3 := Own.cell (T := 24) (o11.up 3) 3
    have r4 := Own.cell (T := 24) (o11.up 3) 4
    have rf := Own.frozen (T := 24) (o11.up 3)
    have rl := Own.celLt (T := 24) (o11.up 3)
    go_wp2
    have oZ := ((((((o11.up 3).setCell 0 (.string ⟨#[]⟩)).setCell 1 (.int .i64 0)).setCell 2 (.int .i64 0)).setCell 3 (.int .i64 0)).setCell 4 (.int .i64 0))
    refine bodyPost_ret (v := prV (ru0, 8)) ?_ rfl ?_
    · refine res_rule (b := w.heap.size) (r := ru0) (e := 8) Tryz.results28 ?_ ?_ oZ rfl
      · rfl
      · rfl
    · exact ⟨by rw [HV.out]; rfl, (oZ.drop.drop.up 1).drop, calm_set (calm_set (calm_set (calm_set (calm_set K11))))⟩
  | true =>
    cases kt with
    | false =>
      have r0 := Own.cell (T := 24) (o11.up 3) 0
      have r1 := Own.cell (T := 24) (o11.up 3) 1
      have r2 := Own.cell (T := 24) (o11.up 3) 2
      have r3 := Own.cell (T := 24) (o11.up 3) 3
      have r4 := Own.cell (T := 24) (o11.up 3) 4
      have rf := Own.frozen (T := 24) (o11.up 3)
      have rl := Own.celLt (T := 24) (o11.up 3)
      go_wp2
      have oZ := ((((((o11.up 3).setCell 0 (.string ⟨#[]⟩)).setCell 1 (.int .i64 0)).setCell 2 (.int .i64 0)).setCell 3 (.int .i64 0)).setCell 4 (.int .i64 0))
      refine bodyPost_ret (v := prV (ru0, 8)) ?_ rfl ?_
      · refine res_rule (b := w.heap.size) (r := ru0) (e := 8) Tryz.results28 ?_ ?_ oZ rfl
        · rfl
        · rfl
      · exact ⟨by rw [HV.out]; rfl, (oZ.drop.drop.up 1).drop, calm_set (calm_set (calm_set (calm_set (calm_set K11))))⟩
    | true =>
      have y0 := o11.cell 0
      have y1 := o11.cell 1
      have y2 := o11.cell 2
      have y3 := o11.cell 3
      have y4 := o11.cell 4
      go_wp2_with fail
      refine (VX.out _ _ o11).mono ?_
      rintro e6 w6 ⟨rfl, o12, k12⟩
      have K12 := K11.trans k12
      cases z with
      | false =>
        have r0 := Own.cell (T := 24) (o12.up 3) 0
        have r1 := Own.cell (T := 24) (o12.up 3) 1
        have r2 := Own.cell (T := 24) (o12.up 3) 2
        have r3 := Own.cell (T := 24) (o12.up 3) 3
        have r4 := Own.cell (T := 24) (o12.up 3) 4
        have rf := Own.frozen (T := 24) (o12.up 3)
        have rl := Own.celLt (T := 24) (o12.up 3)
        go_wp2
        have oZ := ((((((o12.up 3).setCell 0 (.string ⟨#[]⟩)).setCell 1 (.int .i64 0)).setCell 2 (.int .i64 0)).setCell 3 (.int .i64 0)).setCell 4 (.int .i64 0))
        refine bodyPost_ret (v := prV (ru0, 1)) ?_ rfl ?_
        · refine res_rule (b := w.heap.size) (r := ru0) (e := 1) Tryz.results28 ?_ ?_ oZ rfl
          · rfl
          · rfl
        · exact ⟨by rw [HV.out]; rfl, (oZ.drop.drop.up 1).drop, calm_set (calm_set (calm_set (calm_set (calm_set K12))))⟩
      | true =>
        have z0 := o12.cell 0
        have z1 := o12.cell 1
        have z2 := o12.cell 2
        have z3 := o12.cell 3
        have z4 := o12.cell 4
        have r0 := Own.cell (T := 24) (o12.up 3) 0
        have r1 := Own.cell (T := 24) (o12.up 3) 1
        have r2 := Own.cell (T := 24) (o12.up 3) 2
        have r3 := Own.cell (T := 24) (o12.up 3) 3
        have r4 := Own.cell (T := 24) (o12.up 3) 4
        have rf := Own.frozen (T := 24) (o12.up 3)
        have rl := Own.celLt (T := 24) (o12.up 3)
        go_wp2
        have oZ := ((((((o12.up 3).setCell 0 (.string A)).setCell 1 (.int .i64 (-1))).setCell 2 (.int .i64 (pf : Nat))).setCell 3 (.int .i64 (pl : Nat))).setCell 4 (.int .i64 (nt : Nat)))
        refine bodyPost_ret (v := prV (⟨a, (-1), pf, pl, nt⟩, 0)) ?_ rfl ?_
        · refine res_rule (b := w.heap.size) (r := ⟨a, (-1), pf, pl, nt⟩) (e := 0) Tryz.results28 ?_ ?_ oZ (by unfold ruC; rw [HA.out]; rfl)
          · rfl
          · rfl
        · exact ⟨by rw [HV.out]; rfl, (oZ.drop.drop.up 1).drop, calm_set (calm_set (calm_set (calm_set (calm_set K12))))⟩
set_option maxHeartbeats 25600000 in
set_option maxRecDepth 100000 in
theorem ruParse_nyn (s : ByteArray) (hs : s.size ≤ 1000000) (hm : MaxV W) (o : Own w (old W :: R)) (a b c d : List UInt8) (hL : spl 32 s.data.toList = [a, b, c, d]) (h0 : a ≠ []) (ha : ¬ a = [42]) (hb : b = [42]) (hf : ¬ d.head? = some 62) :
    Calls Tryz.prog 28 #[.string s] w (Ret (prV (parseR s.data.toList)) (old W :: R) w) := by
  have o1 := o.alloc (.cells #[.string ⟨#[]⟩, .int .i64 0, .int .i64 0, .int .i64 0, .int .i64 0] 24)
  have hS := split_spec s (by omega) hm o1.swap _ o1
  have hl : s.data.toList.length = s.size := (Lib.size_eq s).symm
  have hsz := spl_len 32 s.data.toList
  rw [hL] at hS hsz
  have za := hsz a (by simp)
  have zb := hsz b (by simp)
  have zc := hsz c (by simp)
  have zd := hsz d (by simp)
  have hP := parseR_words hL
  clear hL hsz
  have ea := emptyB (mkB a)
  have sa := litB (mkB a) [42]
  have sb := litB (mkB b) [42]
  rw [mkB_data] at ea sa sb
  have NB := Lib.hid fun (w1 : World) (R1 : List SP) (o1 : Own w1 R1) => number_spec (mkB b) (by rw [mkB_size]; omega) o1
  have NT := Lib.hid fun (w1 : World) (R1 : List SP) (o1 : Own w1 R1) => number_spec (mkB d.tail) (by rw [mkB_size, List.length_tail]; omega) o1
  have ND := Lib.hid fun (w1 : World) (R1 : List SP) (o1 : Own w1 R1) => number_spec (mkB d) (by rw [mkB_size]; omega) o1
  have PC := Lib.hid fun (w1 : World) (R1 : List SP) (o1 : Own w1 (old W :: R1)) => ports_spec (mkB c) (by rw [mkB_size]; omega) hm o1
  have CP := Lib.hid fun (w1 : World) => prefix_spec (w := w1) d
  have VR := Lib.hid fun (r : Ru) (hr : r.st.length ≤ 2000000) (w1 : World) (R1 : List SP) (o1 : Own w1 R1) => ruValid_spec r hr o1
  unfold portsV at PC
  rw [mkB_data] at NB NT ND PC
  have KV : ∀ (st : List UInt8) (cls : Int), (if a = [42] then [] else a) = st → (if b = [42] then (-1 : Int) else (numV 5 b : Nat)) = cls → ruOf a b c d = ⟨st, cls, (portF c : Nat), (portL c : Nat), (numV 5 d.tail : Nat)⟩ := by
    rintro _ _ rfl rfl; rfl
  have hW : wordsOK a b c d = (!decide (a = []) && (decide (b = [42]) || numOK 5 b) && portOK c && decide (d.head? = some 62) && numOK 5 d.tail) := rfl
  rw [hW] at hP
  clear hW
  generalize portF c = pf at *
  generalize portL c = pl at *
  generalize portOK c = pok at *
  generalize hnd : numV 5 d.tail = nt at *
  generalize numOK 5 d.tail = kt at *
  generalize numV 5 d = nd at *
  generalize numOK 5 d = kd at *
  generalize hnb : numV 5 b = nb at *
  generalize numOK 5 b = kb at *
  obtain ⟨A, hA⟩ : ∃ A, mkB a = A := ⟨_, rfl⟩
  obtain ⟨B, hB⟩ : ∃ A, mkB b = A := ⟨_, rfl⟩
  obtain ⟨C, hC⟩ : ∃ A, mkB c = A := ⟨_, rfl⟩
  obtain ⟨D, hD⟩ : ∃ A, mkB d = A := ⟨_, rfl⟩
  rw [hA] at ea sa
  rw [hB] at sb NB
  rw [hC] at PC
  rw [hD] at ND CP
  have hS2 : Calls Tryz.prog 35 #[.string s, .string ⟨#[32]⟩] (w.alloc (.cells #[.string ⟨#[]⟩, .int .i64 0, .int .i64 0, .int .i64 0, .int .i64 0] 24)) fun e w1 => ∃ ad cc, e = .returned (.slice ad 4 cc) ∧ Own w1 (slc 9 1 ad 4 cc [.string A, .string B, .string C, .string D] :: cel w.heap.size 24 [.string ⟨#[]⟩, .int .i64 0, .int .i64 0, .int .i64 0, .int .i64 0] :: old W :: R) ∧ Calm w w1 := by
    subst hA hB hC hD
    refine hS.mono ?_
    rintro e w1 ⟨ad, cc, rfl, o2, k2⟩
    exact ⟨ad, cc, rfl, o2, ⟨k2.os, k2.tape, k2.output⟩⟩
  clear hS
  rw [decide_eq_false h0] at ea hP
  rw [decide_eq_false ha] at sa
  rw [decide_eq_true hb] at sb hP
  rw [decide_eq_false hf] at hP
  rw [decide_eq_false hf, if_neg hf] at CP
  have hr := KV a (-1) (if_neg ha) (if_pos hb)
  rw [hr] at hP
  have VX := Lib.hid fun (w1 : World) (R1 : List SP) (o1 : Own w1 R1) => VR.out ⟨a, (-1), (pf : Nat), (pl : Nat), (nt : Nat)⟩ (by show a.length ≤ _; omega) w1 R1 o1
  unfold ruV at VX
  dsimp only at VX
  rw [hA] at VX
  generalize ruOK ⟨a, (-1), (pf : Nat), (pl : Nat), (nt : Nat)⟩ = z at *
  have HV := Lib.hid hP
  have HA := Lib.hid hA
  clear hP hr KV VR hA hB hC hD ha hb hf h0
  go_enter Tryz.func28, Tryz.ntmps28
  go_wp2_with fail
  refine hS2.mono ?_
  rintro e1 w1 ⟨ad, cc, rfl, o2, k2⟩
  obtain ⟨g, rfl, hcell, hfr, hblt⟩ := o2.slc_cell (by decide)
  have s0 := hcell 0 (.string A) rfl
  have s1 := hcell 1 (.string B) rfl
  have s2 := hcell 2 (.string C) rfl
  have s3 := hcell 3 (.string D) rfl
  have o4 := o2.alloc (.cells #[.string A, .int .i64 (-1), .int .i64 0, .int .i64 0, .int .i64 0] 24)
  have k4 := calm_alloc (x := .cells #[.string A, .int .i64 (-1), .int .i64 0, .int .i64 0, .int .i64 0] 24) k2
  have o6 := o4
  have k6 := k4
  go_wp2_with fail
  refine (PC.out _ _ (o6.up 3)).mono ?_
  rintro e3 w3 ⟨rfl, o7, k7⟩
  have K7 := k6.trans k7
  generalize w1.heap.size = bx at *
  have o8 := o7.up 1
  skip
  have x0 := Own.cell (T := 24) o8 0
  have x1 := Own.cell (T := 24) o8 1
  have x2 := Own.cell (T := 24) o8 2
  have x3 := Own.cell (T := 24) o8 3
  have x4 := Own.cell (T := 24) o8 4
  have xf := Own.frozen (T := 24) o8
  have xl := Own.celLt (T := 24) o8
  obtain ⟨g'', hg'', hcell'', hfr'', hblt''⟩ := (o8.up 2).slc_cell (by decide)
  cases hg''
  have s3'' := hcell'' 3 (.string D) rfl
  have o9 := (o8.setCell 2 (.int .i64 (pf : Nat))).setCell 3 (.int .i64 (pl : Nat))
  have K9 := calm_set (x := ⟨bx, 3, none⟩) (v := .int .i64 (pl : Nat)) (calm_set (x := ⟨bx, 2, none⟩) (v := .int .i64 (pf : Nat)) K7)
  go_wp2_with fail
  refine (CP.out _).mono ?_
  rintro e4 w4 ⟨rfl, rfl⟩
  go_wp2_with fail
  refine (ND.out _ _ o9).mono ?_
  rintro e5 w5 ⟨rfl, o10, k10⟩
  have K10 := K9.trans k10
  clear x0 x1 x2 x3 x4 xf xl
  have x0 := Own.cell (T := 24) o10 0
  have x1 := Own.cell (T := 24) o10 1
  have x2 := Own.cell (T := 24) o10 2
  have x3 := Own.cell (T := 24) o10 3
  have x4 := Own.cell (T := 24) o10 4
  have xf := Own.frozen (T := 24) o10
  have xl := Own.celLt (T := 24) o10
  have o11 := o10.setCell 4 (.int .i64 (nd : Nat))
  have K11 := calm_set (x := ⟨bx, 4, none⟩) (v := .int .i64 (nd : Nat)) K10
  cases pok with
  | false =>
    have r0 := Own.cell (T := 24) (o11.up 3) 0
    have r1 := Own.cell (T := 24) (o11.up 3) 1
    have r2 := Own.cell (T := 24) (o11.up 3) 2
    have r3 := Own.cell (T := 24) (o11.up 3) 3
    have r4 := Own.cell (T := 24) (o11.up 3) 4
    have rf := Own.frozen (T := 24) (o11.up 3)
    have rl := Own.celLt (T := 24) (o11.up 3)
    go_wp2
    have oZ := ((((((o11.up 3).setCell 0 (.string ⟨#[]⟩)).setCell 1 (.int .i64 0)).setCell 2 (.int .i64 0)).setCell 3 (.int .i64 0)).setCell 4 (.int .i64 0))
    refine bodyPost_ret (v := prV (ru0, 8)) ?_ rfl ?_
    · refine res_rule (b := w.heap.size) (r := ru0) (e := 8) Tryz.results28 ?_ ?_ oZ rfl
      · rfl
      · rfl
    · exact ⟨by rw [HV.out]; rfl, (oZ.drop.drop.up 1).drop, calm_set (calm_set (calm_set (calm_set (calm_set K11))))⟩
  | true =>
    have r0 := Own.cell (T := 24) (o11.up 3) 0
    have r1 := Own.cell (T := 24) (o11.up 3) 1
    have r2 := Own.cell (T := 24) (o11.up 3) 2
    have r3 := Own.cell (T := 24) (o11.up 3) 3
    have r4 := Own.cell (T := 24) (o11.up 3) 4
    have rf := Own.frozen (T := 24) (o11.up 3)
    have rl := Own.celLt (T := 24) (o11.up 3)
    go_wp2
    have oZ := ((((((o11.up 3).setCell 0 (.string ⟨#[]⟩)).setCell 1 (.int .i64 0)).setCell 2 (.int .i64 0)).setCell 3 (.int .i64 0)).setCell 4 (.int .i64 0))
    refine bodyPost_ret (v := prV (ru0, 8)) ?_ rfl ?_
    · refine res_rule (b := w.heap.size) (r := ru0) (e := 8) Tryz.results28 ?_ ?_ oZ rfl
      · rfl
      · rfl
    · exact ⟨by rw [HV.out]; rfl, (oZ.drop.drop.up 1).drop, calm_set (calm_set (calm_set (calm_set (calm_set K11))))⟩
end
end Go.Proofs.YtbldanhjbnpdiaaGreatDoor
