/- Rules: the reference's ParseRule, some of its ways (printed by genparse2.py). -/
import Derived.Test.YtbldanhjbnpdiaaDoorRuF
namespace Go.Proofs.YtbldanhjbnpdiaaDoor
open Go.RowKit
open Go.Shelf
open SP
section
variable {W w w' : World} {R : List SP}
set_option maxHeartbeats 25600000 in
set_option maxRecDepth 100000 in
theorem refParse_short (s : ByteArray) (hs : s.size ≤ 1000000) (o : Own w R) (h4 : (spl 32 s.data.toList).length ≠ 4) :
    Calls Tryd.prog 18 #[.string s] w (Ret (prV (parseR s.data.toList)) R w) := by
  have o1 := o.alloc (.cells #[.string ⟨#[]⟩, .int .i64 0, .int .i64 0, .int .i64 0, .int .i64 0] 29)
  have hS := refWords_spec s (by omega) o1
  have hl : s.data.toList.length = s.size := (Lib.size_eq s).symm
  have hsz := spl_len 32 s.data.toList
  have HV := Lib.hid (parseR_else h4)
  obtain ⟨L, hL⟩ : ∃ L, spl 32 s.data.toList = L := ⟨_, rfl⟩
  rw [hL] at h4 hS
  have h4' : ((L.length : Int) != 4) = true := by rw [bne_iff_ne]; omega
  go_enter Tryd.func18, Tryd.ntmps18
  go_wp2_with fail
  refine hS.mono ?_
  rintro e1 w1 ⟨ad, cc, rfl, o2, k2⟩
  have o3 := o2.up 1
  have r0 := Own.cell (T := 29) o3 0
  have r1 := Own.cell (T := 29) o3 1
  have r2 := Own.cell (T := 29) o3 2
  have r3 := Own.cell (T := 29) o3 3
  have r4 := Own.cell (T := 29) o3 4
  have rf := Own.frozen (T := 29) o3
  have rl := Own.celLt (T := 29) o3
  go_wp2
  have oZ := (((((o3.setCell 0 (.string ⟨#[]⟩)).setCell 1 (.int .i64 0)).setCell 2 (.int .i64 0)).setCell 3 (.int .i64 0)).setCell 4 (.int .i64 0))
  refine bodyPost_ret (v := prV (ru0, 8)) ?_ rfl ?_
  · refine res_rule (b := w.heap.size) (r := ru0) (e := 8) Tryd.results18 ?_ ?_ oZ rfl
    · rfl
    · rfl
  · exact ⟨by rw [HV.out], oZ.drop.drop, calm_set (calm_set (calm_set (calm_set (calm_set k2.al))))⟩
set_option maxHeartbeats 25600000 in
set_option maxRecDepth 100000 in
theorem refParse_a (s : ByteArray) (hs : s.size ≤ 1000000) (o : Own w R) (a b c d : List UInt8) (hL : spl 32 s.data.toList = [a, b, c, d]) (h0 : a = []) :
    Calls Tryd.prog 18 #[.string s] w (Ret (prV (parseR s.data.toList)) R w) := by
  have o1 := o.alloc (.cells #[.string ⟨#[]⟩, .int .i64 0, .int .i64 0, .int .i64 0, .int .i64 0] 29)
  have hS := refWords_spec s (by omega) o1
  have hl : s.data.toList.length = s.size := (Lib.size_eq s).symm
  have hsz := spl_len 32 s.data.toList
  rw [hL] at hS hsz
  have za := hsz a (by simp)
  have zb := hsz b (by simp)
  have zc := hsz c (by simp)
  have zd := hsz d (by simp)
  have hP := parseR_words hL
  clear hL hsz
  have ea := emptyB (mkB a)
  have ed := emptyB (mkB d)
  have sa := litB (mkB a) [42]
  have sb := litB (mkB b) [42]
  rw [mkB_data] at ea sa sb ed
  have hW : wordsOK a b c d = (!decide (a = []) && (decide (b = [42]) || numOK 5 b) && portOK c && decide (d.head? = some 62) && numOK 5 d.tail) := rfl
  rw [hW] at hP
  clear hW
  rw [decide_eq_true h0] at ea hP
  have HV := Lib.hid hP
  obtain ⟨A, hA⟩ : ∃ A, mkB a = A := ⟨_, rfl⟩
  obtain ⟨B, hB⟩ : ∃ A, mkB b = A := ⟨_, rfl⟩
  obtain ⟨C, hC⟩ : ∃ A, mkB c = A := ⟨_, rfl⟩
  obtain ⟨D, hD⟩ : ∃ A, mkB d = A := ⟨_, rfl⟩
  have hS2 : Calls Tryd.prog 27 #[.string s] (w.alloc (.cells #[.string ⟨#[]⟩, .int .i64 0, .int .i64 0, .int .i64 0, .int .i64 0] 29)) fun e w1 => ∃ ad cc, e = .returned (.slice ad 4 cc) ∧ Own w1 (slc 9 1 ad 4 cc [.string A, .string B, .string C, .string D] :: cel w.heap.size 29 [.string ⟨#[]⟩, .int .i64 0, .int .i64 0, .int .i64 0, .int .i64 0] :: R) ∧ Calm w w1 := by
    subst hA hB hC hD
    refine hS.mono ?_
    rintro e w1 ⟨ad, cc, rfl, o2, k2⟩
    exact ⟨ad, cc, rfl, o2, ⟨k2.os, k2.tape, k2.output⟩⟩
  clear hS
  rw [hA] at ea
  clear hP sa sb ed h0 hA hB hC hD
  go_enter Tryd.func18, Tryd.ntmps18
  go_wp2_with fail
  refine hS2.mono ?_
  rintro e1 w1 ⟨ad, cc, rfl, o2, k2⟩
  obtain ⟨g, rfl, hcell, hfr, hblt⟩ := o2.slc_cell (by decide)
  have s0 := hcell 0 (.string A) rfl
  have o3 := o2.up 1
  have r0 := Own.cell (T := 29) o3 0
  have r1 := Own.cell (T := 29) o3 1
  have r2 := Own.cell (T := 29) o3 2
  have r3 := Own.cell (T := 29) o3 3
  have r4 := Own.cell (T := 29) o3 4
  have rf := Own.frozen (T := 29) o3
  have rl := Own.celLt (T := 29) o3
  go_wp2
  have oZ := (((((o3.setCell 0 (.string ⟨#[]⟩)).setCell 1 (.int .i64 0)).setCell 2 (.int .i64 0)).setCell 3 (.int .i64 0)).setCell 4 (.int .i64 0))
  refine bodyPost_ret (v := prV (ru0, 8)) ?_ rfl ?_
  · refine res_rule (b := w.heap.size) (r := ru0) (e := 8) Tryd.results18 ?_ ?_ oZ rfl
    · rfl
    · rfl
  · exact ⟨by rw [HV.out]; rfl, oZ.drop.drop, calm_set (calm_set (calm_set (calm_set (calm_set k2))))⟩
set_option maxHeartbeats 25600000 in
set_option maxRecDepth 100000 in
theorem refParse_d (s : ByteArray) (hs : s.size ≤ 1000000) (o : Own w R) (a b c d : List UInt8) (hL : spl 32 s.data.toList = [a, b, c, d]) (h0 : a ≠ []) (h1 : d = []) :
    Calls Tryd.prog 18 #[.string s] w (Ret (prV (parseR s.data.toList)) R w) := by
  have o1 := o.alloc (.cells #[.string ⟨#[]⟩, .int .i64 0, .int .i64 0, .int .i64 0, .int .i64 0] 29)
  have hS := refWords_spec s (by omega) o1
  have hl : s.data.toList.length = s.size := (Lib.size_eq s).symm
  have hsz := spl_len 32 s.data.toList
  rw [hL] at hS hsz
  have za := hsz a (by simp)
  have zb := hsz b (by simp)
  have zc := hsz c (by simp)
  have zd := hsz d (by simp)
  have hP := parseR_words hL
  clear hL hsz
  have ea := emptyB (mkB a)
  have ed := emptyB (mkB d)
  have sa := litB (mkB a) [42]
  have sb := litB (mkB b) [42]
  rw [mkB_data] at ea sa sb ed
  have hW : wordsOK a b c d = (!decide (a = []) && (decide (b = [42]) || numOK 5 b) && portOK c && decide (d.head? = some 62) && numOK 5 d.tail) := rfl
  rw [hW] at hP
  clear hW
  rw [decide_eq_true h1] at ed
  rw [decide_eq_false h0] at ea
  have hdd : decide (d.head? = some 62) = false := by subst h1; rfl
  rw [hdd] at hP
  have HV := Lib.hid (show parseR s.data.toList = (ru0, 8) by rw [hP]; simp)
  obtain ⟨A, hA⟩ : ∃ A, mkB a = A := ⟨_, rfl⟩
  obtain ⟨B, hB⟩ : ∃ A, mkB b = A := ⟨_, rfl⟩
  obtain ⟨C, hC⟩ : ∃ A, mkB c = A := ⟨_, rfl⟩
  obtain ⟨D, hD⟩ : ∃ A, mkB d = A := ⟨_, rfl⟩
  have hS2 : Calls Tryd.prog 27 #[.string s] (w.alloc (.cells #[.string ⟨#[]⟩, .int .i64 0, .int .i64 0, .int .i64 0, .int .i64 0] 29)) fun e w1 => ∃ ad cc, e = .returned (.slice ad 4 cc) ∧ Own w1 (slc 9 1 ad 4 cc [.string A, .string B, .string C, .string D] :: cel w.heap.size 29 [.string ⟨#[]⟩, .int .i64 0, .int .i64 0, .int .i64 0, .int .i64 0] :: R) ∧ Calm w w1 := by
    subst hA hB hC hD
    refine hS.mono ?_
    rintro e w1 ⟨ad, cc, rfl, o2, k2⟩
    exact ⟨ad, cc, rfl, o2, ⟨k2.os, k2.tape, k2.output⟩⟩
  clear hS
  rw [hA] at ea
  rw [hD] at ed
  clear hP sa sb h0 h1 hdd hA hB hC hD
  go_enter Tryd.func18, Tryd.ntmps18
  go_wp2_with fail
  refine hS2.mono ?_
  rintro e1 w1 ⟨ad, cc, rfl, o2, k2⟩
  obtain ⟨g, rfl, hcell, hfr, hblt⟩ := o2.slc_cell (by decide)
  have s0 := hcell 0 (.string A) rfl
  have s3 := hcell 3 (.string D) rfl
  have o3 := o2.up 1
  have r0 := Own.cell (T := 29) o3 0
  have r1 := Own.cell (T := 29) o3 1
  have r2 := Own.cell (T := 29) o3 2
  have r3 := Own.cell (T := 29) o3 3
  have r4 := Own.cell (T := 29) o3 4
  have rf := Own.frozen (T := 29) o3
  have rl := Own.celLt (T := 29) o3
  go_wp2
  have oZ := (((((o3.setCell 0 (.string ⟨#[]⟩)).setCell 1 (.int .i64 0)).setCell 2 (.int .i64 0)).setCell 3 (.int .i64 0)).setCell 4 (.int .i64 0))
  refine bodyPost_ret (v := prV (ru0, 8)) ?_ rfl ?_
  · refine res_rule (b := w.heap.size) (r := ru0) (e := 8) Tryd.results18 ?_ ?_ oZ rfl
    · rfl
    · rfl
  · exact ⟨by rw [HV.out], oZ.drop.drop, calm_set (calm_set (calm_set (calm_set (calm_set k2))))⟩
set_option maxHeartbeats 25600000 in
set_option maxRecDepth 100000 in
theorem refParse_x (s : ByteArray) (hs : s.size ≤ 1000000) (o : Own w R) (a b c d : List UInt8) (hL : spl 32 s.data.toList = [a, b, c, d]) (h0 : a ≠ []) (h1 : d ≠ []) (hf : ¬ d.head? = some 62) :
    Calls Tryd.prog 18 #[.string s] w (Ret (prV (parseR s.data.toList)) R w) := by
  have o1 := o.alloc (.cells #[.string ⟨#[]⟩, .int .i64 0, .int .i64 0, .int .i64 0, .int .i64 0] 29)
  have hS := refWords_spec s (by omega) o1
  have hl : s.data.toList.length = s.size := (Lib.size_eq s).symm
  have hsz := spl_len 32 s.data.toList
  rw [hL] at hS hsz
  have za := hsz a (by simp)
  have zb := hsz b (by simp)
  have zc := hsz c (by simp)
  have zd := hsz d (by simp)
  have hP := parseR_words hL
  clear hL hsz
  have ea := emptyB (mkB a)
  have ed := emptyB (mkB d)
  have sa := litB (mkB a) [42]
  have sb := litB (mkB b) [42]
  rw [mkB_data] at ea sa sb ed
  have hW : wordsOK a b c d = (!decide (a = []) && (decide (b = [42]) || numOK 5 b) && portOK c && decide (d.head? = some 62) && numOK 5 d.tail) := rfl
  rw [hW] at hP
  clear hW
  rw [decide_eq_false h1] at ed
  rw [decide_eq_false h0] at ea
  rw [decide_eq_false hf] at hP
  have HV := Lib.hid (show parseR s.data.toList = (ru0, 8) by rw [hP]; simp)
  have hz : 0 < (mkB d).size := by rw [mkB_size]; exact List.length_pos_iff.2 h1
  have g0 := getB (mkB d) 0 hz
  rw [mkB_data, ← List.head?_eq_getElem?] at g0
  have e62 : ((((mkB d)[0]'hz).toNat : Nat) : Int) ≠ 62 := fun e => hf (by rw [g0]; exact congrArg some (UInt8.toNat_inj.1 (by show _ = 62; omega)))
  have e62b : (((((mkB d)[0]'hz).toNat : Nat) : Int) != 62) = true := bne_iff_ne.2 e62
  clear g0
  obtain ⟨A, hA⟩ : ∃ A, mkB a = A := ⟨_, rfl⟩
  obtain ⟨B, hB⟩ : ∃ A, mkB b = A := ⟨_, rfl⟩
  obtain ⟨C, hC⟩ : ∃ A, mkB c = A := ⟨_, rfl⟩
  obtain ⟨D, hD⟩ : ∃ A, mkB d = A := ⟨_, rfl⟩
  have hS2 : Calls Tryd.prog 27 #[.string s] (w.alloc (.cells #[.string ⟨#[]⟩, .int .i64 0, .int .i64 0, .int .i64 0, .int .i64 0] 29)) fun e w1 => ∃ ad cc, e = .returned (.slice ad 4 cc) ∧ Own w1 (slc 9 1 ad 4 cc [.string A, .string B, .string C, .string D] :: cel w.heap.size 29 [.string ⟨#[]⟩, .int .i64 0, .int .i64 0, .int .i64 0, .int .i64 0] :: R) ∧ Calm w w1 := by
    subst hA hB hC hD
    refine hS.mono ?_
    rintro e w1 ⟨ad, cc, rfl, o2, k2⟩
    exact ⟨ad, cc, rfl, o2, ⟨k2.os, k2.tape, k2.output⟩⟩
  clear hS
  rw [hA] at ea
  rw [hD] at ed
  clear hP sa sb h0 h1 hf hA hB hC
  subst hD
  go_enter Tryd.func18, Tryd.ntmps18
  go_wp2_with fail
  refine hS2.mono ?_
  rintro e1 w1 ⟨ad, cc, rfl, o2, k2⟩
  obtain ⟨g, rfl, hcell, hfr, hblt⟩ := o2.slc_cell (by decide)
  have s0 := hcell 0 (.string A) rfl
  have s3 := hcell 3 (.string (mkB d)) rfl
  have o3 := o2.up 1
  have r0 := Own.cell (T := 29) o3 0
  have r1 := Own.cell (T := 29) o3 1
  have r2 := Own.cell (T := 29) o3 2
  have r3 := Own.cell (T := 29) o3 3
  have r4 := Own.cell (T := 29) o3 4
  have rf := Own.frozen (T := 29) o3
  have rl := Own.celLt (T := 29) o3
  go_wp2
  have oZ := (((((o3.setCell 0 (.string ⟨#[]⟩)).setCell 1 (.int .i64 0)).setCell 2 (.int .i64 0)).setCell 3 (.int .i64 0)).setCell 4 (.int .i64 0))
  refine bodyPost_ret (v := prV (ru0, 8)) ?_ rfl ?_
  · refine res_rule (b := w.heap.size) (r := ru0) (e := 8) Tryd.results18 ?_ ?_ oZ rfl
    · rfl
    · rfl
  · exact ⟨by rw [HV.out], oZ.drop.drop, calm_set (calm_set (calm_set (calm_set (calm_set k2))))⟩
end
end Go.Proofs.YtbldanhjbnpdiaaDoor
