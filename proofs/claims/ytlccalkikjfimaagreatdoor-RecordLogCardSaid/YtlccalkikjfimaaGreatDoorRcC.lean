/- Records: word; the reference's Format, the program's Format. -/
import Derived.Test.YtlccalkikjfimaaGreatDoorRcB
import Derived.Test.YtlccalkikjfimaaGreatDoorDrawV
import Derived.Deep.DeepCutAuto
import Derived.Deep.CutBlock
namespace Go.Proofs.YtlccalkikjfimaaGreatDoor
open Go.RowKit
open Go.Shelf
open SP
section
variable {W w w' : World} {R : List SP}
set_option maxHeartbeats 1600000 in
theorem word_spec (k : Int) (h1 : 1 ≤ k) (h2 : k ≤ 10) (o : Own w R) : Calls Tryz.prog 21 #[.int .i64 k] w (Ret (.string (mkB (wordOf k))) R w) := by
  obtain ⟨j, hj, rfl⟩ : ∃ j : Nat, j < 10 ∧ k = (j : Int) + 1 := ⟨(k - 1).toNat, by omega, by omega⟩
  have hw : IntKind.i64.wrap ((j : Int) + 1 - 1) = (j : Int) := by rw [IntKind.wrap_i64]; omega
  have o1 := o.alloc (.cells (wordList.map fun l => Value.string (mkB l)).toArray 9)
  have hl : (wordList.map fun l => Value.string (mkB l))[j]? = some (.string (mkB (wordOf ((j : Int) + 1)))) := by
    have hlen : j < wordList.length := hj
    rw [List.getElem?_map, List.getElem?_eq_getElem hlen]
    unfold wordOf
    rw [show ((j : Int) + 1 - 1).toNat = j from by omega, List.getD_eq_getElem?_getD, List.getElem?_eq_getElem hlen]; rfl
  have c := Own.cell (T := 9) (vs := wordList.map fun l => Value.string (mkB l)) o1 j hl
  have o2 := o1.drop
  generalize mkB (wordOf ((j : Int) + 1)) = z at *
  have HL := Lib.hid hl
  clear hl o1 c
  go_enter Tryz.func21, Tryz.ntmps21
  go_wp2
  go_ret
  exact ⟨congrArg Ending.returned (List.getElem?_eq_some_iff.1 HL.out).2, o2, ⟨rfl, rfl, rfl⟩⟩
theorem wordOf_len (k : Int) : (wordOf k).length ≤ 10 := by
  unfold wordOf
  rw [List.getD_eq_getElem?_getD]
  cases h : wordList[(k - 1).toNat]? with
  | none => simp
  | some l =>
    have : ∀ l ∈ wordList, l.length ≤ 10 := by decide
    exact this l (List.mem_of_getElem? h)
theorem line_eq (r : Rec) : mkB (Lib.itoa r.slot) ++ mkB [32] ++ mkB (wordOf r.kind) ++ mkB [32] ++ mkB (Lib.itoa r.flow) ++ mkB [32] ++ mkB (Lib.itoa r.packet) ++ mkB [32] ++ mkB (Lib.itoa r.why) ++ mkB [32] ++ mkB (Lib.itoa r.value) = mkB (lineOf r) := by
  simp only [mkB_append]
  unfold lineOf
  simp [List.append_assoc]
set_option maxHeartbeats 6400000 in
set_option maxRecDepth 100000 in
theorem refFormat_spec (r : Rec) (o : Own w R) : Calls Tryz.prog 11 #[recV r] w (Ret (.tuple #[.string (mkB (fmtS r)), .int .i64 (fmtE r)]) R w) := by
  have o1 := o.alloc (.cells (recC r).toArray 39)
  have hv := refValidRec_spec r o1
  unfold fmtS fmtE
  by_cases hok : RecOk r
  · rw [if_pos hok, if_pos hok]
    rw [decide_eq_true hok] at hv
    have hd1 : ∀ W : World, Calls Tryz.prog 20 #[.int .i64 r.slot] W (IsRet (.string (mkB (Lib.itoa r.slot))) W) := fun W => decimal_spec _ (by have := hok.slot; omega) (by have := hok.slot; omega)
    have hd3 : ∀ W : World, Calls Tryz.prog 20 #[.int .i64 r.flow] W (IsRet (.string (mkB (Lib.itoa r.flow))) W) := fun W => decimal_spec _ (by have := hok.flow; omega) (by have := hok.flow; omega)
    have hd4 : ∀ W : World, Calls Tryz.prog 20 #[.int .i64 r.packet] W (IsRet (.string (mkB (Lib.itoa r.packet))) W) := fun W => decimal_spec _ (by have := hok.packet; omega) (by have := hok.packet; omega)
    have hd5 : ∀ W : World, Calls Tryz.prog 20 #[.int .i64 r.why] W (IsRet (.string (mkB (Lib.itoa r.why))) W) := fun W => decimal_spec _ (by have := hok.why; omega) (by have := hok.why; omega)
    have hd6 : ∀ W : World, Calls Tryz.prog 20 #[.int .i64 r.value] W (IsRet (.string (mkB (Lib.itoa r.value))) W) := fun W => decimal_spec _ (by have := hok.value; omega) (by have := hok.value; omega)
    have hw2 : ∀ (W : World) (R : List SP) (o : Own W R), Calls Tryz.prog 21 #[.int .i64 r.kind] W (Ret (.string (mkB (wordOf r.kind))) R W) := fun W R o => word_spec _ hok.kind.1 hok.kind.2 o
    have hl := line_eq r
    have z1 : (mkB (Lib.itoa r.slot)).size ≤ 20 := itoa_len (by have := hok.slot; omega) (by have := hok.slot; omega)
    have z2 : (mkB (wordOf r.kind)).size ≤ 10 := wordOf_len _
    have z3 : (mkB (Lib.itoa r.flow)).size ≤ 20 := itoa_len (by have := hok.flow; omega) (by have := hok.flow; omega)
    have z4 : (mkB (Lib.itoa r.packet)).size ≤ 20 := itoa_len (by have := hok.packet; omega) (by have := hok.packet; omega)
    have z5 : (mkB (Lib.itoa r.why)).size ≤ 20 := itoa_len (by have := hok.why; omega) (by have := hok.why; omega)
    have z6 : (mkB (Lib.itoa r.value)).size ≤ 20 := itoa_len (by have := hok.value; omega) (by have := hok.value; omega)
    clear hok
    generalize mkB (lineOf r) = out at *
    generalize mkB (Lib.itoa r.slot) = a1 at *
    generalize mkB (wordOf r.kind) = a2 at *
    generalize mkB (Lib.itoa r.flow) = a3 at *
    generalize mkB (Lib.itoa r.packet) = a4 at *
    generalize mkB (Lib.itoa r.why) = a5 at *
    generalize mkB (Lib.itoa r.value) = a6 at *
    have HL := Lib.hid hl
    have H1 := Lib.hid hd1
    have H2 := Lib.hid hw2
    have H3 := Lib.hid hd3
    have H4 := Lib.hid hd4
    have H5 := Lib.hid hd5
    have H6 := Lib.hid hd6
    obtain ⟨s, k, f, p, y, u⟩ := r
    dsimp only at H1 H2 H3 H4 H5 H6
    unfold recV at hv ⊢
    dsimp only at hv ⊢
    clear hl hd1 hw2 hd3 hd4 hd5 hd6
    unfold recC at o1
    go_enter Tryz.func11, Tryz.ntmps11
    go_wp2_with fail
    refine hv.mono ?_
    rintro e1 w1 ⟨rfl, o2, k2⟩
    generalize w.heap.size = bx at *
    clear hv o1
    go_wp2
    refine wp_region_draws (fun L v wc => Own wc (cel bx 39 [.int .i64 s, .int .i64 k, .int .i64 f, .int .i64 p, .int .i64 y, .int .i64 u] :: R) ∧ Calm w wc ∧ Vals (fun i => ([.pointer (some ⟨bx, 0, none⟩), .int .i64 s, .string (a1), .string (a1 ++ (⟨#[32]⟩ : ByteArray)), .pointer (some ⟨bx, 1, none⟩), .int .i64 k, .string (a2), .string (a1 ++ (⟨#[32]⟩ : ByteArray) ++ a2), .string (a1 ++ (⟨#[32]⟩ : ByteArray) ++ a2 ++ (⟨#[32]⟩ : ByteArray)), .pointer (some ⟨bx, 2, none⟩), .int .i64 f, .string (a3), .string (a1 ++ (⟨#[32]⟩ : ByteArray) ++ a2 ++ (⟨#[32]⟩ : ByteArray) ++ a3), .string (a1 ++ (⟨#[32]⟩ : ByteArray) ++ a2 ++ (⟨#[32]⟩ : ByteArray) ++ a3 ++ (⟨#[32]⟩ : ByteArray)), .pointer (some ⟨bx, 3, none⟩), .int .i64 p, .string (a4), .string (a1 ++ (⟨#[32]⟩ : ByteArray) ++ a2 ++ (⟨#[32]⟩ : ByteArray) ++ a3 ++ (⟨#[32]⟩ : ByteArray) ++ a4), .string (a1 ++ (⟨#[32]⟩ : ByteArray) ++ a2 ++ (⟨#[32]⟩ : ByteArray) ++ a3 ++ (⟨#[32]⟩ : ByteArray) ++ a4 ++ (⟨#[32]⟩ : ByteArray)), .pointer (some ⟨bx, 4, none⟩), .int .i64 y, .string (a5), .string (a1 ++ (⟨#[32]⟩ : ByteArray) ++ a2 ++ (⟨#[32]⟩ : ByteArray) ++ a3 ++ (⟨#[32]⟩ : ByteArray) ++ a4 ++ (⟨#[32]⟩ : ByteArray) ++ a5), .string (a1 ++ (⟨#[32]⟩ : ByteArray) ++ a2 ++ (⟨#[32]⟩ : ByteArray) ++ a3 ++ (⟨#[32]⟩ : ByteArray) ++ a4 ++ (⟨#[32]⟩ : ByteArray) ++ a5 ++ (⟨#[32]⟩ : ByteArray)), .pointer (some ⟨bx, 5, none⟩), .int .i64 u, .string (a6), .string (a1 ++ (⟨#[32]⟩ : ByteArray) ++ a2 ++ (⟨#[32]⟩ : ByteArray) ++ a3 ++ (⟨#[32]⟩ : ByteArray) ++ a4 ++ (⟨#[32]⟩ : ByteArray) ++ a5 ++ (⟨#[32]⟩ : ByteArray) ++ a6), .string (a1 ++ (⟨#[32]⟩ : ByteArray) ++ a2 ++ (⟨#[32]⟩ : ByteArray) ++ a3 ++ (⟨#[32]⟩ : ByteArray) ++ a4 ++ (⟨#[32]⟩ : ByteArray) ++ a5 ++ (⟨#[32]⟩ : ByteArray) ++ a6), .int .i64 0] : List Value).getD i undef) L v) (by kernel_rfl) (by kernel_rfl) (by kernel_rfl) ?h0 ?step ?fin
    case h0 => exact ⟨o2.drew, ⟨k2.al.os, k2.al.tape, k2.al.output⟩, Vals.no⟩
    case step =>
      refine ⟨DrawStep.mk rfl ?_, DrawStep.mk rfl ?_, DrawStep.mk rfl ?_, DrawStep.mk rfl ?_, DrawStep.mk rfl ?_, DrawStep.mk rfl ?_, DrawStep.mk rfl ?_, DrawStep.mk rfl ?_, DrawStep.mk rfl ?_, DrawStep.mk rfl ?_, DrawStep.mk rfl ?_, DrawStep.mk rfl ?_, DrawStep.mk rfl ?_, DrawStep.mk rfl ?_, DrawStep.mk rfl ?_, DrawStep.mk rfl ?_, DrawStep.mk rfl ?_, DrawStep.mk rfl ?_, DrawStep.mk rfl ?_, DrawStep.mk rfl ?_, DrawStep.mk rfl ?_, DrawStep.mk rfl ?_, DrawStep.mk rfl ?_, DrawStep.mk rfl ?_, DrawStep.mk rfl ?_, DrawStep.mk rfl ?_, DrawStep.mk rfl ?_, DrawStep.mk rfl ?_, DrawStep.mk rfl ?_, DrawStep.mk rfl ?_, trivial⟩
      all_goals intro L v ac wc hL hd hA hI K' hK
      all_goals obtain ⟨oD, kD, hv⟩ := hI
      all_goals simp [Region.binds] at hd
      all_goals have HV := Lib.hid hv
      all_goals clear hv
      · have c1 := hA.base 1 (by rfl)
        simp only [List.getElem?_toArray, List.getElem?_cons_zero, List.getElem?_cons_succ, Option.getD_some] at c1
        go_simp
        exact hK.out (.pointer (some ⟨bx, 0, none⟩)) _ ⟨oD, kD, HV.out.put 0 rfl⟩
      · have h0 : L 0 = true := by simp [hd]
        have c7 : ac.tmps[7]?.getD undef = .pointer (some ⟨bx, 0, none⟩) := (hA.get 0 h0).trans (HV.out 0 h0)
        have cc := oD.cell 0
        go_simp
        exact hK.out (.int .i64 s) _ ⟨oD, kD, HV.out.put 1 rfl⟩
      · have h1 : L 1 = true := by simp [hd]
        have c8 : ac.tmps[8]?.getD undef = .int .i64 s := (hA.get 1 h1).trans (HV.out 1 h1)
        go_simp
        refine (H1.out _).mono ?_
        rintro _ _ ⟨rfl, rfl⟩
        exact hK.out (.string (a1)) _ ⟨oD, kD, HV.out.put 2 rfl⟩
      · have h2 : L 2 = true := by simp [hd]
        have c9 : ac.tmps[9]?.getD undef = .string (a1) := (hA.get 2 h2).trans (HV.out 2 h2)
        go_simp
        rw [if_neg (by omega)]
        go_simp
        exact hK.out (.string (a1 ++ (⟨#[32]⟩ : ByteArray))) _ ⟨oD, kD, HV.out.put 3 rfl⟩
      · have c1 := hA.base 1 (by rfl)
        simp only [List.getElem?_toArray, List.getElem?_cons_zero, List.getElem?_cons_succ, Option.getD_some] at c1
        go_simp
        exact hK.out (.pointer (some ⟨bx, 1, none⟩)) _ ⟨oD, kD, HV.out.put 4 rfl⟩
      · have h4 : L 4 = true := by simp [hd]
        have c11 : ac.tmps[11]?.getD undef = .pointer (some ⟨bx, 1, none⟩) := (hA.get 4 h4).trans (HV.out 4 h4)
        have cc := oD.cell 1
        go_simp
        exact hK.out (.int .i64 k) _ ⟨oD, kD, HV.out.put 5 rfl⟩
      · have h5 : L 5 = true := by simp [hd]
        have c12 : ac.tmps[12]?.getD undef = .int .i64 k := (hA.get 5 h5).trans (HV.out 5 h5)
        go_simp
        refine (H2.out _ _ oD).mono ?_
        rintro _ w3 ⟨rfl, o3, k3⟩
        exact hK.out (.string (a2)) _ ⟨o3, kD.trans k3, HV.out.put 6 rfl⟩
      · have h3 : L 3 = true := by simp [hd]
        have c10 : ac.tmps[10]?.getD undef = .string (a1 ++ (⟨#[32]⟩ : ByteArray)) := (hA.get 3 h3).trans (HV.out 3 h3)
        have h6 : L 6 = true := by simp [hd]
        have c13 : ac.tmps[13]?.getD undef = .string (a2) := (hA.get 6 h6).trans (HV.out 6 h6)
        go_simp
        rw [if_neg (by omega)]
        go_simp
        exact hK.out (.string (a1 ++ (⟨#[32]⟩ : ByteArray) ++ a2)) _ ⟨oD, kD, HV.out.put 7 rfl⟩
      · have h7 : L 7 = true := by simp [hd]
        have c14 : ac.tmps[14]?.getD undef = .string (a1 ++ (⟨#[32]⟩ : ByteArray) ++ a2) := (hA.get 7 h7).trans (HV.out 7 h7)
        go_simp
        rw [if_neg (by omega)]
        go_simp
        exact hK.out (.string (a1 ++ (⟨#[32]⟩ : ByteArray) ++ a2 ++ (⟨#[32]⟩ : ByteArray))) _ ⟨oD, kD, HV.out.put 8 rfl⟩
      · have c1 := hA.base 1 (by rfl)
        simp only [List.getElem?_toArray, List.getElem?_cons_zero, List.getElem?_cons_succ, Option.getD_some] at c1
        go_simp
        exact hK.out (.pointer (some ⟨bx, 2, none⟩)) _ ⟨oD, kD, HV.out.put 9 rfl⟩
      · have h9 : L 9 = true := by simp [hd]
        have c16 : ac.tmps[16]?.getD undef = .pointer (some ⟨bx, 2, none⟩) := (hA.get 9 h9).trans (HV.out 9 h9)
        have cc := oD.cell 2
        go_simp
        exact hK.out (.int .i64 f) _ ⟨oD, kD, HV.out.put 10 rfl⟩
      · have h10 : L 10 = true := by simp [hd]
        have c17 : ac.tmps[17]?.getD undef = .int .i64 f := (hA.get 10 h10).trans (HV.out 10 h10)
        go_simp
        refine (H3.out _).mono ?_
        rintro _ _ ⟨rfl, rfl⟩
        exact hK.out (.string (a3)) _ ⟨oD, kD, HV.out.put 11 rfl⟩
      · have h8 : L 8 = true := by simp [hd]
        have c15 : ac.tmps[15]?.getD undef = .string (a1 ++ (⟨#[32]⟩ : ByteArray) ++ a2 ++ (⟨#[32]⟩ : ByteArray)) := (hA.get 8 h8).trans (HV.out 8 h8)
        have h11 : L 11 = true := by simp [hd]
        have c18 : ac.tmps[18]?.getD undef = .string (a3) := (hA.get 11 h11).trans (HV.out 11 h11)
        go_simp
        rw [if_neg (by omega)]
        go_simp
        exact hK.out (.string (a1 ++ (⟨#[32]⟩ : ByteArray) ++ a2 ++ (⟨#[32]⟩ : ByteArray) ++ a3)) _ ⟨oD, kD, HV.out.put 12 rfl⟩
      · have h12 : L 12 = true := by simp [hd]
        have c19 : ac.tmps[19]?.getD undef = .string (a1 ++ (⟨#[32]⟩ : ByteArray) ++ a2 ++ (⟨#[32]⟩ : ByteArray) ++ a3) := (hA.get 12 h12).trans (HV.out 12 h12)
        go_simp
        rw [if_neg (by omega)]
        go_simp
        exact hK.out (.string (a1 ++ (⟨#[32]⟩ : ByteArray) ++ a2 ++ (⟨#[32]⟩ : ByteArray) ++ a3 ++ (⟨#[32]⟩ : ByteArray))) _ ⟨oD, kD, HV.out.put 13 rfl⟩
      · have c1 := hA.base 1 (by rfl)
        simp only [List.getElem?_toArray, List.getElem?_cons_zero, List.getElem?_cons_succ, Option.getD_some] at c1
        go_simp
        exact hK.out (.pointer (some ⟨bx, 3, none⟩)) _ ⟨oD, kD, HV.out.put 14 rfl⟩
      · have h14 : L 14 = true := by simp [hd]
        have c21 : ac.tmps[21]?.getD undef = .pointer (some ⟨bx, 3, none⟩) := (hA.get 14 h14).trans (HV.out 14 h14)
        have cc := oD.cell 3
        go_simp
        exact hK.out (.int .i64 p) _ ⟨oD, kD, HV.out.put 15 rfl⟩
      · have h15 : L 15 = true := by simp [hd]
        have c22 : ac.tmps[22]?.getD undef = .int .i64 p := (hA.get 15 h15).trans (HV.out 15 h15)
        go_simp
        refine (H4.out _).mono ?_
        rintro _ _ ⟨rfl, rfl⟩
        exact hK.out (.string (a4)) _ ⟨oD, kD, HV.out.put 16 rfl⟩
      · have h13 : L 13 = true := by simp [hd]
        have c20 : ac.tmps[20]?.getD undef = .string (a1 ++ (⟨#[32]⟩ : ByteArray) ++ a2 ++ (⟨#[32]⟩ : ByteArray) ++ a3 ++ (⟨#[32]⟩ : ByteArray)) := (hA.get 13 h13).trans (HV.out 13 h13)
        have h16 : L 16 = true := by simp [hd]
        have c23 : ac.tmps[23]?.getD undef = .string (a4) := (hA.get 16 h16).trans (HV.out 16 h16)
        go_simp
        rw [if_neg (by omega)]
        go_simp
        exact hK.out (.string (a1 ++ (⟨#[32]⟩ : ByteArray) ++ a2 ++ (⟨#[32]⟩ : ByteArray) ++ a3 ++ (⟨#[32]⟩ : ByteArray) ++ a4)) _ ⟨oD, kD, HV.out.put 17 rfl⟩
      · have h17 : L 17 = true := by simp [hd]
        have c24 : ac.tmps[24]?.getD undef = .string (a1 ++ (⟨#[32]⟩ : ByteArray) ++ a2 ++ (⟨#[32]⟩ : ByteArray) ++ a3 ++ (⟨#[32]⟩ : ByteArray) ++ a4) := (hA.get 17 h17).trans (HV.out 17 h17)
        go_simp
        rw [if_neg (by omega)]
        go_simp
        exact hK.out (.string (a1 ++ (⟨#[32]⟩ : ByteArray) ++ a2 ++ (⟨#[32]⟩ : ByteArray) ++ a3 ++ (⟨#[32]⟩ : ByteArray) ++ a4 ++ (⟨#[32]⟩ : ByteArray))) _ ⟨oD, kD, HV.out.put 18 rfl⟩
      · have c1 := hA.base 1 (by rfl)
        simp only [List.getElem?_toArray, List.getElem?_cons_zero, List.getElem?_cons_succ, Option.getD_some] at c1
        go_simp
        exact hK.out (.pointer (some ⟨bx, 4, none⟩)) _ ⟨oD, kD, HV.out.put 19 rfl⟩
      · have h19 : L 19 = true := by simp [hd]
        have c26 : ac.tmps[26]?.getD undef = .pointer (some ⟨bx, 4, none⟩) := (hA.get 19 h19).trans (HV.out 19 h19)
        have cc := oD.cell 4
        go_simp
        exact hK.out (.int .i64 y) _ ⟨oD, kD, HV.out.put 20 rfl⟩
      · have h20 : L 20 = true := by simp [hd]
        have c27 : ac.tmps[27]?.getD undef = .int .i64 y := (hA.get 20 h20).trans (HV.out 20 h20)
        go_simp
        refine (H5.out _).mono ?_
        rintro _ _ ⟨rfl, rfl⟩
        exact hK.out (.string (a5)) _ ⟨oD, kD, HV.out.put 21 rfl⟩
      · have h18 : L 18 = true := by simp [hd]
        have c25 : ac.tmps[25]?.getD undef = .string (a1 ++ (⟨#[32]⟩ : ByteArray) ++ a2 ++ (⟨#[32]⟩ : ByteArray) ++ a3 ++ (⟨#[32]⟩ : ByteArray) ++ a4 ++ (⟨#[32]⟩ : ByteArray)) := (hA.get 18 h18).trans (HV.out 18 h18)
        have h21 : L 21 = true := by simp [hd]
        have c28 : ac.tmps[28]?.getD undef = .string (a5) := (hA.get 21 h21).trans (HV.out 21 h21)
        go_simp
        rw [if_neg (by omega)]
        go_simp
        exact hK.out (.string (a1 ++ (⟨#[32]⟩ : ByteArray) ++ a2 ++ (⟨#[32]⟩ : ByteArray) ++ a3 ++ (⟨#[32]⟩ : ByteArray) ++ a4 ++ (⟨#[32]⟩ : ByteArray) ++ a5)) _ ⟨oD, kD, HV.out.put 22 rfl⟩
      · have h22 : L 22 = true := by simp [hd]
        have c29 : ac.tmps[29]?.getD undef = .string (a1 ++ (⟨#[32]⟩ : ByteArray) ++ a2 ++ (⟨#[32]⟩ : ByteArray) ++ a3 ++ (⟨#[32]⟩ : ByteArray) ++ a4 ++ (⟨#[32]⟩ : ByteArray) ++ a5) := (hA.get 22 h22).trans (HV.out 22 h22)
        go_simp
        rw [if_neg (by omega)]
        go_simp
        exact hK.out (.string (a1 ++ (⟨#[32]⟩ : ByteArray) ++ a2 ++ (⟨#[32]⟩ : ByteArray) ++ a3 ++ (⟨#[32]⟩ : ByteArray) ++ a4 ++ (⟨#[32]⟩ : ByteArray) ++ a5 ++ (⟨#[32]⟩ : ByteArray))) _ ⟨oD, kD, HV.out.put 23 rfl⟩
      · have c1 := hA.base 1 (by rfl)
        simp only [List.getElem?_toArray, List.getElem?_cons_zero, List.getElem?_cons_succ, Option.getD_some] at c1
        go_simp
        exact hK.out (.pointer (some ⟨bx, 5, none⟩)) _ ⟨oD, kD, HV.out.put 24 rfl⟩
      · have h24 : L 24 = true := by simp [hd]
        have c31 : ac.tmps[31]?.getD undef = .pointer (some ⟨bx, 5, none⟩) := (hA.get 24 h24).trans (HV.out 24 h24)
        have cc := oD.cell 5
        go_simp
        exact hK.out (.int .i64 u) _ ⟨oD, kD, HV.out.put 25 rfl⟩
      · have h25 : L 25 = true := by simp [hd]
        have c32 : ac.tmps[32]?.getD undef = .int .i64 u := (hA.get 25 h25).trans (HV.out 25 h25)
        go_simp
        refine (H6.out _).mono ?_
        rintro _ _ ⟨rfl, rfl⟩
        exact hK.out (.string (a6)) _ ⟨oD, kD, HV.out.put 26 rfl⟩
      · have h23 : L 23 = true := by simp [hd]
        have c30 : ac.tmps[30]?.getD undef = .string (a1 ++ (⟨#[32]⟩ : ByteArray) ++ a2 ++ (⟨#[32]⟩ : ByteArray) ++ a3 ++ (⟨#[32]⟩ : ByteArray) ++ a4 ++ (⟨#[32]⟩ : ByteArray) ++ a5 ++ (⟨#[32]⟩ : ByteArray)) := (hA.get 23 h23).trans (HV.out 23 h23)
        have h26 : L 26 = true := by simp [hd]
        have c33 : ac.tmps[33]?.getD undef = .string (a6) := (hA.get 26 h26).trans (HV.out 26 h26)
        go_simp
        rw [if_neg (by omega)]
        go_simp
        exact hK.out (.string (a1 ++ (⟨#[32]⟩ : ByteArray) ++ a2 ++ (⟨#[32]⟩ : ByteArray) ++ a3 ++ (⟨#[32]⟩ : ByteArray) ++ a4 ++ (⟨#[32]⟩ : ByteArray) ++ a5 ++ (⟨#[32]⟩ : ByteArray) ++ a6)) _ ⟨oD, kD, HV.out.put 27 rfl⟩
      · have h27 : L 27 = true := by simp [hd]
        have c34 : ac.tmps[34]?.getD undef = .string (a1 ++ (⟨#[32]⟩ : ByteArray) ++ a2 ++ (⟨#[32]⟩ : ByteArray) ++ a3 ++ (⟨#[32]⟩ : ByteArray) ++ a4 ++ (⟨#[32]⟩ : ByteArray) ++ a5 ++ (⟨#[32]⟩ : ByteArray) ++ a6) := (hA.get 27 h27).trans (HV.out 27 h27)
        go_simp
        exact hK.out (.string (a1 ++ (⟨#[32]⟩ : ByteArray) ++ a2 ++ (⟨#[32]⟩ : ByteArray) ++ a3 ++ (⟨#[32]⟩ : ByteArray) ++ a4 ++ (⟨#[32]⟩ : ByteArray) ++ a5 ++ (⟨#[32]⟩ : ByteArray) ++ a6)) _ ⟨oD, kD, HV.out.put 28 rfl⟩
      · go_simp
        exact hK.out (.int .i64 0) _ ⟨oD, kD, HV.out.put 29 rfl⟩
    case fin =>
      rintro L v wc hall ⟨oD, kD, hv⟩
      have e28 : v 28 = .string out := (hv 28 (hall 28 (by decide))).trans (congrArg Value.string HL.out)
      have e29 : v 29 = .int .i64 0 := hv 29 (hall 29 (by decide))
      clear hall hv
      simp only [putAll, Act.put, List.setIfInBounds_toArray, List.set_cons_zero, List.set_cons_succ]
      rw [e28, e29]
      go_wp2
      go_ret2
      exact ⟨rfl, oD.drop, kD⟩
  · rw [if_neg hok, if_neg hok]
    rw [decide_eq_false hok] at hv
    clear hok
    unfold recV at hv ⊢
    unfold recC at o1
    go_enter Tryz.func11, Tryz.ntmps11
    go_wp2_with fail
    refine hv.mono ?_
    rintro e1 w1 ⟨rfl, o2, k2⟩
    go_wp2
    go_ret2
    exact ⟨rfl, o2.drop, k2.al⟩
end
end Go.Proofs.YtlccalkikjfimaaGreatDoor
