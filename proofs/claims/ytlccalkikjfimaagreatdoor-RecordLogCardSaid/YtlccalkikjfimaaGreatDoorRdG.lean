/- Records: parses, drawn lines (printed by genrdG.py). -/
import Derived.Test.YtlccalkikjfimaaGreatDoorRdF
import Derived.Test.YtlccalkikjfimaaGreatDoorRcE
import Derived.Test.YtlccalkikjfimaaGreatDoorByt
import Derived.Test.YtlccalkikjfimaaGreatDoorPv
import Derived.Lib.SlBytesConst
import Derived.Laws.Rows
namespace Go.Proofs.YtlccalkikjfimaaGreatDoor
open Go.RowKit
open Go.Shelf
open SP
section
variable {W w w' : World} {R : List SP} {cb : Nat}
theorem refParse27_spec (s : ByteArray) (hs : s.size ≤ 1000000) (o : Own w R) : Calls Tryz.prog 27 #[.string s] w (Ret (prL (parseL s.data.toList)) R w) := by
  by_cases hl : (spl 32 s.data.toList).length = 6
  · obtain ⟨a, k, b, c, d, e, hL⟩ := six_of hl
    exact refParse_main s hs o a k b c d e hL
  · exact refParse_short s hs o hl
theorem tbL {x : Value} (h : x ∈ ([.string ⟨#[48]⟩, .string ⟨#[45, 49]⟩, .string ⟨#[49]⟩, .string ⟨#[45, 48]⟩, .string ⟨#[48, 48]⟩, .string ⟨#[57, 50, 50, 51, 51, 55, 50, 48, 51, 54, 56, 53, 52, 55, 55, 53, 56, 48, 55]⟩, .string ⟨#[45, 57, 50, 50, 51, 51, 55, 50, 48, 51, 54, 56, 53, 52, 55, 55, 53, 56, 48, 56]⟩, .string ⟨#[57, 50, 50, 51, 51, 55, 50, 48, 51, 54, 56, 53, 52, 55, 55, 53, 56, 48, 56]⟩, .string ⟨#[52, 54, 49, 49, 54, 56, 54, 48, 49, 56, 52, 50, 55, 51, 56, 55, 57, 48, 52]⟩, .string ⟨#[52, 54, 49, 49, 54, 56, 54, 48, 49, 56, 52, 50, 55, 51, 56, 55, 57, 48, 53]⟩, .string ⟨#[57, 57, 57, 57, 57, 57, 57, 57, 57, 57, 57, 57, 57, 57, 57, 57, 57, 57, 57, 57]⟩, .string ⟨#[]⟩, .string ⟨#[45]⟩] : List Value)) : strP 20 x := by
  simp only [List.mem_cons, List.not_mem_nil, or_false] at h
  rcases h with rfl | rfl | rfl | rfl | rfl | rfl | rfl | rfl | rfl | rfl | rfl | rfl | rfl <;> exact ⟨_, by decide, rfl⟩
theorem fmtS_len (r : Rec) : (fmtS r).length ≤ 200 := by
  unfold fmtS
  split
  · rename_i h; exact lineOf_len r h
  · simp
theorem lcalmS {x : Addr} {v : Value} (h : Calm w w') : Calm w (w'.setCell x v) := ⟨h.os, h.tape, h.output⟩
/-- Some string of at most 300 bytes is returned; thirteen numbers more are drawn at most. -/
def LinePost (W : World) (cb N : Nat) (R : List SP) (w : World) (e : Ending) (w' : World) : Prop := ∃ s : ByteArray, s.size ≤ 300 ∧ e = .returned (.string s) ∧ Own w' (Ch W cb (N + 13) :: old W :: R) ∧ Calm w w'
set_option maxHeartbeats 12800000 in
set_option maxRecDepth 100000 in
theorem line_spec (N : Nat) (hN : (N : Int) ≤ 900000000000) (o : Own w (Ch W cb N :: old W :: R)) :
    Calls Tryz.prog 6 #[.pointer (some ⟨cb, 0, none⟩)] w (LinePost W cb N R w) := by
  go_enter Tryz.func6, Tryz.ntmps6
  go_wp2_with fail
  refine (genRecord_spec N hN o).mono ?_
  rintro e1 w1 ⟨r, rfl, o1, k1⟩
  have hf := refFormat_spec r o1
  have hfl := fmtS_len r
  have hsz := mkB_size (fmtS r)
  unfold recV at hf ⊢
  generalize mkB (fmtS r) = S at *
  generalize fmtE r = er at *
  have hS : S.size ≤ 200 := by omega
  clear hfl hsz
  go_wp2_with fail
  refine hf.mono ?_
  rintro e2 w2 ⟨rfl, o2, k2⟩
  go_wp2_with fail
  refine (next_spec W cb (N + 8) 6 _ _ (by omega) (by omega) (by omega) o2).mono ?_
  rintro e3 w3 ⟨y, hy0, hy1, rfl, o3, k3⟩
  have K3 := k1.trans (k2.trans k3)
  clear hf o1 o2 k1 k2 k3
  obtain ⟨y, rfl⟩ : ∃ k : Nat, y = (k : Int) := ⟨y.toNat, by omega⟩
  by_cases c0 : y = 0
  · have d0 : ((y : Int) == 0) = true := beq_iff_eq.2 (by omega)
    obtain ⟨x, q1⟩ : ∃ t, S ++ (⟨#[32]⟩ : ByteArray) = t := ⟨_, rfl⟩
    have l1 : (⟨#[32]⟩ : ByteArray).size = 1 := rfl
    have n1 : 1 ≤ x.size ∧ x.size ≤ 201 := by rw [← q1, ByteArray.size_append]; omega
    clear l1
    have hcv := Lib.run_convert_string_bytes w3 9 41 5 x Tryz.underlying9 Tryz.underlying41 Tryz.underlying5
    obtain ⟨sp, m, m', hbm, o6⟩ := own_bytes (T := 5) o3 x
    have hxl : x.data.toList.length = x.size := (Lib.size_eq x).symm
    have kB := Lib.bytesWorld_below w3 5 x
    have k6 : Calm w (Lib.bytesWorld w3 5 x) := K3.trans ⟨kB.os, kB.tape, kB.output⟩
    generalize Lib.bytesWorld w3 5 x = wB at *
    generalize w3.heap.size = g at *
    have hcap : x.size ≤ grownCap w3 x.size 0 5 := grownCap_ge _ _ _ _
    generalize grownCap w3 x.size 0 5 = cc at *
    obtain ⟨bs, hbs⟩ : ∃ bs, x.data.toList = bs := ⟨_, rfl⟩
    rw [hbs] at o6 hbm hxl
    clear hbs o3 kB K3
    have o7 := o6.re [1, 2, 0]
    have n2 := n1.1
    have n3 := n1.2
    clear n1
    go_wp2_with fail
    refine (next_spec W cb (N + 8 + 1) (x.size : Int) _ _ (by omega) (by omega) (by omega) o7).mono ?_
    rintro e5 w5 ⟨z, hz0, hz1, rfl, o8, k8⟩
    obtain ⟨k, rfl⟩ : ∃ k : Nat, z = (k : Int) := ⟨z.toNat, by omega⟩
    have o9 : Own (w5.alloc (.cells #[.int .u8 32, .int .u8 45, .int .u8 48, .int .u8 97, .int .u8 57] 5 (5, 6))) (Ch W cb (N + 8 + 1 + 1) :: old W :: SP.blk g (.cells (byV bs ++ sp).toArray 5 (m, m')) :: SP.blk w5.heap.size (.cells (byV [32, 45, 48, 97, 57] ++ []).toArray 5 (5, 6)) :: R) := (o8.alloc (.cells #[.int .u8 32, .int .u8 45, .int .u8 48, .int .u8 97, .int .u8 57] 5 (5, 6))).re [1, 2, 3, 0]
    have hcb : (convert 41 41 (.slice (some ⟨w5.heap.size, 0, none⟩) 5 5)).run Tryz.prog (w5.alloc (.cells #[.int .u8 32, .int .u8 45, .int .u8 48, .int .u8 97, .int .u8 57] 5)) = .ok (.slice (some ⟨w5.heap.size, 0, none⟩) 5 5) (w5.alloc (.cells #[.int .u8 32, .int .u8 45, .int .u8 48, .int .u8 97, .int .u8 57] 5 (5, 6))) := Lib.run_convert_bytes_const w5 41 5 _ 5 5 Tryz.underlying41 Tryz.underlying5
    go_wp2_with fail
    refine (next_spec W cb (N + 8 + 1 + 1) 5 _ _ (by omega) (by omega) (by omega) o9).mono ?_
    rintro e6 w6 ⟨z, hz0, hz1, rfl, o10, k10⟩
    obtain ⟨j, rfl⟩ : ∃ j : Nat, z = (j : Int) := ⟨z.toNat, by omega⟩
    have tb := o10.up 3
    have hj7 : j < ([32, 45, 48, 97, 57] : List UInt8).length := by show j < 5; omega
    have hu := byt_cell tb (List.getElem?_eq_getElem hj7)
    generalize ([32, 45, 48, 97, 57] : List UInt8)[j] = u at *
    have ob := o10.up 2
    have hkl : k < bs.length := by omega
    have hck := byt_cell ob (List.getElem?_eq_getElem hkl)
    have hcf := byt_frozen ob (i := k) (by omega)
    have hcl := Own.lt ob
    have oS := byt_set ob k hkl u
    have kS : Calm w (w6.setCell ⟨g, k, none⟩ (.int .u8 (u.toNat : Int))) := lcalmS (k6.trans (k8.trans (Calm.al k10)))
    have hkx : (k : Int) < (x.size : Int) := by omega
    have hsl : (bs.set k u).length = x.size := by rw [List.length_set]; exact hxl
    have hcs := run_convert_bytes_arg (w := w6.setCell ⟨g, k, none⟩ (.int .u8 (u.toNat : Int))) 41 5 Tryz.underlying41 Tryz.underlying5 g 0 x.size cc ((bs.set k u).map fun b => (b.toNat : Int)) (by rw [List.length_map]; exact hsl) (byt_string oS hsl) 9 Tryz.underlying9
    have hcz := strOf_size ((bs.set k u).map fun b => (b.toNat : Int))
    rw [List.length_map, hsl] at hcz
    generalize strOfNums ((bs.set k u).map fun b => (b.toNat : Int)) = t at *
    have hcz := Lib.hid hcz
    clear tb
    go_wp2
    go_ret
    exact ⟨t, by have := hcz.out; omega, rfl, Ch.upTo (N := N + 8 + 1 + 1 + 1) (M := N + 13) (by omega) ((oS.re [0, 3, 1, 2]).drop.drop), kS⟩
  by_cases c1 : y = 1
  · have d0 : ((y : Int) == 0) = false := beq_eq_false_iff_ne.2 (by omega)
    have d1 : ((y : Int) == 1) = true := beq_iff_eq.2 (by omega)
    have oA := (o3.alloc (.cells #[Value.string ⟨#[48]⟩, Value.string ⟨#[45, 49]⟩, Value.string ⟨#[49]⟩, Value.string ⟨#[45, 48]⟩, Value.string ⟨#[48, 48]⟩, Value.string ⟨#[57, 50, 50, 51, 51, 55, 50, 48, 51, 54, 56, 53, 52, 55, 55, 53, 56, 48, 55]⟩, Value.string ⟨#[45, 57, 50, 50, 51, 51, 55, 50, 48, 51, 54, 56, 53, 52, 55, 55, 53, 56, 48, 56]⟩, Value.string ⟨#[57, 50, 50, 51, 51, 55, 50, 48, 51, 54, 56, 53, 52, 55, 55, 53, 56, 48, 56]⟩, Value.string ⟨#[52, 54, 49, 49, 54, 56, 54, 48, 49, 56, 52, 50, 55, 51, 56, 55, 57, 48, 52]⟩, Value.string ⟨#[52, 54, 49, 49, 54, 56, 54, 48, 49, 56, 52, 50, 55, 51, 56, 55, 57, 48, 53]⟩, Value.string ⟨#[57, 57, 57, 57, 57, 57, 57, 57, 57, 57, 57, 57, 57, 57, 57, 57, 57, 57, 57, 57]⟩, Value.string ⟨#[]⟩, Value.string ⟨#[45]⟩] 9)).re [1, 2, 0]
    have kA : Calm w (w3.alloc (.cells #[Value.string ⟨#[48]⟩, Value.string ⟨#[45, 49]⟩, Value.string ⟨#[49]⟩, Value.string ⟨#[45, 48]⟩, Value.string ⟨#[48, 48]⟩, Value.string ⟨#[57, 50, 50, 51, 51, 55, 50, 48, 51, 54, 56, 53, 52, 55, 55, 53, 56, 48, 55]⟩, Value.string ⟨#[45, 57, 50, 50, 51, 51, 55, 50, 48, 51, 54, 56, 53, 52, 55, 55, 53, 56, 48, 56]⟩, Value.string ⟨#[57, 50, 50, 51, 51, 55, 50, 48, 51, 54, 56, 53, 52, 55, 55, 53, 56, 48, 56]⟩, Value.string ⟨#[52, 54, 49, 49, 54, 56, 54, 48, 49, 56, 52, 50, 55, 51, 56, 55, 57, 48, 52]⟩, Value.string ⟨#[52, 54, 49, 49, 54, 56, 54, 48, 49, 56, 52, 50, 55, 51, 56, 55, 57, 48, 53]⟩, Value.string ⟨#[57, 57, 57, 57, 57, 57, 57, 57, 57, 57, 57, 57, 57, 57, 57, 57, 57, 57, 57, 57]⟩, Value.string ⟨#[]⟩, Value.string ⟨#[45]⟩] 9)) := ⟨K3.os, K3.tape, K3.output⟩
    go_wp2_with fail
    generalize w3.heap.size = gT at *
    generalize w3.alloc (.cells #[Value.string ⟨#[48]⟩, Value.string ⟨#[45, 49]⟩, Value.string ⟨#[49]⟩, Value.string ⟨#[45, 48]⟩, Value.string ⟨#[48, 48]⟩, Value.string ⟨#[57, 50, 50, 51, 51, 55, 50, 48, 51, 54, 56, 53, 52, 55, 55, 53, 56, 48, 55]⟩, Value.string ⟨#[45, 57, 50, 50, 51, 51, 55, 50, 48, 51, 54, 56, 53, 52, 55, 55, 53, 56, 48, 56]⟩, Value.string ⟨#[57, 50, 50, 51, 51, 55, 50, 48, 51, 54, 56, 53, 52, 55, 55, 53, 56, 48, 56]⟩, Value.string ⟨#[52, 54, 49, 49, 54, 56, 54, 48, 49, 56, 52, 50, 55, 51, 56, 55, 57, 48, 52]⟩, Value.string ⟨#[52, 54, 49, 49, 54, 56, 54, 48, 49, 56, 52, 50, 55, 51, 56, 55, 57, 48, 53]⟩, Value.string ⟨#[57, 57, 57, 57, 57, 57, 57, 57, 57, 57, 57, 57, 57, 57, 57, 57, 57, 57, 57, 57]⟩, Value.string ⟨#[]⟩, Value.string ⟨#[45]⟩] 9) = w4 at *
    clear o3 K3
    go_wp2
    refine wp_region_draws (fun L v wc => Own wc (Ch W cb (N + 8 + 1 + dOne (L 2) + dOne (L 8) + dOne (L 15) + dOne (L 22)) :: old W :: cel gT 9 [.string ⟨#[48]⟩, .string ⟨#[45, 49]⟩, .string ⟨#[49]⟩, .string ⟨#[45, 48]⟩, .string ⟨#[48, 48]⟩, .string ⟨#[57, 50, 50, 51, 51, 55, 50, 48, 51, 54, 56, 53, 52, 55, 55, 53, 56, 48, 55]⟩, .string ⟨#[45, 57, 50, 50, 51, 51, 55, 50, 48, 51, 54, 56, 53, 52, 55, 55, 53, 56, 48, 56]⟩, .string ⟨#[57, 50, 50, 51, 51, 55, 50, 48, 51, 54, 56, 53, 52, 55, 55, 53, 56, 48, 56]⟩, .string ⟨#[52, 54, 49, 49, 54, 56, 54, 48, 49, 56, 52, 50, 55, 51, 56, 55, 57, 48, 52]⟩, .string ⟨#[52, 54, 49, 49, 54, 56, 54, 48, 49, 56, 52, 50, 55, 51, 56, 55, 57, 48, 53]⟩, .string ⟨#[57, 57, 57, 57, 57, 57, 57, 57, 57, 57, 57, 57, 57, 57, 57, 57, 57, 57, 57, 57]⟩, .string ⟨#[]⟩, .string ⟨#[45]⟩] :: R) ∧ Calm w wc ∧ PVals (fun i => ([(fun x => x = .slice (some ⟨gT, 0, none⟩) 13 13), (fun x => x = .pointer (some ⟨cb, 0, none⟩)), (fun x => ∃ j : Nat, j < 13 ∧ x = .int .i64 (j : Int)), (fun x => ∃ j : Nat, j < 13 ∧ x = .pointer (some ⟨gT, j, none⟩)), strP 20, strP 26, (fun x => x = .slice (some ⟨gT, 0, none⟩) 13 13), (fun x => x = .pointer (some ⟨cb, 0, none⟩)), (fun x => ∃ j : Nat, j < 13 ∧ x = .int .i64 (j : Int)), (fun x => ∃ j : Nat, j < 13 ∧ x = .pointer (some ⟨gT, j, none⟩)), strP 20, strP 46, strP 47, (fun x => x = .slice (some ⟨gT, 0, none⟩) 13 13), (fun x => x = .pointer (some ⟨cb, 0, none⟩)), (fun x => ∃ j : Nat, j < 13 ∧ x = .int .i64 (j : Int)), (fun x => ∃ j : Nat, j < 13 ∧ x = .pointer (some ⟨gT, j, none⟩)), strP 20, strP 67, strP 70, (fun x => x = .slice (some ⟨gT, 0, none⟩) 13 13), (fun x => x = .pointer (some ⟨cb, 0, none⟩)), (fun x => ∃ j : Nat, j < 13 ∧ x = .int .i64 (j : Int)), (fun x => ∃ j : Nat, j < 13 ∧ x = .pointer (some ⟨gT, j, none⟩)), strP 20, strP 90, strP 90] : List (Value → Prop)).getD i anyP) L v) (by kernel_rfl) (by kernel_rfl) (by kernel_rfl) ?h0 ?step ?fin
    case h0 => exact ⟨oA.drew, ⟨kA.os, kA.tape, kA.output⟩, PVals.no⟩
    case step =>
      refine ⟨DrawStep.mk rfl ?_, DrawStep.mk rfl ?_, DrawStep.mk rfl ?_, DrawStep.mk rfl ?_, DrawStep.mk rfl ?_, DrawStep.mk rfl ?_, DrawStep.mk rfl ?_, DrawStep.mk rfl ?_, DrawStep.mk rfl ?_, DrawStep.mk rfl ?_, DrawStep.mk rfl ?_, DrawStep.mk rfl ?_, DrawStep.mk rfl ?_, DrawStep.mk rfl ?_, DrawStep.mk rfl ?_, DrawStep.mk rfl ?_, DrawStep.mk rfl ?_, DrawStep.mk rfl ?_, DrawStep.mk rfl ?_, DrawStep.mk rfl ?_, DrawStep.mk rfl ?_, DrawStep.mk rfl ?_, DrawStep.mk rfl ?_, DrawStep.mk rfl ?_, DrawStep.mk rfl ?_, DrawStep.mk rfl ?_, DrawStep.mk rfl ?_, trivial⟩
      all_goals intro L v ac wc hL hd hA hI K' hK
      all_goals obtain ⟨oD, kD, pv⟩ := hI
      all_goals simp [Region.binds] at hd
      all_goals have b2 := dOne_le (L 2)
      all_goals have b8 := dOne_le (L 8)
      all_goals have b15 := dOne_le (L 15)
      all_goals have b22 := dOne_le (L 22)
      · have c0 := hA.base 6 (by rfl)
        simp only [List.getElem?_toArray, List.getElem?_cons_zero, List.getElem?_cons_succ, Option.getD_some] at c0
        go_simp
        exact hK.out _ _ ⟨oD, kD, pv.put 0 rfl⟩
      · have c0 := hA.base 0 (by rfl)
        simp only [List.getElem?_toArray, List.getElem?_cons_zero, List.getElem?_cons_succ, Option.getD_some] at c0
        go_simp
        exact hK.out _ _ ⟨oD, kD, pv.put 1 rfl⟩
      · have h1 : L 1 = true := by simp [hd]
        have c0 := (hA.get 1 h1).trans (pv 1 h1)
        go_simp
        rw [hL] at oD
        refine (next_spec W cb _ 13 _ _ (by omega) (by omega) (by rw [dOne_no]; omega) oD).mono ?_
        rintro e6 w6 ⟨z, hz0, hz1, rfl, o6, k6⟩
        obtain ⟨z, rfl⟩ : ∃ q : Nat, z = (q : Int) := ⟨z.toNat, by omega⟩
        exact hK.out _ _ ⟨Ch.upTo (by show _ ≤ N + 8 + 1 + dOne true + dOne (L 8) + dOne (L 15) + dOne (L 22); rw [dOne_no, dOne_yes]; omega) o6, kD.trans k6, pv.put 2 ⟨z, by omega, rfl⟩⟩
      · have h0 : L 0 = true := by simp [hd]
        have h2 : L 2 = true := by simp [hd]
        have c0 := (hA.get 0 h0).trans (pv 0 h0)
        obtain ⟨j, hj, hv⟩ := pv 2 h2
        have c1 := (hA.get 2 h2).trans hv
        have hj2 : (j : Int) < 13 := by omega
        go_simp
        exact hK.out _ _ ⟨oD, kD, pv.put 3 ⟨j, hj, rfl⟩⟩
      · have h3 : L 3 = true := by simp [hd]
        obtain ⟨j, hj, hv⟩ := pv 3 h3
        have c1 := (hA.get 3 h3).trans hv
        have hj3 : j < ([.string ⟨#[48]⟩, .string ⟨#[45, 49]⟩, .string ⟨#[49]⟩, .string ⟨#[45, 48]⟩, .string ⟨#[48, 48]⟩, .string ⟨#[57, 50, 50, 51, 51, 55, 50, 48, 51, 54, 56, 53, 52, 55, 55, 53, 56, 48, 55]⟩, .string ⟨#[45, 57, 50, 50, 51, 51, 55, 50, 48, 51, 54, 56, 53, 52, 55, 55, 53, 56, 48, 56]⟩, .string ⟨#[57, 50, 50, 51, 51, 55, 50, 48, 51, 54, 56, 53, 52, 55, 55, 53, 56, 48, 56]⟩, .string ⟨#[52, 54, 49, 49, 54, 56, 54, 48, 49, 56, 52, 50, 55, 51, 56, 55, 57, 48, 52]⟩, .string ⟨#[52, 54, 49, 49, 54, 56, 54, 48, 49, 56, 52, 50, 55, 51, 56, 55, 57, 48, 53]⟩, .string ⟨#[57, 57, 57, 57, 57, 57, 57, 57, 57, 57, 57, 57, 57, 57, 57, 57, 57, 57, 57, 57]⟩, .string ⟨#[]⟩, .string ⟨#[45]⟩] : List Value).length := hj
        have cc := Own.cell (oD.up 2) j (List.getElem?_eq_getElem hj3)
        obtain ⟨s, hs, hsv⟩ := tbL (List.getElem_mem hj3)
        rw [hsv] at cc
        go_simp
        exact hK.out _ _ ⟨oD, kD, pv.put 4 ⟨s, hs, rfl⟩⟩
      · have h4 : L 4 = true := by simp [hd]
        obtain ⟨s, hs, hv⟩ := pv 4 h4
        have hs : s.size ≤ 20 := hs
        have c1 := (hA.get 4 h4).trans hv
        have hno : ¬ 9223372036854775807 < s.size + 6 := by omega
        go_simp
        exact hK.out _ _ ⟨oD, kD, pv.put 5 ⟨s ++ ⟨#[32, 115, 101, 110, 100, 32]⟩, by rw [ByteArray.size_append]; have : (⟨#[32, 115, 101, 110, 100, 32]⟩ : ByteArray).size = 6 := rfl; omega, rfl⟩⟩
      · have c0 := hA.base 6 (by rfl)
        simp only [List.getElem?_toArray, List.getElem?_cons_zero, List.getElem?_cons_succ, Option.getD_some] at c0
        go_simp
        exact hK.out _ _ ⟨oD, kD, pv.put 6 rfl⟩
      · have c0 := hA.base 0 (by rfl)
        simp only [List.getElem?_toArray, List.getElem?_cons_zero, List.getElem?_cons_succ, Option.getD_some] at c0
        go_simp
        exact hK.out _ _ ⟨oD, kD, pv.put 7 rfl⟩
      · have h7 : L 7 = true := by simp [hd]
        have c0 := (hA.get 7 h7).trans (pv 7 h7)
        go_simp
        rw [hL] at oD
        refine (next_spec W cb _ 13 _ _ (by omega) (by omega) (by rw [dOne_no]; omega) oD).mono ?_
        rintro e6 w6 ⟨z, hz0, hz1, rfl, o6, k6⟩
        obtain ⟨z, rfl⟩ : ∃ q : Nat, z = (q : Int) := ⟨z.toNat, by omega⟩
        exact hK.out _ _ ⟨Ch.upTo (by show _ ≤ N + 8 + 1 + dOne (L 2) + dOne true + dOne (L 15) + dOne (L 22); rw [dOne_no, dOne_yes]; omega) o6, kD.trans k6, pv.put 8 ⟨z, by omega, rfl⟩⟩
      · have h6 : L 6 = true := by simp [hd]
        have h8 : L 8 = true := by simp [hd]
        have c0 := (hA.get 6 h6).trans (pv 6 h6)
        obtain ⟨j, hj, hv⟩ := pv 8 h8
        have c1 := (hA.get 8 h8).trans hv
        have hj2 : (j : Int) < 13 := by omega
        go_simp
        exact hK.out _ _ ⟨oD, kD, pv.put 9 ⟨j, hj, rfl⟩⟩
      · have h9 : L 9 = true := by simp [hd]
        obtain ⟨j, hj, hv⟩ := pv 9 h9
        have c1 := (hA.get 9 h9).trans hv
        have hj3 : j < ([.string ⟨#[48]⟩, .string ⟨#[45, 49]⟩, .string ⟨#[49]⟩, .string ⟨#[45, 48]⟩, .string ⟨#[48, 48]⟩, .string ⟨#[57, 50, 50, 51, 51, 55, 50, 48, 51, 54, 56, 53, 52, 55, 55, 53, 56, 48, 55]⟩, .string ⟨#[45, 57, 50, 50, 51, 51, 55, 50, 48, 51, 54, 56, 53, 52, 55, 55, 53, 56, 48, 56]⟩, .string ⟨#[57, 50, 50, 51, 51, 55, 50, 48, 51, 54, 56, 53, 52, 55, 55, 53, 56, 48, 56]⟩, .string ⟨#[52, 54, 49, 49, 54, 56, 54, 48, 49, 56, 52, 50, 55, 51, 56, 55, 57, 48, 52]⟩, .string ⟨#[52, 54, 49, 49, 54, 56, 54, 48, 49, 56, 52, 50, 55, 51, 56, 55, 57, 48, 53]⟩, .string ⟨#[57, 57, 57, 57, 57, 57, 57, 57, 57, 57, 57, 57, 57, 57, 57, 57, 57, 57, 57, 57]⟩, .string ⟨#[]⟩, .string ⟨#[45]⟩] : List Value).length := hj
        have cc := Own.cell (oD.up 2) j (List.getElem?_eq_getElem hj3)
        obtain ⟨s, hs, hsv⟩ := tbL (List.getElem_mem hj3)
        rw [hsv] at cc
        go_simp
        exact hK.out _ _ ⟨oD, kD, pv.put 10 ⟨s, hs, rfl⟩⟩
      · have h5 : L 5 = true := by simp [hd]
        have h10 : L 10 = true := by simp [hd]
        obtain ⟨s, hs, hv⟩ := pv 5 h5
        obtain ⟨s2, hs2, hv2⟩ := pv 10 h10
        have hs : s.size ≤ 26 := hs
        have hs2 : s2.size ≤ 20 := hs2
        have c1 := (hA.get 5 h5).trans hv
        have c2 := (hA.get 10 h10).trans hv2
        have hno : ¬ 9223372036854775807 < s.size + s2.size := by omega
        go_simp
        exact hK.out _ _ ⟨oD, kD, pv.put 11 ⟨s ++ s2, by rw [ByteArray.size_append]; omega, rfl⟩⟩
      · have h11 : L 11 = true := by simp [hd]
        obtain ⟨s, hs, hv⟩ := pv 11 h11
        have hs : s.size ≤ 46 := hs
        have c1 := (hA.get 11 h11).trans hv
        have hno : ¬ 9223372036854775807 < s.size + 1 := by omega
        go_simp
        exact hK.out _ _ ⟨oD, kD, pv.put 12 ⟨s ++ ⟨#[32]⟩, by rw [ByteArray.size_append]; have : (⟨#[32]⟩ : ByteArray).size = 1 := rfl; omega, rfl⟩⟩
      · have c0 := hA.base 6 (by rfl)
        simp only [List.getElem?_toArray, List.getElem?_cons_zero, List.getElem?_cons_succ, Option.getD_some] at c0
        go_simp
        exact hK.out _ _ ⟨oD, kD, pv.put 13 rfl⟩
      · have c0 := hA.base 0 (by rfl)
        simp only [List.getElem?_toArray, List.getElem?_cons_zero, List.getElem?_cons_succ, Option.getD_some] at c0
        go_simp
        exact hK.out _ _ ⟨oD, kD, pv.put 14 rfl⟩
      · have h14 : L 14 = true := by simp [hd]
        have c0 := (hA.get 14 h14).trans (pv 14 h14)
        go_simp
        rw [hL] at oD
        refine (next_spec W cb _ 13 _ _ (by omega) (by omega) (by rw [dOne_no]; omega) oD).mono ?_
        rintro e6 w6 ⟨z, hz0, hz1, rfl, o6, k6⟩
        obtain ⟨z, rfl⟩ : ∃ q : Nat, z = (q : Int) := ⟨z.toNat, by omega⟩
        exact hK.out _ _ ⟨Ch.upTo (by show _ ≤ N + 8 + 1 + dOne (L 2) + dOne (L 8) + dOne true + dOne (L 22); rw [dOne_no, dOne_yes]; omega) o6, kD.trans k6, pv.put 15 ⟨z, by omega, rfl⟩⟩
      · have h13 : L 13 = true := by simp [hd]
        have h15 : L 15 = true := by simp [hd]
        have c0 := (hA.get 13 h13).trans (pv 13 h13)
        obtain ⟨j, hj, hv⟩ := pv 15 h15
        have c1 := (hA.get 15 h15).trans hv
        have hj2 : (j : Int) < 13 := by omega
        go_simp
        exact hK.out _ _ ⟨oD, kD, pv.put 16 ⟨j, hj, rfl⟩⟩
      · have h16 : L 16 = true := by simp [hd]
        obtain ⟨j, hj, hv⟩ := pv 16 h16
        have c1 := (hA.get 16 h16).trans hv
        have hj3 : j < ([.string ⟨#[48]⟩, .string ⟨#[45, 49]⟩, .string ⟨#[49]⟩, .string ⟨#[45, 48]⟩, .string ⟨#[48, 48]⟩, .string ⟨#[57, 50, 50, 51, 51, 55, 50, 48, 51, 54, 56, 53, 52, 55, 55, 53, 56, 48, 55]⟩, .string ⟨#[45, 57, 50, 50, 51, 51, 55, 50, 48, 51, 54, 56, 53, 52, 55, 55, 53, 56, 48, 56]⟩, .string ⟨#[57, 50, 50, 51, 51, 55, 50, 48, 51, 54, 56, 53, 52, 55, 55, 53, 56, 48, 56]⟩, .string ⟨#[52, 54, 49, 49, 54, 56, 54, 48, 49, 56, 52, 50, 55, 51, 56, 55, 57, 48, 52]⟩, .string ⟨#[52, 54, 49, 49, 54, 56, 54, 48, 49, 56, 52, 50, 55, 51, 56, 55, 57, 48, 53]⟩, .string ⟨#[57, 57, 57, 57, 57, 57, 57, 57, 57, 57, 57, 57, 57, 57, 57, 57, 57, 57, 57, 57]⟩, .string ⟨#[]⟩, .string ⟨#[45]⟩] : List Value).length := hj
        have cc := Own.cell (oD.up 2) j (List.getElem?_eq_getElem hj3)
        obtain ⟨s, hs, hsv⟩ := tbL (List.getElem_mem hj3)
        rw [hsv] at cc
        go_simp
        exact hK.out _ _ ⟨oD, kD, pv.put 17 ⟨s, hs, rfl⟩⟩
      · have h12 : L 12 = true := by simp [hd]
        have h17 : L 17 = true := by simp [hd]
        obtain ⟨s, hs, hv⟩ := pv 12 h12
        obtain ⟨s2, hs2, hv2⟩ := pv 17 h17
        have hs : s.size ≤ 47 := hs
        have hs2 : s2.size ≤ 20 := hs2
        have c1 := (hA.get 12 h12).trans hv
        have c2 := (hA.get 17 h17).trans hv2
        have hno : ¬ 9223372036854775807 < s.size + s2.size := by omega
        go_simp
        exact hK.out _ _ ⟨oD, kD, pv.put 18 ⟨s ++ s2, by rw [ByteArray.size_append]; omega, rfl⟩⟩
      · have h18 : L 18 = true := by simp [hd]
        obtain ⟨s, hs, hv⟩ := pv 18 h18
        have hs : s.size ≤ 67 := hs
        have c1 := (hA.get 18 h18).trans hv
        have hno : ¬ 9223372036854775807 < s.size + 3 := by omega
        go_simp
        exact hK.out _ _ ⟨oD, kD, pv.put 19 ⟨s ++ ⟨#[32, 48, 32]⟩, by rw [ByteArray.size_append]; have : (⟨#[32, 48, 32]⟩ : ByteArray).size = 3 := rfl; omega, rfl⟩⟩
      · have c0 := hA.base 6 (by rfl)
        simp only [List.getElem?_toArray, List.getElem?_cons_zero, List.getElem?_cons_succ, Option.getD_some] at c0
        go_simp
        exact hK.out _ _ ⟨oD, kD, pv.put 20 rfl⟩
      · have c0 := hA.base 0 (by rfl)
        simp only [List.getElem?_toArray, List.getElem?_cons_zero, List.getElem?_cons_succ, Option.getD_some] at c0
        go_simp
        exact hK.out _ _ ⟨oD, kD, pv.put 21 rfl⟩
      · have h21 : L 21 = true := by simp [hd]
        have c0 := (hA.get 21 h21).trans (pv 21 h21)
        go_simp
        rw [hL] at oD
        refine (next_spec W cb _ 13 _ _ (by omega) (by omega) (by rw [dOne_no]; omega) oD).mono ?_
        rintro e6 w6 ⟨z, hz0, hz1, rfl, o6, k6⟩
        obtain ⟨z, rfl⟩ : ∃ q : Nat, z = (q : Int) := ⟨z.toNat, by omega⟩
        exact hK.out _ _ ⟨Ch.upTo (by show _ ≤ N + 8 + 1 + dOne (L 2) + dOne (L 8) + dOne (L 15) + dOne true; rw [dOne_no, dOne_yes]; omega) o6, kD.trans k6, pv.put 22 ⟨z, by omega, rfl⟩⟩
      · have h20 : L 20 = true := by simp [hd]
        have h22 : L 22 = true := by simp [hd]
        have c0 := (hA.get 20 h20).trans (pv 20 h20)
        obtain ⟨j, hj, hv⟩ := pv 22 h22
        have c1 := (hA.get 22 h22).trans hv
        have hj2 : (j : Int) < 13 := by omega
        go_simp
        exact hK.out _ _ ⟨oD, kD, pv.put 23 ⟨j, hj, rfl⟩⟩
      · have h23 : L 23 = true := by simp [hd]
        obtain ⟨j, hj, hv⟩ := pv 23 h23
        have c1 := (hA.get 23 h23).trans hv
        have hj3 : j < ([.string ⟨#[48]⟩, .string ⟨#[45, 49]⟩, .string ⟨#[49]⟩, .string ⟨#[45, 48]⟩, .string ⟨#[48, 48]⟩, .string ⟨#[57, 50, 50, 51, 51, 55, 50, 48, 51, 54, 56, 53, 52, 55, 55, 53, 56, 48, 55]⟩, .string ⟨#[45, 57, 50, 50, 51, 51, 55, 50, 48, 51, 54, 56, 53, 52, 55, 55, 53, 56, 48, 56]⟩, .string ⟨#[57, 50, 50, 51, 51, 55, 50, 48, 51, 54, 56, 53, 52, 55, 55, 53, 56, 48, 56]⟩, .string ⟨#[52, 54, 49, 49, 54, 56, 54, 48, 49, 56, 52, 50, 55, 51, 56, 55, 57, 48, 52]⟩, .string ⟨#[52, 54, 49, 49, 54, 56, 54, 48, 49, 56, 52, 50, 55, 51, 56, 55, 57, 48, 53]⟩, .string ⟨#[57, 57, 57, 57, 57, 57, 57, 57, 57, 57, 57, 57, 57, 57, 57, 57, 57, 57, 57, 57]⟩, .string ⟨#[]⟩, .string ⟨#[45]⟩] : List Value).length := hj
        have cc := Own.cell (oD.up 2) j (List.getElem?_eq_getElem hj3)
        obtain ⟨s, hs, hsv⟩ := tbL (List.getElem_mem hj3)
        rw [hsv] at cc
        go_simp
        exact hK.out _ _ ⟨oD, kD, pv.put 24 ⟨s, hs, rfl⟩⟩
      · have h19 : L 19 = true := by simp [hd]
        have h24 : L 24 = true := by simp [hd]
        obtain ⟨s, hs, hv⟩ := pv 19 h19
        obtain ⟨s2, hs2, hv2⟩ := pv 24 h24
        have hs : s.size ≤ 70 := hs
        have hs2 : s2.size ≤ 20 := hs2
        have c1 := (hA.get 19 h19).trans hv
        have c2 := (hA.get 24 h24).trans hv2
        have hno : ¬ 9223372036854775807 < s.size + s2.size := by omega
        go_simp
        exact hK.out _ _ ⟨oD, kD, pv.put 25 ⟨s ++ s2, by rw [ByteArray.size_append]; omega, rfl⟩⟩
      · have h25 : L 25 = true := by simp [hd]
        obtain ⟨s, hs, hv⟩ := pv 25 h25
        have c1 := (hA.get 25 h25).trans hv
        go_simp
        exact hK.out _ _ ⟨oD, kD, pv.put 26 ⟨s, hs, rfl⟩⟩
    case fin =>
      rintro L v wc hall ⟨oD, kD, pv⟩
      obtain ⟨s, hs, hv⟩ := pv 26 (hall 26 (by decide))
      have hs : s.size ≤ 90 := hs
      rw [hall 2 (by decide), hall 8 (by decide), hall 15 (by decide), hall 22 (by decide)] at oD
      clear pv hall
      simp only [putAll, Act.put, List.setIfInBounds_toArray, List.set_cons_zero, List.set_cons_succ, Nat.zero_add, Nat.reduceAdd, hv]
      go_wp2
      go_ret
      exact ⟨s, by omega, rfl, Ch.upTo (by simp only [dOne_yes]; omega) (oD.up 2).drop, kD⟩
  by_cases c2 : y = 2
  · have d0 : ((y : Int) == 0) = false := beq_eq_false_iff_ne.2 (by omega)
    have d1 : ((y : Int) == 1) = false := beq_eq_false_iff_ne.2 (by omega)
    have d2 : ((y : Int) == 2) = true := beq_iff_eq.2 (by omega)
    obtain ⟨x, q1⟩ : ∃ t, S ++ (⟨#[32, 49]⟩ : ByteArray) = t := ⟨_, rfl⟩
    have l1 : (⟨#[32, 49]⟩ : ByteArray).size = 2 := rfl
    have n1 : x.size ≤ 300 := by rw [← q1, ByteArray.size_append]; omega
    clear l1
    go_wp2
    go_ret
    exact ⟨x, n1, rfl, Ch.upTo (N := N + 8 + 1) (M := N + 13) (by omega) o3, K3⟩
  have d0 : ((y : Int) == 0) = false := beq_eq_false_iff_ne.2 (by omega)
  have d1 : ((y : Int) == 1) = false := beq_eq_false_iff_ne.2 (by omega)
  have d2 : ((y : Int) == 2) = false := beq_eq_false_iff_ne.2 (by omega)
  go_wp2
  go_ret
  exact ⟨S, by omega, rfl, Ch.upTo (N := N + 8 + 1) (M := N + 13) (by omega) o3, K3⟩
end
end Go.Proofs.YtlccalkikjfimaaGreatDoor
