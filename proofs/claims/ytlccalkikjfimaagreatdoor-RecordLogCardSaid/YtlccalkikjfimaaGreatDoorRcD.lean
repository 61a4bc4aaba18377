/- Records: the program's Format. -/
import Derived.Test.YtlccalkikjfimaaGreatDoorRcC
namespace Go.Proofs.YtlccalkikjfimaaGreatDoor
open Go.RowKit
open Go.Shelf
open SP
section
variable {W w w' : World} {R : List SP}
theorem Tryz.extraJ : Builder.Extra Tryz.prog Tryz.join_ren where
  sizeBuilder := by kernel_rfl
  liesBuilder := by kernel_rfl
  t5 := by kernel_rfl
  a5 := fun w => by kernel_rfl
  z5 := fun w => by kernel_rfl
  v5 := fun w => by kernel_rfl
  infoByte := by kernel_rfl
  cellsByte := by kernel_rfl
  sizeByte := by kernel_rfl
  neB5 := by decide
theorem join_line (r : Rec) : Lib.join ([mkB (Lib.itoa r.slot), mkB (wordOf r.kind), mkB (Lib.itoa r.flow), mkB (Lib.itoa r.packet), mkB (Lib.itoa r.why), mkB (Lib.itoa r.value)].map (·.data.toList)) [32] = lineOf r := by
  unfold lineOf mkB
  simp [Lib.join]
theorem lineOf_len (r : Rec) (h : RecOk r) : (lineOf r).length ≤ 200 := by
  unfold lineOf
  have z1 := itoa_len (n := r.slot) (by have := h.slot; omega) (by have := h.slot; omega)
  have z2 := wordOf_len r.kind
  have z3 := itoa_len (n := r.flow) (by have := h.flow; omega) (by have := h.flow; omega)
  have z4 := itoa_len (n := r.packet) (by have := h.packet; omega) (by have := h.packet; omega)
  have z5 := itoa_len (n := r.why) (by have := h.why; omega) (by have := h.why; omega)
  have z6 := itoa_len (n := r.value) (by have := h.value; omega) (by have := h.value; omega)
  simp only [List.length_append, List.length_cons]
  omega
theorem words_at (hT : TabsR W) (o : Own w (old W :: R)) {k : Nat} (h1 : 1 ≤ k) (h2 : k ≤ 10) : w.cell? ⟨0, k, none⟩ = some (.string (mkB (wordOf (k : Int)))) := by
  have hg : Tryz.prog.globalNamed "airshare/record.words" = some 0 := by kernel_rfl
  rw [World.var?_cell hg (Own.tabsR hT o).words k]
  obtain ⟨j, rfl⟩ : ∃ j, k = j + 1 := ⟨k - 1, by omega⟩
  have hj : j < 10 := by omega
  have key : ∀ j : Fin 10, wordsV.toArray[j.val + 1]? = some (.string (mkB (wordOf ((j.val + 1 : Nat) : Int)))) := by
    intro j
    match j with
    | ⟨0, _⟩ => rfl
    | ⟨1, _⟩ => rfl
    | ⟨2, _⟩ => rfl
    | ⟨3, _⟩ => rfl
    | ⟨4, _⟩ => rfl
    | ⟨5, _⟩ => rfl
    | ⟨6, _⟩ => rfl
    | ⟨7, _⟩ => rfl
    | ⟨8, _⟩ => rfl
    | ⟨9, _⟩ => rfl
  exact key ⟨j, hj⟩
set_option maxHeartbeats 6400000 in
set_option maxRecDepth 100000 in
theorem recFormat_spec (r : Rec) (hT : TabsR W) (o : Own w (old W :: R)) : Calls Tryz.prog 18 #[recV r] w (Ret (.tuple #[.string (mkB (fmtS r)), .int .i64 (fmtE r)]) (old W :: R) w) := by
  have o1 := o.alloc (.cells (recC r).toArray 39)
  have hv := recValid_spec r o1
  unfold fmtS fmtE
  by_cases hok : RecOk r
  · rw [if_pos hok, if_pos hok]
    rw [decide_eq_true hok] at hv
    have hd1 : ∀ (V : World) (R : List SP), Own V (old W :: R) → Calls Tryz.prog 30 #[.int .i64 r.slot] V (Ret (.string (mkB (Lib.itoa r.slot))) (old W :: R) V) := fun V R o => itoa_spec _ (by have := hok.slot; omega) (by have := hok.slot; omega) hT o
    have hd3 : ∀ (V : World) (R : List SP), Own V (old W :: R) → Calls Tryz.prog 30 #[.int .i64 r.flow] V (Ret (.string (mkB (Lib.itoa r.flow))) (old W :: R) V) := fun V R o => itoa_spec _ (by have := hok.flow; omega) (by have := hok.flow; omega) hT o
    have hd4 : ∀ (V : World) (R : List SP), Own V (old W :: R) → Calls Tryz.prog 30 #[.int .i64 r.packet] V (Ret (.string (mkB (Lib.itoa r.packet))) (old W :: R) V) := fun V R o => itoa_spec _ (by have := hok.packet; omega) (by have := hok.packet; omega) hT o
    have hd5 : ∀ (V : World) (R : List SP), Own V (old W :: R) → Calls Tryz.prog 30 #[.int .i64 r.why] V (Ret (.string (mkB (Lib.itoa r.why))) (old W :: R) V) := fun V R o => itoa_spec _ (by have := hok.why; omega) (by have := hok.why; omega) hT o
    have hd6 : ∀ (V : World) (R : List SP), Own V (old W :: R) → Calls Tryz.prog 31 #[.int .i64 r.value, .int .i64 10] V (Ret (.string (mkB (Lib.itoa r.value))) (old W :: R) V) := fun V R o => fmtI_spec _ (by have := hok.value; omega) (by have := hok.value; omega) hT o
    obtain ⟨kn, hkn⟩ : ∃ kn : Nat, r.kind = (kn : Int) := ⟨r.kind.toNat, by have := hok.kind; omega⟩
    have hk1 : 1 ≤ kn ∧ kn ≤ 10 := by have := hok.kind; omega
    have hk2 : (kn : Int) < 11 := by omega
    have hk3 : kn < 11 := by omega
    have hw : ∀ (V : World) (R : List SP), Own V (old W :: R) → V.cell? ⟨0, kn, none⟩ = some (.string (mkB (wordOf r.kind))) := fun V R o => by rw [hkn]; exact words_at hT o hk1.1 hk1.2
    have hj : ∀ (V : World) (R : List SP) (g : Nat), Own V (Tb true (.slice (some ⟨g, 0, none⟩) 6 6) 9 [.string (mkB (Lib.itoa r.slot)), .string (mkB (wordOf r.kind)), .string (mkB (Lib.itoa r.flow)), .string (mkB (Lib.itoa r.packet)), .string (mkB (Lib.itoa r.why)), .string (mkB (Lib.itoa r.value))] :: R) →
        Calls Tryz.prog 29 #[.slice (some ⟨g, 0, none⟩) 6 6, .string ⟨#[32]⟩] V (Ret (.string (mkB (lineOf r))) (Tb true (.slice (some ⟨g, 0, none⟩) 6 6) 9 [.string (mkB (Lib.itoa r.slot)), .string (mkB (wordOf r.kind)), .string (mkB (Lib.itoa r.flow)), .string (mkB (Lib.itoa r.packet)), .string (mkB (Lib.itoa r.why)), .string (mkB (Lib.itoa r.value))] :: R) V) := fun V R g o => by
      have hc := fun (j : Nat) (hj : j < 6) => Tb.at o (j := j) hj
      have hl := join_line r
      have hln := lineOf_len r hok
      have hlt : g < V.heap.size := World.block_lt_of_cell? _ _ (hc 0 (by omega))
      have := Any.strings_Join Tryz.join Tryz.extraJ g 0 6 [mkB (Lib.itoa r.slot), mkB (wordOf r.kind), mkB (Lib.itoa r.flow), mkB (Lib.itoa r.packet), mkB (Lib.itoa r.why), mkB (Lib.itoa r.value)] ⟨#[32]⟩ V (fun j x h => ?_) hlt (by simp) (by simp) (by rw [show (⟨#[32]⟩ : ByteArray).data.toList = [32] from rfl, hl]; omega)
      · rw [show (⟨#[32]⟩ : ByteArray).data.toList = [32] from rfl, hl] at this
        refine this.mono ?_
        rintro e w' ⟨rfl, hb⟩
        exact ⟨rfl, Own.keepBelow o hb, Calm.ofBelow hb⟩
      · have hj6 : j < 6 := (List.getElem?_eq_some_iff.1 h).1
        rw [Nat.zero_add, hc j hj6]
        match j, hj6, h with
        | 0, _, h => cases h; rfl
        | 1, _, h => cases h; rfl
        | 2, _, h => cases h; rfl
        | 3, _, h => cases h; rfl
        | 4, _, h => cases h; rfl
        | 5, _, h => cases h; rfl
    clear hok
    generalize mkB (lineOf r) = out at *
    generalize mkB (Lib.itoa r.slot) = a1 at *
    generalize mkB (wordOf r.kind) = a2 at *
    generalize mkB (Lib.itoa r.flow) = a3 at *
    generalize mkB (Lib.itoa r.packet) = a4 at *
    generalize mkB (Lib.itoa r.why) = a5 at *
    generalize mkB (Lib.itoa r.value) = a6 at *
    have HJ := Lib.hid hj
    have H1 := Lib.hid hd1
    have HW := Lib.hid hw
    have H3 := Lib.hid hd3
    have H4 := Lib.hid hd4
    have H5 := Lib.hid hd5
    have H6 := Lib.hid hd6
    obtain ⟨s, k, f, p, y, u⟩ := r
    dsimp only at H1 H3 H4 H5 H6 hkn
    subst hkn
    unfold recV at hv ⊢
    dsimp only at hv ⊢
    clear hj hd1 hw hd3 hd4 hd5 hd6
    unfold recC at o1
    go_enter Tryz.func18, Tryz.ntmps18
    go_wp2_with fail
    refine hv.mono ?_
    rintro e1 w1 ⟨rfl, o2, k2⟩
    generalize w.heap.size = bx at *
    clear hv o1
    go_wp2
    refine wp_region_draws (fun L v wc => Own wc (Tb (L 19) (v 19) 9 [.string a1, .string a2, .string a3, .string a4, .string a5, .string a6] :: cel bx 39 [.int .i64 s, .int .i64 (kn : Int), .int .i64 f, .int .i64 p, .int .i64 y, .int .i64 u] :: old W :: R) ∧ Calm w wc ∧ OVals (fun i => ([some (.pointer (some ⟨bx, 0, none⟩)), some (.int .i64 s), some (.string a1), some (.pointer (some ⟨bx, 1, none⟩)), some (.int .i64 (kn : Int)), some (.pointer (some ⟨0, kn, none⟩)), some (.string a2), some (.pointer (some ⟨bx, 2, none⟩)), some (.int .i64 f), some (.string a3), some (.pointer (some ⟨bx, 3, none⟩)), some (.int .i64 p), some (.string a4), some (.pointer (some ⟨bx, 4, none⟩)), some (.int .i64 y), some (.string a5), some (.pointer (some ⟨bx, 5, none⟩)), some (.int .i64 u), some (.string a6), none, some (.string out), some (.string out), some (.int .i64 0)] : List (Option Value)).getD i none) L v) (by kernel_rfl) (by kernel_rfl) (by kernel_rfl) ?h0 ?step ?fin
    case h0 => exact ⟨Tb.no o2.drew, ⟨k2.al.os, k2.al.tape, k2.al.output⟩, OVals.no⟩
    case step =>
      refine ⟨DrawStep.mk rfl ?_, DrawStep.mk rfl ?_, DrawStep.mk rfl ?_, DrawStep.mk rfl ?_, DrawStep.mk rfl ?_, DrawStep.mk rfl ?_, DrawStep.mk rfl ?_, DrawStep.mk rfl ?_, DrawStep.mk rfl ?_, DrawStep.mk rfl ?_, DrawStep.mk rfl ?_, DrawStep.mk rfl ?_, DrawStep.mk rfl ?_, DrawStep.mk rfl ?_, DrawStep.mk rfl ?_, DrawStep.mk rfl ?_, DrawStep.mk rfl ?_, DrawStep.mk rfl ?_, DrawStep.mk rfl ?_, DrawStep.mk rfl ?_, DrawStep.mk rfl ?_, DrawStep.mk rfl ?_, DrawStep.mk rfl ?_, trivial⟩
      all_goals intro L v ac wc hL hd hA hI K' hK
      all_goals obtain ⟨oD, kD, hv⟩ := hI
      all_goals simp [Region.binds] at hd
      all_goals have HV := Lib.hid hv
      all_goals clear hv
      · have c1 := hA.base 1 (by rfl)
        simp only [List.getElem?_toArray, List.getElem?_cons_zero, List.getElem?_cons_succ, Option.getD_some] at c1
        go_simp
        exact hK.out (.pointer (some ⟨bx, 0, none⟩)) _ ⟨oD, kD, HV.out.put 0 (fun _ h => some_eq h)⟩
      · have h0 : L 0 = true := by simp [hd]
        have c7 : ac.tmps[7]?.getD undef = .pointer (some ⟨bx, 0, none⟩) := (hA.get 0 h0).trans (HV.out 0 _ rfl h0)
        have cc := (oD.up 1).cell 0
        go_simp
        exact hK.out (.int .i64 s) _ ⟨oD, kD, HV.out.put 1 (fun _ h => some_eq h)⟩
      · have h1 : L 1 = true := by simp [hd]
        have c8 : ac.tmps[8]?.getD undef = .int .i64 s := (hA.get 1 h1).trans (HV.out 1 _ rfl h1)
        go_simp
        refine (H1.out _ _ (oD.up 2)).mono ?_
        rintro _ w3 ⟨rfl, o3, k3⟩
        exact hK.out (.string a1) _ ⟨o3.re [1, 2, 0], kD.trans k3, HV.out.put 2 (fun _ h => some_eq h)⟩
      · have c1 := hA.base 1 (by rfl)
        simp only [List.getElem?_toArray, List.getElem?_cons_zero, List.getElem?_cons_succ, Option.getD_some] at c1
        go_simp
        exact hK.out (.pointer (some ⟨bx, 1, none⟩)) _ ⟨oD, kD, HV.out.put 3 (fun _ h => some_eq h)⟩
      · have h3 : L 3 = true := by simp [hd]
        have c10 : ac.tmps[10]?.getD undef = .pointer (some ⟨bx, 1, none⟩) := (hA.get 3 h3).trans (HV.out 3 _ rfl h3)
        have cc := (oD.up 1).cell 1
        go_simp
        exact hK.out (.int .i64 (kn : Int)) _ ⟨oD, kD, HV.out.put 4 (fun _ h => some_eq h)⟩
      · have h4 : L 4 = true := by simp [hd]
        have c11 : ac.tmps[11]?.getD undef = .int .i64 (kn : Int) := (hA.get 4 h4).trans (HV.out 4 _ rfl h4)
        go_simp
        exact hK.out (.pointer (some ⟨0, kn, none⟩)) _ ⟨oD, kD, HV.out.put 5 (fun _ h => some_eq h)⟩
      · have h5 : L 5 = true := by simp [hd]
        have c12 : ac.tmps[12]?.getD undef = .pointer (some ⟨0, kn, none⟩) := (hA.get 5 h5).trans (HV.out 5 _ rfl h5)
        have cc := HW.out _ _ (oD.up 2)
        go_simp
        exact hK.out (.string a2) _ ⟨oD, kD, HV.out.put 6 (fun _ h => some_eq h)⟩
      · have c1 := hA.base 1 (by rfl)
        simp only [List.getElem?_toArray, List.getElem?_cons_zero, List.getElem?_cons_succ, Option.getD_some] at c1
        go_simp
        exact hK.out (.pointer (some ⟨bx, 2, none⟩)) _ ⟨oD, kD, HV.out.put 7 (fun _ h => some_eq h)⟩
      · have h7 : L 7 = true := by simp [hd]
        have c14 : ac.tmps[14]?.getD undef = .pointer (some ⟨bx, 2, none⟩) := (hA.get 7 h7).trans (HV.out 7 _ rfl h7)
        have cc := (oD.up 1).cell 2
        go_simp
        exact hK.out (.int .i64 f) _ ⟨oD, kD, HV.out.put 8 (fun _ h => some_eq h)⟩
      · have h8 : L 8 = true := by simp [hd]
        have c15 : ac.tmps[15]?.getD undef = .int .i64 f := (hA.get 8 h8).trans (HV.out 8 _ rfl h8)
        go_simp
        refine (H3.out _ _ (oD.up 2)).mono ?_
        rintro _ w3 ⟨rfl, o3, k3⟩
        exact hK.out (.string a3) _ ⟨o3.re [1, 2, 0], kD.trans k3, HV.out.put 9 (fun _ h => some_eq h)⟩
      · have c1 := hA.base 1 (by rfl)
        simp only [List.getElem?_toArray, List.getElem?_cons_zero, List.getElem?_cons_succ, Option.getD_some] at c1
        go_simp
        exact hK.out (.pointer (some ⟨bx, 3, none⟩)) _ ⟨oD, kD, HV.out.put 10 (fun _ h => some_eq h)⟩
      · have h10 : L 10 = true := by simp [hd]
        have c17 : ac.tmps[17]?.getD undef = .pointer (some ⟨bx, 3, none⟩) := (hA.get 10 h10).trans (HV.out 10 _ rfl h10)
        have cc := (oD.up 1).cell 3
        go_simp
        exact hK.out (.int .i64 p) _ ⟨oD, kD, HV.out.put 11 (fun _ h => some_eq h)⟩
      · have h11 : L 11 = true := by simp [hd]
        have c18 : ac.tmps[18]?.getD undef = .int .i64 p := (hA.get 11 h11).trans (HV.out 11 _ rfl h11)
        go_simp
        refine (H4.out _ _ (oD.up 2)).mono ?_
        rintro _ w3 ⟨rfl, o3, k3⟩
        exact hK.out (.string a4) _ ⟨o3.re [1, 2, 0], kD.trans k3, HV.out.put 12 (fun _ h => some_eq h)⟩
      · have c1 := hA.base 1 (by rfl)
        simp only [List.getElem?_toArray, List.getElem?_cons_zero, List.getElem?_cons_succ, Option.getD_some] at c1
        go_simp
        exact hK.out (.pointer (some ⟨bx, 4, none⟩)) _ ⟨oD, kD, HV.out.put 13 (fun _ h => some_eq h)⟩
      · have h13 : L 13 = true := by simp [hd]
        have c20 : ac.tmps[20]?.getD undef = .pointer (some ⟨bx, 4, none⟩) := (hA.get 13 h13).trans (HV.out 13 _ rfl h13)
        have cc := (oD.up 1).cell 4
        go_simp
        exact hK.out (.int .i64 y) _ ⟨oD, kD, HV.out.put 14 (fun _ h => some_eq h)⟩
      · have h14 : L 14 = true := by simp [hd]
        have c21 : ac.tmps[21]?.getD undef = .int .i64 y := (hA.get 14 h14).trans (HV.out 14 _ rfl h14)
        go_simp
        refine (H5.out _ _ (oD.up 2)).mono ?_
        rintro _ w3 ⟨rfl, o3, k3⟩
        exact hK.out (.string a5) _ ⟨o3.re [1, 2, 0], kD.trans k3, HV.out.put 15 (fun _ h => some_eq h)⟩
      · have c1 := hA.base 1 (by rfl)
        simp only [List.getElem?_toArray, List.getElem?_cons_zero, List.getElem?_cons_succ, Option.getD_some] at c1
        go_simp
        exact hK.out (.pointer (some ⟨bx, 5, none⟩)) _ ⟨oD, kD, HV.out.put 16 (fun _ h => some_eq h)⟩
      · have h16 : L 16 = true := by simp [hd]
        have c23 : ac.tmps[23]?.getD undef = .pointer (some ⟨bx, 5, none⟩) := (hA.get 16 h16).trans (HV.out 16 _ rfl h16)
        have cc := (oD.up 1).cell 5
        go_simp
        exact hK.out (.int .i64 u) _ ⟨oD, kD, HV.out.put 17 (fun _ h => some_eq h)⟩
      · have h17 : L 17 = true := by simp [hd]
        have c24 : ac.tmps[24]?.getD undef = .int .i64 u := (hA.get 17 h17).trans (HV.out 17 _ rfl h17)
        go_simp
        refine (H6.out _ _ (oD.up 2)).mono ?_
        rintro _ w3 ⟨rfl, o3, k3⟩
        exact hK.out (.string a6) _ ⟨o3.re [1, 2, 0], kD.trans k3, HV.out.put 18 (fun _ h => some_eq h)⟩
      · have h2 : L 2 = true := by simp [hd]
        have c9 : ac.tmps[9]?.getD undef = .string a1 := (hA.get 2 h2).trans (HV.out 2 _ rfl h2)
        have h6 : L 6 = true := by simp [hd]
        have c13 : ac.tmps[13]?.getD undef = .string a2 := (hA.get 6 h6).trans (HV.out 6 _ rfl h6)
        have h9 : L 9 = true := by simp [hd]
        have c16 : ac.tmps[16]?.getD undef = .string a3 := (hA.get 9 h9).trans (HV.out 9 _ rfl h9)
        have h12 : L 12 = true := by simp [hd]
        have c19 : ac.tmps[19]?.getD undef = .string a4 := (hA.get 12 h12).trans (HV.out 12 _ rfl h12)
        have h15 : L 15 = true := by simp [hd]
        have c22 : ac.tmps[22]?.getD undef = .string a5 := (hA.get 15 h15).trans (HV.out 15 _ rfl h15)
        have h18 : L 18 = true := by simp [hd]
        have c25 : ac.tmps[25]?.getD undef = .string a6 := (hA.get 18 h18).trans (HV.out 18 _ rfl h18)
        rw [hL] at oD
        go_simp
        exact hK.out _ _ ⟨Tb.new oD _ (oD.alloc (.cells #[.string a1, .string a2, .string a3, .string a4, .string a5, .string a6] 9)), ⟨kD.os, kD.tape, kD.output⟩, HV.out.put 19 (fun _ h => by cases h)⟩
      · have h19 : L 19 = true := by simp [hd]
        have c26 := hA.get 19 h19
        obtain ⟨g, hg⟩ := Tb.val (show Own wc (Tb true (v 19) 9 [.string a1, .string a2, .string a3, .string a4, .string a5, .string a6] :: _) by rw [h19] at oD; exact oD)
        replace hg : v 19 = .slice (some ⟨g, 0, none⟩) 6 6 := hg
        rw [hg] at c26
        rw [h19, hg] at oD
        go_simp
        refine (HJ.out _ _ g oD).mono ?_
        rintro _ w3 ⟨rfl, o3, k3⟩
        exact hK.out (.string out) _ ⟨by rw [← hg] at o3; rw [show dIns L 20 19 = true from h19]; exact o3, kD.trans k3, HV.out.put 20 (fun _ h => some_eq h)⟩
      · have h20 : L 20 = true := by simp [hd]
        have c27 : ac.tmps[27]?.getD undef = .string out := (hA.get 20 h20).trans (HV.out 20 _ rfl h20)
        go_simp
        exact hK.out (.string out) _ ⟨oD, kD, HV.out.put 21 (fun _ h => some_eq h)⟩
      · go_simp
        exact hK.out (.int .i64 0) _ ⟨oD, kD, HV.out.put 22 (fun _ h => some_eq h)⟩
    case fin =>
      rintro L v wc hall ⟨oD, kD, hv⟩
      have e28 : v 21 = .string out := hv 21 _ rfl (hall 21 (by decide))
      have e29 : v 22 = .int .i64 0 := hv 22 _ rfl (hall 22 (by decide))
      clear hall hv
      simp only [putAll, Act.put, List.setIfInBounds_toArray, List.set_cons_zero, List.set_cons_succ]
      rw [e28, e29]
      go_wp2
      go_ret2
      exact ⟨rfl, oD.drop.drop, kD⟩
  · rw [if_neg hok, if_neg hok]
    rw [decide_eq_false hok] at hv
    clear hok
    unfold recV at hv ⊢
    unfold recC at o1
    go_enter Tryz.func18, Tryz.ntmps18
    go_wp2_with fail
    refine hv.mono ?_
    rintro e1 w1 ⟨rfl, o2, k2⟩
    go_wp2
    go_ret2
    exact ⟨rfl, o2.drop, k2.al⟩
end
end Go.Proofs.YtlccalkikjfimaaGreatDoor
