/- Records: the reference's EncodeLog; that both sides encode alike. -/
import Derived.Test.YtlccalkikjfimaaGreatDoorRdR
import Derived.Test.YtlccalkikjfimaaGreatDoorAps
import Derived.Test.YtlccalkikjfimaaGreatDoorByt
import Derived.Laws.Rows
namespace Go.Proofs.YtlccalkikjfimaaGreatDoor
open Go.RowKit
open Go.Shelf
open SP
theorem Tryz.elemU8 : ElemT Tryz.prog 41 5 1 1 := ElemT.mk' Tryz.underlying41 (z := .int .u8 0) (by kernel_rfl) (by kernel_rfl) (by omega)
section
variable {W w w' : World} {R : List SP} {Sp : SP}
theorem strOf_nums (l : List UInt8) : strOfNums (l.map fun b => (b.toNat : Int)) = mkB l := by
  unfold strOfNums mkB
  rw [List.map_map]
  congr 2
  conv => rhs; rw [← List.map_id l]
  apply List.map_congr_left
  intro b _
  simp
theorem byt_slc {T : TypeId} {g n c : Nat} {l : List UInt8} (o : Own w (slc T 1 (some ⟨g, 0, none⟩) n c (Lib.byteCells l) :: R)) : l.length = n ∧ ∀ i, i < n → w.cell? ⟨g, 0 + i, none⟩ = some (.int .u8 ((l.map fun b => (b.toNat : Int)).getD i 0)) := by
  have hl := (o.slc_len).1
  have hlen : (Lib.byteCells l).length = l.length := by unfold Lib.byteCells; exact List.length_map _
  refine ⟨by omega, fun i hi => ?_⟩
  obtain ⟨g', hg, hc, _⟩ := o.slc_cell (by omega)
  cases hg
  have h : l[i]? = some (l[i]'(by omega)) := List.getElem?_eq_getElem (by omega)
  rw [Nat.zero_add, hc i (.int .u8 ((l[i]'(by omega)).toNat : Int)) (by unfold Lib.byteCells; rw [List.getElem?_map, h]; rfl), List.getD_eq_getElem?_getD, List.getElem?_map, h]
  rfl
def EnRel (l : List Rec) (Sp : SP) (R : List SP) (w : World) (vi vo : Value) (wr : World) : Prop :=
  ∃ (i m : Nat) (a' : Option Addr) (c' : Nat), vi = .int .i64 (i : Int) ∧ i ≤ l.length ∧ vo = .slice a' m c' ∧ allOk (l.take i) = true ∧ m = (encT (l.take i)).length ∧ Own wr (slc 5 1 a' m c' (Lib.byteCells (encT (l.take i))) :: Sp :: R) ∧ Calm w wr
set_option maxHeartbeats 6400000 in
set_option maxRecDepth 100000 in
theorem refEncode_spec {l : List Rec} {a : Option Addr} {n c : Nat} (hS : RecsAt Sp a l) (hn : n = l.length) (hn2 : n ≤ 1000) (o : Own w (Sp :: R)) :
    Calls Tryz.prog 14 #[.slice a n c] w (Ret (.tuple #[.string (mkB (encL l).1), .int .i64 (encL l).2]) (Sp :: R) w) := by
  have hT1 : EnRel l Sp R w (.int .i64 0) (.slice none 0 0) w := ⟨0, 0, none, 0, rfl, by omega, rfl, rfl, rfl, Own.slc_nil o, Calm.refl w⟩
  have HN := Lib.hid hn
  have HS := Lib.hid hS
  clear hn hS o
  go_enter Tryz.func14, Tryz.ntmps14
  go_wp2
  go_loopw [5, 4] (fun vi vo wr => EnRel l Sp R w vi vo wr) (fun v _ _ => n - viN v)
  case atStart => exact hT1
  case round =>
    clear hT1
    obtain ⟨i, m, a', c', rfl, hi, rfl, hok, hm, oR, kR⟩ := hrel
    rw [← HN.out] at hi
    by_cases hlt : i < n
    · have dl : decide (i < n) = true := decide_eq_true hlt
      obtain ⟨r, hr⟩ : ∃ r, l[i]? = some r := ⟨_, List.getElem?_eq_getElem (by rw [← HN.out]; exact hlt)⟩
      obtain ⟨g, so, hg, d0, d1, d2, d3, d4, d5⟩ := HS.out.six (oR.up 1) hr
      subst hg
      have hf := refFormat_spec r oR
      have HBAD := Lib.hid fun (h : ¬ RecOk r) => encL_bad hr h
      have HOK := Lib.hid fun (h : RecOk r) => allOk_next hr h hok
      have HE := Lib.hid (encT_next hr)
      have hlen := encT_len _ hok
      rw [List.length_take, ← hm] at hlen
      have hfl := fun (h : RecOk r) => lineOf_len r h
      unfold recV at hf
      unfold fmtS fmtE at hf
      have HM := Lib.hid hm
      clear hr hok hm
      generalize encT (l.take i) = ET at *
      obtain ⟨s, k, f, p, y, u⟩ := r
      dsimp only at d0 d1 d2 d3 d4 d5 hf
      have hm2 : m ≤ 300000 := by omega
      clear hlen
      by_cases ho : RecOk ⟨s, k, f, p, y, u⟩
      · rw [if_pos ho, if_pos ho] at hf
        have hfl := hfl ho
        have HOK := Lib.hid (HOK.out ho)
        clear HBAD ho
        obtain ⟨LN, hLN⟩ : ∃ x, lineOf ⟨s, k, f, p, y, u⟩ = x := ⟨_, rfl⟩
        have hne : 0 < LN.length := by
          rw [← hLN]; unfold lineOf; simp; omega
        rw [hLN] at hf hfl
        have HE := Lib.hid (HE.out.trans (by rw [hLN]))
        clear hLN
        obtain ⟨LB, hLB⟩ : ∃ x, mkB LN = x := ⟨_, rfl⟩
        have hsz : LB.size = LN.length := by rw [← hLB]; rfl
        have hsc : Lib.strCells LB = Lib.byteCells LN := by rw [← hLB]; rfl
        rw [hLB] at hf
        clear hLB
        have HSC := Lib.hid hsc
        have HSZ := Lib.hid hsz
        have hs1 : 0 < LB.size := by omega
        have hs2 : LB.size ≤ 200 := by omega
        clear hsc hsz hfl
        go_wp2_with fail
        refine hf.mono ?_
        rintro e2 w2 ⟨rfl, o2, k2⟩
        clear hf
        go_wp2_with (at_builtin; refine wpList_append_str rfl _ _ rfl Tryz.elemU8 Tryz.underlying9 rfl o2 LB rfl hs1 (by unfold maxLen; omega) (by omega) ?_)
        intro a3 c3 w3 o3 k3
        have oA := o3.alloc (.cells #[.int .u8 10] 5)
        have hnw := Own.news (T := 5) (vs := [.int .u8 10]) oA
        go_wp2_with (at_builtin; refine wpList_append_slc rfl _ _ rfl Tryz.elemU8 rfl (oA.up 1) ⟨w3.heap.size, 0, none⟩ 1 1 [.int .u8 10] rfl rfl hnw (by intro z hz; simp at hz; rcases hz with rfl; rfl) (by unfold maxLen; omega) (by omega) ?_)
        intro a4 c4 w4 o4 k4
        go_wp2
        go_roundw
        case rel =>
          refine ⟨i + 1, m + LB.size + 1, a4, c4, by go_num, by rw [← HN.out]; omega, rfl, HOK.out, ?_, ?_, kR.trans (k2.trans (k3.trans ⟨k4.os, k4.tape, k4.output⟩))⟩
          · rw [HE.out, List.length_append, List.length_append, ← HM.out, HSZ.out]; rfl
          · rw [HE.out]
            have e : Lib.byteCells (ET ++ (LN ++ [10])) = Lib.byteCells ET ++ (Lib.strCells LB ++ [.int .u8 10]) := by
              rw [HSC.out]; unfold Lib.byteCells; rw [List.map_append, List.map_append]; rfl
            rw [e]
            exact (o4.up 1).drop
        case measure => simp [viN]; omega
      · rw [if_neg ho, if_neg ho] at hf
        have HV := Lib.hid (HBAD.out ho)
        clear HBAD HOK ho hfl
        go_wp2_with fail
        refine hf.mono ?_
        rintro e2 w2 ⟨rfl, o2, k2⟩
        clear hf
        go_wp2
        go_ret2
        exact ⟨by rw [HV.out]; rfl, o2.drop, kR.trans k2⟩
    · have dl : decide (i < n) = false := decide_eq_false hlt
      rw [List.take_of_length_le (by rw [← HN.out]; omega)] at hok hm oR
      have HV := Lib.hid (encL_ok hok)
      have HM := Lib.hid hm
      clear hok hm
      cases a' with
      | none =>
        have hnil : m = 0 ∧ encT l = [] := by
          rcases Own.slc.1 oR with ⟨_, h1, _, h3, _⟩ | ⟨b, sp, h, _⟩
          · refine ⟨h1, ?_⟩
            have := congrArg List.length h3
            unfold Lib.byteCells at this
            rw [List.length_map] at this
            exact List.eq_nil_of_length_eq_zero (by simpa using this)
          · cases h
        have hcv := run_convert_bytes_nil (P := Tryz.prog) wr 41 5 Tryz.underlying41 Tryz.underlying5 m c' 9 Tryz.underlying9
        have HNI := Lib.hid hnil.2
        clear hnil
        go_wp2
        go_ret2
        exact ⟨by rw [HV.out, HNI.out]; rfl, oR.drop, kR⟩
      | some ad =>
        obtain ⟨g, hg⟩ : ∃ g, ad = ⟨g, 0, none⟩ := by
          rcases Own.slc.1 oR with ⟨h, _⟩ | ⟨b, sp, h, _⟩
          · cases h
          · exact ⟨b, Option.some.inj h⟩
        subst hg
        obtain ⟨hbl, hbc⟩ := byt_slc oR
        have hcv := run_convert_bytes_arg (P := Tryz.prog) wr 41 5 Tryz.underlying41 Tryz.underlying5 g 0 m c' ((encT l).map fun b => (b.toNat : Int)) (by rw [List.length_map]; exact hbl) hbc 9 Tryz.underlying9
        rw [strOf_nums] at hcv
        clear hbl hbc
        obtain ⟨TX, hTX⟩ : ∃ T, mkB (encT l) = T := ⟨_, rfl⟩
        rw [hTX] at hcv
        have HTX := Lib.hid hTX
        clear hTX
        go_wp2
        go_ret2
        exact ⟨by rw [HV.out]; dsimp only; rw [HTX.out]; rfl, oR.drop, kR⟩
set_option maxHeartbeats 3200000 in
set_option maxRecDepth 100000 in
theorem encodes_spec {l : List Rec} {a : Option Addr} {n c : Nat} (hS : RecsAt Sp a l) (hn : n = l.length) (hn2 : n ≤ 1000) (hT : ∀ w1, Own w1 (Sp :: R) → TabsR w1) (o : Own w (Sp :: R)) :
    Calls Tryz.prog 7 #[.slice a n c] w (Ret (.bool true) (Sp :: R) w) := by
  have h1 := recEncodeG_spec hS hn (c := c) hn2 hT o
  have h2 := Lib.hid fun (w1 : World) (R1 : List SP) (o1 : Own w1 (Sp :: R1)) => refEncode_spec hS hn (c := c) hn2 o1
  generalize mkB (encL l).1 = X at *
  generalize (encL l).2 = er at *
  clear hS hn hT
  go_enter Tryz.func7, Tryz.ntmps7
  go_wp2_with fail
  refine h1.mono ?_
  rintro e1 w1 ⟨rfl, o1, k1⟩
  go_wp2_with fail
  refine (h2.out _ _ o1).mono ?_
  rintro e2 w2 ⟨rfl, o2, k2⟩
  go_wp2
  go_ret
  exact ⟨by first | rfl | simp, o2, k1.trans k2⟩
end
end Go.Proofs.YtlccalkikjfimaaGreatDoor
