/- Records: the reference's DecodeLog; that both sides decode alike. -/
import Derived.Test.YtlccalkikjfimaaGreatDoorRdS
import Derived.Test.YtlccalkikjfimaaGreatDoorRdG
import Derived.Test.YtlccalkikjfimaaGreatDoorRcG
import Derived.Laws.Rows
namespace Go.Proofs.YtlccalkikjfimaaGreatDoor
open Go.RowKit
open Go.Shelf
open SP
/-- The lines that are still to come when the text is read from a place. -/
def remL (s : List UInt8) (f : Nat) : List (List UInt8) := if f < s.length then spl 10 (s.dropLast.drop f) else []
theorem remL_next {s : List UInt8} {f i : Nat} (hfi : f ≤ i) (hi : i < s.length) (hc : s[i]? = some 10) (hno : (10 : UInt8) ∉ (s.drop f).take (i - f)) : remL s f = (s.drop f).take (i - f) :: remL s (i + 1) := by
  unfold remL
  rw [if_pos (by omega)]
  have hd : s.dropLast = s.take (s.length - 1) := List.dropLast_eq_take
  by_cases hl : i + 1 < s.length
  · rw [if_pos hl]
    have e : s.dropLast.drop f = (s.drop f).take (i - f) ++ 10 :: s.dropLast.drop (i + 1) := by
      have e1 : s.dropLast.drop f = (s.dropLast.drop f).take (i - f) ++ (s.dropLast.drop f).drop (i - f) := (List.take_append_drop _ _).symm
      rw [List.drop_drop, show f + (i - f) = i by omega] at e1
      have hi2 : i < s.dropLast.length := by rw [List.length_dropLast]; omega
      have hg : s.dropLast[i] = 10 := by
        rw [List.getElem_dropLast]
        exact (List.getElem?_eq_some_iff.1 hc).2
      rw [List.drop_eq_getElem_cons hi2, hg] at e1
      rw [e1]
      congr 1
      rw [hd, List.drop_take, List.take_take, Nat.min_eq_left (by omega)]
    rw [e, spl_append _ hno]
  · rw [if_neg hl]
    have hie : i = s.length - 1 := by omega
    have e : s.dropLast.drop f = (s.drop f).take (i - f) := by rw [hd, List.drop_take, hie]
    rw [e, spl_none hno]
theorem decL_rem {s : List UInt8} (h0 : s ≠ []) (h1 : s.getLast? = some 10) : decL s = decGo (remL s 0) 0 [] := by
  unfold decL remL
  rw [if_neg h0, if_pos h1, if_pos (by cases s with | nil => exact absurd rfl h0 | cons => simp), List.drop_zero]
section
variable {W w w' : World} {R : List SP}
def DeRel (s : List UInt8) (R : List SP) (w : World) (vi vf vo : Value) (wr : World) : Prop :=
  ∃ (i f : Nat) (acc : List Rec) (a' : Option Addr) (m c' : Nat), vi = .int .i64 (i : Int) ∧ vf = .int .i64 (f : Int) ∧ f ≤ i ∧ i ≤ s.length ∧ (10 : UInt8) ∉ (s.drop f).take (i - f) ∧ vo = .slice a' m c' ∧ m = acc.length ∧ m ≤ i ∧ decL s = decGo (remL s f) m acc ∧
    (i = s.length → f = s.length) ∧ Own wr (slc 39 6 a' m c' (flat recC acc) :: R) ∧ Calm w wr
theorem take_snocB {s : List UInt8} {f i : Nat} {b : UInt8} (hfi : f ≤ i) (hb : s[i]? = some b) : (s.drop f).take (i + 1 - f) = (s.drop f).take (i - f) ++ [b] := by
  rw [show i + 1 - f = (i - f) + 1 by omega, List.take_add_one, List.getElem?_drop, show f + (i - f) = i by omega, hb]; rfl
set_option maxHeartbeats 12800000 in
set_option maxRecDepth 100000 in
theorem refDecode_spec (s : ByteArray) (hs : s.size ≤ 100000) (o : Own w R) : Calls Tryz.prog 16 #[.string s] w (DecPost s.data.toList R w) := by
  have hl : s.data.toList.length = s.size := (Lib.size_eq s).symm
  have HG := Lib.hid fun (i : Nat) (h : i < s.size) => getB s i h
  by_cases hz : s.size = 0
  · have h0 : s.data.toList = [] := List.eq_nil_of_length_eq_zero (by omega)
    have d0 : decide (0 < s.size) = false := decide_eq_false (by omega)
    have d1 : decide ((0 : Int) < (s.size : Int)) = false := decide_eq_false (by omega)
    have HV := Lib.hid (show decL s.data.toList = ([], 0, 0) by rw [h0]; rfl)
    clear h0 HG
    go_enter Tryz.func16, Tryz.ntmps16
    go_wp2
    refine wp_loop_rounds 1 ?_
    rw [rounds_succ]
    go_wp2
    go_ret3
    exact ⟨[], none, 0, 0, 0, 0, rfl, HV.out, rfl, by omega, Own.slc_nil o, Calm.refl _⟩
  have hz0 : 0 < s.size := by omega
  have d0 : decide (0 < s.size) = true := decide_eq_true hz0
  obtain ⟨z, hzz⟩ : ∃ z, s.size = z + 1 := ⟨s.size - 1, by omega⟩
  have hzl : z < s.size := by omega
  have gz := HG.out z hzl
  have h0 : s.data.toList ≠ [] := fun e => by rw [e] at hl; simp at hl; omega
  have hlast : s.data.toList.getLast? = some (s[z]'hzl) := by rw [List.getLast?_eq_getElem?, hl, hzz, Nat.add_sub_cancel]; exact gz
  have hz1 : (s.size : Int) - 1 = (z : Int) := by omega
  by_cases h1 : s[z]'hzl = 10
  · have e4 : ((((s[z]'hzl).toNat : Nat) : Int) == 10) = true := by rw [h1]; rfl
    have e5 : (s[z]'hzl).toNat = 10 := by rw [h1]; rfl
    rw [h1] at hlast
    have HV := Lib.hid (decL_rem h0 hlast)
    have hT1 : DeRel s.data.toList R w (.int .i64 0) (.int .i64 0) (.slice none 0 0) w := ⟨0, 0, [], none, 0, 0, rfl, rfl, by omega, by omega, by simp, rfl, rfl, by omega, HV.out, by omega, Own.slc_nil o, Calm.refl w⟩
    have HZ := Lib.hid (show ∀ i (h : i < s.size), i + 1 = s.size → s[i]'h = 10 from fun i h hi => by
      have : i = z := by omega
      subst this; exact h1)
    have HL := Lib.hid hl
    clear h0 hlast gz h1 o hl
    go_enter Tryz.func16, Tryz.ntmps16
    go_wp2
    go_loopw [7, 6, 5] (fun vi vf vo wr => DeRel s.data.toList R w vi vf vo wr) (fun v _ _ _ => s.size - viN v)
    case atStart => exact hT1
    case round =>
      clear hT1
      obtain ⟨i, f, acc, a', m, c', rfl, rfl, hfi, hi, hno, rfl, hm, hmi, hgo, hend, oR, kR⟩ := hrel
      rw [HL.out] at hi hend
      by_cases hlt : i < s.size
      · have dl : decide (i < s.size) = true := decide_eq_true hlt
        have gi := HG.out i hlt
        by_cases hc : s[i]'hlt = 10
        · have e4 : ((((s[i]'hlt).toNat : Nat) : Int) != 10) = false := by rw [hc]; rfl
          have e5 : (s[i]'hlt).toNat = 10 := by rw [hc]; rfl
          rw [hc] at gi
          have hrem := remL_next hfi (by rw [HL.out]; exact hlt) gi hno
          rw [hrem] at hgo
          have hxd := Lib.extract_data s f i
          have hxs : (s.extract f i).size ≤ 1000000 := by rw [ByteArray.size_extract]; omega
          have hp := Lib.hid fun (w1 : World) (R1 : List SP) (o1 : Own w1 R1) => refParse27_spec (s.extract f i) hxs o1
          rw [hxd] at hp
          generalize (s.data.toList.drop f).take (i - f) = x at *
          obtain ⟨XS, hXS⟩ : ∃ X, s.extract f i = X := ⟨_, rfl⟩
          rw [hXS] at hp
          have HX := Lib.hid (show decGo (x :: remL s.data.toList (i + 1)) m acc = if (parseL x).2 = 0 then decGo (remL s.data.toList (i + 1)) (m + 1) (acc ++ [(parseL x).1]) else ([], m + 1, (parseL x).2) from rfl)
          have HGO := Lib.hid hgo
          have HM := Lib.hid hm
          clear gi hrem hgo hxd hxs hno hm hend hc
          generalize hpx : parseL x = px at *
          clear hpx
          obtain ⟨⟨x0, x1, x2, x3, x4, x5⟩, er⟩ := px
          unfold prL recV at hp
          dsimp only at hp
          go_wp2_with fail
          refine (hp.out _ _ oR).mono ?_
          rintro e3 w3 ⟨rfl, o3, k3⟩
          have K3 := kR.trans k3
          have oB := o3.alloc (.cells #[.int .i64 x0, .int .i64 x1, .int .i64 x2, .int .i64 x3, .int .i64 x4, .int .i64 x5] 39)
          have y0 := oB.cell 0
          have y1 := oB.cell 1
          have y2 := oB.cell 2
          have y3 := oB.cell 3
          have y4 := oB.cell 4
          have y5 := oB.cell 5
          have yl := oB.celLt
          clear hp k3 kR oR
          by_cases h0 : er = 0
          · subst h0
            have HX2 := Lib.hid (HGO.out.trans (HX.out.trans (if_pos rfl)))
            clear HGO HX
            have oA := oB.alloc (.cells #[.int .i64 x0, .int .i64 x1, .int .i64 x2, .int .i64 x3, .int .i64 x4, .int .i64 x5] 39)
            have hnw := Own.news (T := 39) (vs := [.int .i64 x0, .int .i64 x1, .int .i64 x2, .int .i64 x3, .int .i64 x4, .int .i64 x5]) oA
            simp only [World.size_alloc] at hnw
            go_wp2_with (at_builtin; refine wpList_append_slc rfl _ _ rfl Tryz.recT rfl (oA.up 2) ⟨w3.heap.size + 1, 0, none⟩ 1 1 [.int .i64 x0, .int .i64 x1, .int .i64 x2, .int .i64 x3, .int .i64 x4, .int .i64 x5] rfl rfl hnw (by intro z hz; simp at hz; rcases hz with rfl | rfl | rfl | rfl | rfl | rfl <;> rfl) (by unfold maxLen; omega) (by omega) ?_)
            intro a4 c4 w4 o4 k4
            go_wp2
            go_roundw
            case rel =>
              refine ⟨i + 1, i + 1, acc ++ [⟨x0, x1, x2, x3, x4, x5⟩], a4, m + 1, c4, by go_num, by go_num, by omega, by rw [HL.out]; omega, by simp, rfl, by rw [List.length_append, ← HM.out]; rfl, by omega, HX2.out, fun h => h, ?_, K3.trans ⟨k4.os, k4.tape, k4.output⟩⟩
              rw [flat_append, show flat recC [(⟨x0, x1, x2, x3, x4, x5⟩ : Rec)] = [.int .i64 x0, .int .i64 x1, .int .i64 x2, .int .i64 x3, .int .i64 x4, .int .i64 x5] from rfl]
              exact (o4.re [1, 2, 0]).drop.drop
            case measure => simp [viN]; omega
          · have hne : (er != 0) = true := bne_iff_ne.2 h0
            have HX2 := Lib.hid (HGO.out.trans (HX.out.trans (if_neg h0)))
            clear HGO HX
            go_wp2
            go_ret3
            exact ⟨[], none, 0, 0, m + 1, er, by go_num, HX2.out, rfl, by omega, Own.slc_nil oB.drop.drop, rcalm_alloc K3⟩
        · have e4 : ((((s[i]'hlt).toNat : Nat) : Int) != 10) = true := bne_iff_ne.2 fun e => hc (UInt8.toNat_inj.1 (by show _ = 10; omega))
          have e5 : ¬ (s[i]'hlt).toNat = 10 := fun e => hc (UInt8.toNat_inj.1 (by show _ = 10; omega))
          have hno2 : (10 : UInt8) ∉ (s.data.toList.drop f).take (i + 1 - f) := by
            rw [take_snocB hfi gi]
            simp only [List.mem_append, List.mem_singleton, not_or]
            exact ⟨hno, fun e => hc e.symm⟩
          have hne : i + 1 ≠ s.size := fun e => hc (HZ.out i hlt e)
          have HNO := Lib.hid hno2
          have HGO := Lib.hid hgo
          have HM := Lib.hid hm
          clear hno hno2 hgo gi hc hm hend
          go_wp2
          go_roundw
          case rel => exact ⟨i + 1, f, acc, a', m, c', by go_num, rfl, by omega, by rw [HL.out]; omega, HNO.out, rfl, HM.out, by omega, HGO.out, fun e => absurd (by rw [← HL.out]; exact e) hne, oR, kR⟩
          case measure => simp [viN]; omega
      · have hie : i = s.size := by omega
        have hf := hend hie
        have HV2 := Lib.hid (show decL s.data.toList = (acc, m, 0) by rw [hgo, hf]; unfold remL; rw [HL.out, if_neg (Nat.lt_irrefl _)]; rfl)
        have dl : decide (i < s.size) = false := decide_eq_false hlt
        have d2 : decide (262144 < m) = false := decide_eq_false (by omega)
        have HM := Lib.hid hm
        have HML := Lib.hid (show m ≤ s.data.toList.length by rw [HL.out]; omega)
        clear hgo hf hend hno hm
        go_wp2
        go_ret3
        exact ⟨acc, a', m, c', m, 0, rfl, HV2.out, HM.out, HML.out, oR, kR⟩
  · have e4 : ((((s[z]'hzl).toNat : Nat) : Int) != 10) = true := bne_iff_ne.2 fun e => h1 (UInt8.toNat_inj.1 (by show _ = 10; omega))
    have e5 : ¬ (s[z]'hzl).toNat = 10 := fun e => h1 (UInt8.toNat_inj.1 (by show _ = 10; omega))
    have HV := Lib.hid (show decL s.data.toList = ([], 0, 9) by unfold decL; rw [if_neg h0, if_neg (by rw [hlast]; intro e; exact h1 (Option.some.inj e))])
    clear h0 hlast gz h1 hl
    go_enter Tryz.func16, Tryz.ntmps16
    go_wp2
    go_ret3
    exact ⟨[], none, 0, 0, 0, 9, rfl, HV.out, rfl, by omega, Own.slc_nil o, Calm.refl _⟩
set_option maxHeartbeats 3200000 in
set_option maxRecDepth 100000 in
theorem decodes_spec (s : ByteArray) (hs : s.size ≤ 3000) (hm : MaxV W) (he : ErrW W) (hT : TabsR W) (o : Own w (old W :: R)) : Calls Tryz.prog 9 #[.string s] w (Ret (.bool true) (old W :: R) w) := by
  have h1 := recDecode_spec s (by omega) hm he hT o
  have h2 := Lib.hid fun (w1 : World) (R1 : List SP) (o1 : Own w1 R1) => refDecode_spec s (by omega) o1
  have hl : s.data.toList.length = s.size := (Lib.size_eq s).symm
  rw [← hl] at hs
  generalize s.data.toList = d at *
  clear hm he hT hl
  go_enter Tryz.func9, Tryz.ntmps9
  go_wp2_with fail
  refine h1.mono ?_
  rintro e1 w1 ⟨y, a, n, c, m, er, rfl, hd1, hn1, hn2, o1, k1⟩
  have HD1 := Lib.hid hd1
  have HN1 := Lib.hid hn1
  have hn3 : n ≤ 1000000 := by omega
  clear h1 hd1 hn1 hn2
  go_wp2_with fail
  refine (h2.out _ _ o1).mono ?_
  rintro e2 w2 ⟨y', a', n', c', m', er', rfl, hd2, hn1', _, o2, k2⟩
  rw [HD1.out] at hd2
  simp only [Prod.mk.injEq] at hd2
  obtain ⟨rfl, rfl, rfl⟩ := hd2
  have hnn : n' = n := hn1'.trans HN1.out.symm
  subst hnn
  have hE := equalR_spec HN1.out hn3 (o2.re [1, 0])
  clear hn1' h2
  go_wp2_with fail
  refine hE.mono ?_
  rintro e3 w3 ⟨rfl, o3, k3⟩
  go_wp2
  go_ret
  exact ⟨by first | rfl | simp, o3.drop.drop, k1.trans (k2.trans k3)⟩
end
end Go.Proofs.YtlccalkikjfimaaGreatDoor
