/- Records: the program's Decode. -/
import Derived.Test.YtlccalkikjfimaaGreatDoorRdR
import Derived.Test.YtlccalkikjfimaaGreatDoorRdF
import Derived.Laws.Rows
namespace Go.Proofs.YtlccalkikjfimaaGreatDoor
open Go.RowKit
open Go.Shelf
open SP
section
variable {W w w' : World} {R : List SP}
theorem suffix_spec (s : ByteArray) (hs : s.size ≤ 9223372036854775807) : Calls Tryz.prog 24 #[.string s, .string ⟨#[10]⟩] w (IsRet (.tuple #[.string (if s.data.toList.getLast? = some 10 then mkB s.data.toList.dropLast else s), .bool (decide (s.data.toList.getLast? = some 10))]) w) := by
  refine Calls.mono (show Calls Tryz.prog 24 #[.string s, .string ⟨#[10]⟩] w _ from Any.strings_CutSuffix Tryz.laysCS s ⟨#[10]⟩ w hs) ?_
  rintro e w' ⟨rfl, rfl⟩
  refine ⟨?_, rfl⟩
  rw [show (⟨#[10]⟩ : ByteArray).data.toList = [10] from rfl]
  obtain ⟨d, rfl, hd⟩ := exB s
  rw [hd]
  have hsuf : Lib.hasSuffix d [10] = decide (d.getLast? = some 10) := by
    unfold Lib.hasSuffix
    rw [Bool.eq_iff_iff, decide_eq_true_eq, List.isSuffixOf_iff_suffix]
    constructor
    · rintro ⟨t, rfl⟩; simp
    · intro h
      have hne : d ≠ [] := fun e => by rw [e] at h; simp at h
      have hg : d.getLast hne = 10 := by rw [List.getLast?_eq_some_getLast hne] at h; exact Option.some.inj h
      exact ⟨d.dropLast, by have e := List.dropLast_concat_getLast hne; rw [hg] at e; exact e⟩
  unfold Lib.trimSuffix
  rw [hsuf]
  by_cases h : d.getLast? = some 10
  · rw [decide_eq_true h, if_pos h, if_pos rfl]
    have : (d.take (d.length - ([10] : List UInt8).length)) = d.dropLast := by rw [List.dropLast_eq_take]; rfl
    rw [this]; rfl
  · rw [decide_eq_false h, if_neg h, if_neg Bool.false_ne_true]; rfl
def DecPost (s : List UInt8) (R : List SP) (w : World) (e : Ending) (w' : World) : Prop :=
  ∃ (y : List Rec) (a : Option Addr) (n c m : Nat) (er : Int), e = .returned (.tuple #[.slice a n c, .int .i64 (m : Int), .int .i64 er]) ∧ decL s = (y, m, er) ∧ n = y.length ∧ n ≤ s.length ∧ Own w' (slc 39 6 a n c (flat recC y) :: R) ∧ Calm w w'
def DcRel (s : List UInt8) (L : List (List UInt8)) (aL : Option Addr) (cL : Nat) (W w : World) (R : List SP) (vi vo : Value) (wr : World) : Prop :=
  ∃ (j : Nat) (acc : List Rec) (a' : Option Addr) (c' : Nat), vi = .int .i64 (j : Int) ∧ j ≤ L.length ∧ vo = .slice a' j c' ∧ acc.length = j ∧ decL s = decGo (L.drop j) j acc ∧
    Own wr (slc 39 6 a' j c' (flat recC acc) :: slc 9 1 aL L.length cL (strs L) :: old W :: R) ∧ Calm w wr
set_option maxHeartbeats 12800000 in
set_option maxRecDepth 100000 in
theorem recDecode_spec (s : ByteArray) (hs : s.size ≤ 100000) (hm : MaxV W) (he : ErrW W) (hT : TabsR W) (o : Own w (old W :: R)) : Calls Tryz.prog 15 #[.string s] w (DecPost s.data.toList (old W :: R) w) := by
  have hl : s.data.toList.length = s.size := (Lib.size_eq s).symm
  have hem := emptyB s
  have hsf := suffix_spec (w := w) s (by omega)
  obtain ⟨d, hd⟩ : ∃ d, s.data.toList = d := ⟨_, rfl⟩
  rw [hd] at hem hl hsf ⊢
  by_cases h0 : d = []
  · rw [decide_eq_true h0] at hem
    have HV := Lib.hid (show decL d = ([], 0, 0) by unfold decL; rw [if_pos h0])
    clear hsf h0 hd
    go_enter Tryz.func15, Tryz.ntmps15
    go_wp2
    go_ret3
    exact ⟨[], none, 0, 0, 0, 0, rfl, HV.out, rfl, by omega, Own.slc_nil o, Calm.refl _⟩
  rw [decide_eq_false h0] at hem
  by_cases h1 : d.getLast? = some 10
  · rw [if_pos h1, decide_eq_true h1] at hsf
    have hV := show decL d = decGo (spl 10 d.dropLast) 0 [] by unfold decL; rw [if_neg h0, if_pos h1]
    have hdl : d.dropLast.length ≤ 100000 := by rw [List.length_dropLast]; omega
    have hcnt := spl_count_le 10 d.dropLast
    have hne : 1 ≤ d.length := by
      cases d with
      | nil => exact absurd rfl h0
      | cons => simp
    rw [List.length_dropLast] at hcnt
    have hS := fun (w1 : World) (R1 R2 : List SP) (o1 : Own w1 (old W :: R1)) (o2 : Own w1 R2) => split_spec 10 (mkB d.dropLast) (by rw [mkB_size]; omega) hm o1 R2 o2
    have hsz := spl_len 10 d.dropLast
    rw [mkB_data] at hS
    have HSZ := Lib.hid fun (j : Nat) (p : List UInt8) (h : (spl 10 d.dropLast)[j]? = some p) => show (mkB p).size ≤ 1000000 by rw [mkB_size]; have := hsz p (List.mem_of_getElem? h); omega
    have HP := Lib.hid fun (x : List UInt8) (hx : (mkB x).size ≤ 1000000) (w1 : World) (R1 : List SP) (o1 : Own w1 (old W :: R1)) => (show Calls Tryz.prog 26 #[.string (mkB x)] w1 (Ret (prL (parseL x)) (old W :: R1) w1) from recParse_spec (mkB x) hx hm he hT o1)
    have hS2 := hS w R _ o o
    generalize spl 10 d.dropLast = L at *
    have hLn : L.length ≤ d.length := by omega
    have HV := Lib.hid hV
    clear hS hsz hcnt hV h0 h1 hd hm he hT
    generalize mkB d.dropLast = DB at *
    go_enter Tryz.func15, Tryz.ntmps15
    go_wp2_with fail
    refine hsf.mono ?_
    rintro e1 w1 ⟨rfl, rfl⟩
    go_wp2_with fail
    refine hS2.mono ?_
    rintro e2 w2 ⟨aL, cL, rfl, o2, k2⟩
    have hT1 : DcRel d L aL cL W w R (.int .i64 0) (.slice none 0 0) w2 := ⟨0, [], none, 0, rfl, by omega, rfl, rfl, by rw [HV.out, List.drop_zero], Own.slc_nil o2, k2⟩
    clear hsf hS2 o2 k2 o
    go_wp2
    go_loopw [23, 6] (fun vi vo wr => DcRel d L aL cL W w R vi vo wr) (fun v _ _ => L.length - viN v)
    case atStart => exact hT1
    case round =>
      clear hT1
      obtain ⟨j, acc, a', c', rfl, hj, rfl, hacc, hgo, oR, kR⟩ := hrel
      by_cases hlt : j < L.length
      · have dl : decide (j < L.length) = true := decide_eq_true hlt
        obtain ⟨x, hx⟩ : ∃ x, L[j]? = some x := ⟨_, List.getElem?_eq_getElem hlt⟩
        obtain ⟨gL, hgL⟩ : ∃ g, aL = some ⟨g, 0, none⟩ := by
          obtain ⟨g, hg, _⟩ := (oR.up 1).slc_cell (by omega)
          exact ⟨g, hg⟩
        subst hgL
        have s1 := strs_cell (oR.up 1) hx
        have hsl := (oR.up 1).slc_len
        have hp := HP.out x (HSZ.out j x hx) _ _ (oR.up 2)
        have hdr : L.drop j = x :: L.drop (j + 1) := by
          rw [List.drop_eq_getElem_cons hlt, (List.getElem?_eq_some_iff.1 hx).2]
        rw [hdr] at hgo
        have HG := Lib.hid hgo
        have HAC := Lib.hid hacc
        clear hx hgo hdr hacc
        unfold prL recV at hp
        have HX := Lib.hid (show decGo (x :: L.drop (j + 1)) j acc = if (parseL x).2 = 0 then decGo (L.drop (j + 1)) (j + 1) (acc ++ [(parseL x).1]) else ([], j + 1, (parseL x).2) from rfl)
        generalize hpx : parseL x = px at *
        generalize mkB x = XB at *
        clear hpx
        obtain ⟨⟨x0, x1, x2, x3, x4, x5⟩, er⟩ := px
        dsimp only at hp
        go_wp2_with fail
        refine hp.mono ?_
        rintro e3 w3 ⟨rfl, o3, k3⟩
        have K3 := kR.trans k3
        have oB := o3.alloc (.cells #[.int .i64 x0, .int .i64 x1, .int .i64 x2, .int .i64 x3, .int .i64 x4, .int .i64 x5] 39)
        have y0 := oB.cell 0
        have y1 := oB.cell 1
        have y2 := oB.cell 2
        have y3 := oB.cell 3
        have y4 := oB.cell 4
        have y5 := oB.cell 5
        have yl := oB.celLt
        clear s1 hp k3 kR oR
        by_cases h0 : er = 0
        · subst h0
          have HX2 := Lib.hid (HG.out.trans (HX.out.trans (if_pos rfl)))
          clear HG HX
          have oA := oB.alloc (.cells #[.int .i64 x0, .int .i64 x1, .int .i64 x2, .int .i64 x3, .int .i64 x4, .int .i64 x5] 39)
          have hnw := Own.news (T := 39) (vs := [.int .i64 x0, .int .i64 x1, .int .i64 x2, .int .i64 x3, .int .i64 x4, .int .i64 x5]) oA
          simp only [World.size_alloc] at hnw
          go_wp2_with (at_builtin; refine wpList_append_slc rfl _ _ rfl Tryz.recT rfl (oA.up 3) ⟨w3.heap.size + 1, 0, none⟩ 1 1 [.int .i64 x0, .int .i64 x1, .int .i64 x2, .int .i64 x3, .int .i64 x4, .int .i64 x5] rfl rfl hnw (by intro z hz; simp at hz; rcases hz with rfl | rfl | rfl | rfl | rfl | rfl <;> rfl) (by unfold maxLen; omega) (by omega) ?_)
          intro a4 c4 w4 o4 k4
          go_wp2
          go_roundw
          case rel =>
            refine ⟨j + 1, acc ++ [⟨x0, x1, x2, x3, x4, x5⟩], a4, c4, by go_num, by omega, rfl, by rw [List.length_append, HAC.out]; rfl, HX2.out, ?_, K3.trans ⟨k4.os, k4.tape, k4.output⟩⟩
            rw [flat_append, show flat recC [(⟨x0, x1, x2, x3, x4, x5⟩ : Rec)] = [.int .i64 x0, .int .i64 x1, .int .i64 x2, .int .i64 x3, .int .i64 x4, .int .i64 x5] from rfl]
            exact (o4.re [1, 2, 0, 4, 3]).drop.drop
          case measure => simp [viN]; omega
        · have hne : (er != 0) = true := bne_iff_ne.2 h0
          have HX2 := Lib.hid (HG.out.trans (HX.out.trans (if_neg h0)))
          clear HG HX
          go_wp2
          go_ret3
          exact ⟨[], none, 0, 0, j + 1, er, by go_num, HX2.out, rfl, by omega, Own.slc_nil ((oB.re [0, 2, 3, 1]).drop.drop.drop), rcalm_alloc K3⟩
      · have hje : j = L.length := by omega
        subst hje
        rw [List.drop_length] at hgo
        have HG := Lib.hid (show decL d = (acc, L.length, 0) from hgo)
        have d2 : decide (262144 < L.length) = false := decide_eq_false (by omega)
        clear hgo
        go_wp2
        go_ret3
        exact ⟨acc, a', L.length, c', L.length, 0, rfl, HG.out, hacc.symm, hLn, (oR.up 1).drop, kR⟩
  · rw [if_neg h1, decide_eq_false h1] at hsf
    have HV := Lib.hid (show decL d = ([], 0, 9) by unfold decL; rw [if_neg h0, if_neg h1])
    clear h0 h1 hd
    go_enter Tryz.func15, Tryz.ntmps15
    go_wp2_with fail
    refine hsf.mono ?_
    rintro e1 w1 ⟨rfl, rfl⟩
    go_wp2
    go_ret3
    exact ⟨[], none, 0, 0, 0, 9, rfl, HV.out, rfl, by omega, Own.slc_nil o, Calm.refl _⟩
end
end Go.Proofs.YtlccalkikjfimaaGreatDoor
