/- Records: words, numerals and kinds by the program and the library. -/
import Derived.Test.YtlccalkikjfimaaGreatDoorRdA
import Derived.Test.YtlccalkikjfimaaGreatDoorShelfP
import Derived.Test.YtlccalkikjfimaaGreatDoorCells
import Derived.Laws.Rows
namespace Go.Proofs.YtlccalkikjfimaaGreatDoor
open Go.RowKit
open Go.Shelf
open SP
theorem Tryz.elemSt : ElemT Tryz.prog 42 9 1 16 := ElemT.mk' Tryz.underlying42 (z := .string ⟨#[]⟩) (by kernel_rfl) (by kernel_rfl) (by omega)
/-- The library's MaxLen holds some number. -/
def MaxV (w : World) : Prop := ∃ m, w.cell? ⟨Tryz.laysSp_ren.g 1, 0, none⟩ = some (.int .i64 m)
/-- The library's ErrRange holds nil or some error. -/
def ErrW (w : World) : Prop := ∃ ev, w.cell? ⟨Tryz.laysPI_ren.g 16, 0, none⟩ = some ev ∧ (ev = .nilIface ∨ ∃ te pe, ev = .iface te pe)
section
variable {W w w' : World} {R : List SP}
def Words (L : List (List UInt8)) (R : List SP) (w : World) (e : Ending) (w' : World) : Prop :=
  ∃ a c, e = .returned (.slice a L.length c) ∧ Own w' (slc 9 1 a L.length c (strs L) :: R) ∧ Calm w w'
def WdRel (s : ByteArray) (R : List SP) (w : World) (v3 v4 : Value) (wr : World) : Prop :=
  ∃ (i n c : Nat) (a : Option Addr), v4 = .int .i64 (i : Int) ∧ i ≤ s.size ∧ v3 = .slice a n c ∧ (spl 32 (s.data.toList.take i)).length = n ∧ Own wr (slc 9 1 a n c (strs (spl 32 (s.data.toList.take i))) :: R) ∧ Calm w wr
set_option maxHeartbeats 3200000 in
set_option maxRecDepth 100000 in
theorem refParts_spec (s : ByteArray) (hs : s.size < 4294967281) (o : Own w R) :
    Calls Tryz.prog 39 #[.string s] w (Words (spl 32 s.data.toList) R w) := by
  have hl : s.data.toList.length = s.size := (Lib.size_eq s).symm
  have o1 := o.alloc (.cells #[.string ⟨#[]⟩] 9)
  have hT : WdRel s R w (.slice (some ⟨w.heap.size, 0, none⟩) 1 1) (.int .i64 0) (w.alloc (.cells #[.string ⟨#[]⟩] 9)) :=
    ⟨0, 1, 1, _, rfl, by omega, rfl, rfl, Own.slc.2 (.inr ⟨w.heap.size, [], rfl, by omega, by unfold maxLen; omega, rfl, rfl, o1⟩), ⟨rfl, rfl, rfl⟩⟩
  clear o1
  go_enter Tryz.func39, Tryz.ntmps39
  go_wp2
  go_loopw [3, 4] (fun v3 v4 wr => WdRel s R w v3 v4 wr) (fun _ v _ => s.size - viN v)
  case atStart => exact hT
  case round =>
    clear hT
    obtain ⟨i, n, c, a, rfl, hi, rfl, hn, oR, kR⟩ := hrel
    have hcnt := spl_length 32 (s.data.toList.take i)
    have hcl := List.count_le_length (a := (32 : UInt8)) (l := s.data.toList.take i)
    rw [List.length_take] at hcl
    have hni : n ≤ i + 1 := by omega
    clear hcnt hcl
    by_cases hlt : i < s.size
    · have dl : decide (i < s.size) = true := decide_eq_true hlt
      have gi := getB s i hlt
      obtain ⟨init, last, h1, h2, h3⟩ := spl_snoc 32 (s.data.toList.take i)
      have hlast := spl_len 32 (s.data.toList.take i) last (by rw [h1]; simp)
      rw [List.length_take] at hlast
      have hst : s.data.toList.take (i + 1) = s.data.toList.take i ++ [s[i]'hlt] := by rw [List.take_add_one, gi]; rfl
      by_cases c1 : (s[i]'hlt).toNat = 32
      · have e4 : ((((s[i]'hlt).toNat : Nat) : Int) == 32) = true := by rw [c1]; rfl
        have hb : s[i]'hlt = 32 := UInt8.toNat_inj.1 c1
        rw [hb, ] at hst
        have HS := Lib.hid (hst ▸ h2)
        rw [h1] at oR hn
        clear h1 h2 h3 hst hb gi
        have oN := (oR.alloc (.cells #[.string ⟨#[]⟩] 9)).up 1
        go_wp2_with (at_builtin; refine wpList_append_slc rfl _ _ rfl Tryz.elemSt rfl oN ⟨wr.heap.size, 0, none⟩ 1 1 [.string ⟨#[]⟩] rfl rfl ?c1 ?c2 ?c3 ?c4 ?c5)
        case c1 => exact Own.news (T := 9) (oR.alloc _)
        case c2 => intro u hu; simp at hu; rcases hu with rfl; rfl
        case c3 => unfold maxLen; omega
        case c4 => omega
        case c5 =>
          intro a' c' w1 o2 k2
          go_wp2
          go_roundw
          case rel =>
            refine ⟨i + 1, n + 1, c', a', by go_num, by omega, rfl, ?_, ?_, kR.trans k2.al⟩
            · rw [HS.out, List.length_append, hn]; rfl
            · rw [HS.out]
              have e : strs (init ++ [last] ++ [[]]) = strs (init ++ [last]) ++ [.string ⟨#[]⟩] := by unfold strs; rw [List.map_append]; rfl
              rw [e]
              exact o2.up 1 |>.drop
          case measure => simp [viN]; omega
      · have e4 : ((((s[i]'hlt).toNat : Nat) : Int) == 32) = false := beq_eq_false_iff_ne.2 (by omega)
        have hb : s[i]'hlt ≠ 32 := fun e => c1 (by rw [e]; rfl)
        have HS := Lib.hid (hst ▸ h3 _ hb)
        have he := extract_one s i hlt
        have hcat : mkB last ++ mkB [s[i]'hlt] = mkB (last ++ [s[i]'hlt]) := mkB_append _ _
        obtain ⟨m, rfl⟩ : ∃ m, n = m + 1 := ⟨n - 1, by rw [h1, List.length_append] at hn; simp at hn; omega⟩
        have hm : init.length = m := by rw [h1, List.length_append] at hn; simp at hn; omega
        rw [h1] at oR
        obtain ⟨g, rfl, hcell, hfr, hblt⟩ := oR.slc_cell (by omega)
        have c0 := hcell m (.string (mkB last)) (strs_get (by rw [List.getElem?_append_right (by omega), hm]; simp))
        have hmm : (m : Int) < (m : Int) + 1 := by omega
        have hwi : IntKind.i64.wrap ((i : Int) + 1) = (i : Int) + 1 := by rw [IntKind.wrap_i64]; omega
        have hi0 : 0 ≤ (i : Int) + 1 := by omega
        have hi1 : (i : Int) + 1 ≤ (s.size : Int) := by omega
        have hi2 : (i : Int) ≤ (i : Int) + 1 := by omega
        have hi3 : ((i : Int) + 1).toNat = i + 1 := by omega
        have hw : IntKind.i64.wrap (m : Int) = (m : Int) := by rw [IntKind.wrap_i64]; omega
        have oW := oR.drew.slc_set m (.string (mkB (last ++ [s[i]'hlt]))) (by rw [strs_length, List.length_append]; simp; omega)
        have hset : (strs (init ++ [last])).set m (.string (mkB (last ++ [s[i]'hlt]))) = strs (init ++ [last ++ [s[i]'hlt]]) := by
          subst hm
          unfold strs
          rw [List.map_append, List.map_append, List.set_append_right _ _ (by simp)]
          simp
        rw [hset] at oW
        have hlen2 : (init ++ [last ++ [s[i]'hlt]]).length = m + 1 := by rw [List.length_append, hm]; rfl
        have hsz : (mkB last).size ≤ i := by rw [mkB_size]; omega
        have hsz0 : (mkB [s[i]'hlt]).size ≤ 1 := Nat.le_refl _
        clear h1 h2 h3 hst hb gi hset hcell hlast hn hm
        generalize mkB (last ++ [s[i]'hlt]) = B2 at *
        generalize mkB last = B1 at *
        generalize mkB [s[i]'hlt] = B0 at *
        go_wp2
        refine wp_region_tail 11 (by kernel_rfl) (by kernel_rfl) ?_
        simp only [List.take_succ_cons, List.take_zero, List.drop_succ_cons, List.drop_zero]
        repeat still_step
        refine wpStill_nil ?_
        go_wp2
        go_roundw
        case rel =>
          refine ⟨i + 1, m + 1, c, _, by go_num, by omega, rfl, ?_, ?_, ⟨kR.os, kR.tape, kR.output⟩⟩
          · rw [HS.out]; exact hlen2
          · rw [HS.out]; exact oW
        case measure => simp [viN]; omega
    · have dl : decide (i < s.size) = false := decide_eq_false hlt
      rw [List.take_of_length_le (by omega)] at hn oR
      subst hn
      go_wp2
      go_ret
      exact ⟨a, c, rfl, oR, kR⟩
theorem splitB_one (c : UInt8) (s : ByteArray) : (Lib.splitB ⟨#[c]⟩ 0 (Lib.countB s ⟨#[c]⟩) s).map Value.string = strs (spl c s.data.toList) := by
  have h := Lib.splitB_data ⟨#[c]⟩ 0 (Lib.countB s ⟨#[c]⟩) s
  have hc : Lib.countB s ⟨#[c]⟩ = s.data.toList.count c := Lib.count_one c s.data.toList
  have hk : Lib.splitK [c] 0 (s.data.toList.count c) s.data.toList = spl c s.data.toList := splitK_spl c _
  rw [hc] at h ⊢
  have h2 : (Lib.splitB ⟨#[c]⟩ 0 (s.data.toList.count c) s).map (·.data.toList) = spl c s.data.toList := h.trans hk
  rw [← h2]
  unfold strs
  rw [List.map_map]
  rfl
theorem split_spec (c : UInt8) (s : ByteArray) (hs : s.size < 4294967281) (hm : MaxV W) (o : Own w (old W :: R)) (R2 : List SP) (o2 : Own w R2) : Calls Tryz.prog 25 #[.string s, .string ⟨#[c]⟩] w (Words (spl c s.data.toList) R2 w) := by
  obtain ⟨m, hm⟩ := hm
  have hC := Any.strings_Split Tryz.laysSp (by kernel_rfl) s ⟨#[c]⟩ m w hs (o.old_cell hm) (Nat.le_refl 1)
  have hlen : Lib.countB s ⟨#[c]⟩ + 1 = (spl c s.data.toList).length := by rw [spl_length]; exact congrArg (· + 1) (Lib.count_one c s.data.toList)
  rw [splitB_one, hlen] at hC
  have hcnt := List.count_le_length (a := c) (l := s.data.toList)
  have hl : s.data.toList.length = s.size := (Lib.size_eq s).symm
  have hn : (spl c s.data.toList).length ≤ 4294967282 := by rw [spl_length]; omega
  refine Calls.mono (show Calls Tryz.prog 25 #[.string s, .string ⟨#[c]⟩] w _ from hC) ?_
  rintro e w' ⟨rfl, rfl⟩
  refine ⟨_, _, rfl, Own.slc.2 (.inr ⟨w.heap.size, [], rfl, Nat.le_refl _, by unfold maxLen; omega, by rw [strs_length, Nat.mul_one], by simp, ?_⟩), ⟨rfl, rfl, rfl⟩⟩
  rw [List.append_nil]
  exact o2.alloc _
/-- The minus sign cut off. -/
theorem minus_spec (s : ByteArray) : Calls Tryz.prog 49 #[.string s, .string ⟨#[45]⟩] w (IsRet (.tuple #[.string (mkB (nlDig s.data.toList)), .bool (nlNeg s.data.toList)]) w) := by
  refine Calls.mono (show Calls Tryz.prog 49 #[.string s, .string ⟨#[45]⟩] w _ from Any.strings_CutPrefix Tryz.laysCP s ⟨#[45]⟩ w) ?_
  rintro e w' ⟨rfl, rfl⟩
  refine ⟨?_, rfl⟩
  rw [show (⟨#[45]⟩ : ByteArray).data.toList = [45] from rfl]
  obtain ⟨d, rfl, hd⟩ := exB s
  rw [hd]
  unfold Lib.trimPrefix Lib.hasPrefix nlDig nlNeg
  cases d with
  | nil => rfl
  | cons b r =>
    by_cases hb : b = 45
    · subst hb; rfl
    · have h1 : ([45] : List UInt8).isPrefixOf (b :: r) = false := by simp [List.isPrefixOf, Ne.symm hb]
      have h2 : ¬ (b :: r).head? = some 45 := by simpa using hb
      rw [h1, decide_eq_false h2, if_neg Bool.false_ne_true]
      rfl
set_option maxHeartbeats 6400000 in
set_option maxRecDepth 100000 in
theorem numeral_spec (s : ByteArray) (hs : s.size ≤ 1000000) (o : Own w R) : Calls Tryz.prog 37 #[.string s] w (Ret (.bool (nlOK s.data.toList)) R w) := by
  have hMin := minus_spec (w := w) s
  have hl0 : s.data.toList.length = s.size := (Lib.size_eq s).symm
  obtain ⟨p, hp⟩ : ∃ p, s.data.toList = p := ⟨_, rfl⟩
  have hOK : nlOK p = (numOK 19 (nlDig p) && !(nlNeg p && decide ((nlDig p).head? = some 48))) := rfl
  have hdl : (nlDig p).length ≤ 1000000 := by
    rw [hp] at hl0
    unfold nlDig
    split
    · rw [List.length_tail]; omega
    · omega
  rw [hp] at hMin ⊢
  rw [hOK]
  obtain ⟨z, hz⟩ : ∃ z, (numOK 19 (nlDig p) && !(nlNeg p && decide ((nlDig p).head? = some 48))) = z := ⟨_, rfl⟩
  rw [hz]
  clear hOK hl0 hp
  generalize nlNeg p = ng at *
  generalize nlDig p = d at *
  have hT := Any.strings_Trim_laid Tryz.laysTr (by kernel_rfl) (mkB d) ⟨#[48, 49, 50, 51, 52, 53, 54, 55, 56, 57]⟩ w (by rw [mkB_size]; omega) (by decide) (ascii_of_all (by decide))
  have ht : (⟨(Lib.trimS (mkB d).data.toList (⟨#[48, 49, 50, 51, 52, 53, 54, 55, 56, 57]⟩ : ByteArray).data.toList).toArray⟩ : ByteArray) = mkB (Lib.trimS d digs) := rfl
  rw [ht] at hT
  clear ht
  have hem := emptyB (mkB (Lib.trimS d digs))
  rw [mkB_data] at hem
  have htr := trimS_digs d
  generalize mkB (Lib.trimS d digs) = t at *
  have hlit := litB (mkB d) [48]
  rw [mkB_data] at hlit
  have hsz := mkB_size d
  have hDl : (mkB d).data.toList = d := rfl
  generalize mkB d = D at *
  have fin : ∀ wr b, Own wr R → Calm w wr → (numOK 19 d && !(ng && decide (d.head? = some 48))) = b → Ret (.bool z) R w (.returned (.bool b)) wr := fun wr b o c h => ⟨by rw [← hz, h], o, c⟩
  have FIN := Lib.hid fin
  clear fin hz
  by_cases h1 : D.size < 1
  · have d1 : decide (1 ≤ D.size) = false := decide_eq_false (by omega)
    have hn := Lib.hid (numOK_short (most := 19) (l := d) (by omega))
    clear hsz hdl hDl
    go_enter Tryz.func37, Tryz.ntmps37
    go_wp2_with fail
    refine hMin.mono ?_
    rintro e1 w1 ⟨rfl, rfl⟩
    go_wp2
    go_ret
    exact FIN.out _ _ o (Calm.refl _) (by rw [hn.out, Bool.false_and])
  have d1 : decide (1 ≤ D.size) = true := decide_eq_true (by omega)
  by_cases h2 : 19 < D.size
  · have d2 : decide (D.size ≤ 19) = false := decide_eq_false (by omega)
    have hn := Lib.hid (numOK_long (most := 19) (l := d) (by omega))
    clear hsz hdl hDl
    go_enter Tryz.func37, Tryz.ntmps37
    go_wp2_with fail
    refine hMin.mono ?_
    rintro e1 w1 ⟨rfl, rfl⟩
    go_wp2
    go_ret
    exact FIN.out _ _ o (Calm.refl _) (by rw [hn.out, Bool.false_and])
  have d2 : decide (D.size ≤ 19) = true := decide_eq_true (by omega)
  by_cases ha : d.all digB = true
  · rw [decide_eq_true (htr.2 ha)] at hem
    have hy0 : 0 < D.size := by omega
    have g0 := getB D 0 hy0
    rw [hDl] at g0
    have hhd : d.head? = some (D[0]'hy0) := by rw [List.head?_eq_getElem?]; exact g0
    by_cases h3 : D[0]'hy0 = 48
    · have e4 : ((((D[0]'hy0).toNat : Nat) : Int) == 48) = true := by rw [h3]; rfl
      have e5 : (D[0]'hy0).toNat = 48 := by rw [h3]; rfl
      rw [h3] at hhd
      by_cases h4 : d = [48]
      · rw [decide_eq_true h4] at hlit
        have hn := Lib.hid (show (numOK 19 d && !(ng && decide (d.head? = some 48))) = !ng by rw [h4]; simp [numOK, digB])
        clear hsz hdl hDl g0 hhd htr ha h4 h3
        go_enter Tryz.func37, Tryz.ntmps37
        go_wp2_with fail
        refine hMin.mono ?_
        rintro e1 w1 ⟨rfl, rfl⟩
        go_wp2_with fail
        refine hT.mono ?_
        rintro e2 w2 ⟨rfl, hB⟩
        have o1 := o.keepBelow hB
        go_wp2
        go_ret
        exact FIN.out _ _ o1 (Calm.ofBelow hB) hn.out
      · rw [decide_eq_false h4] at hlit
        have hn := Lib.hid (numOK_zero (most := 19) (l := d) (by
          cases d with
          | nil => simp at hhd
          | cons b r => cases r with
            | nil => simp only [List.head?_cons, Option.some.injEq] at hhd; exact absurd (by rw [hhd]) h4
            | cons => simp) (by rw [← List.head?_eq_getElem?]; exact hhd))
        clear hsz hdl hDl g0 hhd htr ha h4 h3
        go_enter Tryz.func37, Tryz.ntmps37
        go_wp2_with fail
        refine hMin.mono ?_
        rintro e1 w1 ⟨rfl, rfl⟩
        go_wp2_with fail
        refine hT.mono ?_
        rintro e2 w2 ⟨rfl, hB⟩
        have o1 := o.keepBelow hB
        go_wp2
        go_ret
        exact FIN.out _ _ o1 (Calm.ofBelow hB) (by rw [hn.out, Bool.false_and])
    · have e4 : ((((D[0]'hy0).toNat : Nat) : Int) == 48) = false := beq_eq_false_iff_ne.2 fun e => h3 (UInt8.toNat_inj.1 (by show _ = 48; omega))
      have e5 : ¬ (D[0]'hy0).toNat = 48 := fun e => h3 (UInt8.toNat_inj.1 (by show _ = 48; omega))
      have hn := Lib.hid (show (numOK 19 d && !(ng && decide (d.head? = some 48))) = true by
        rw [numOK_good (by omega) (by omega) (fun h => h3 (by rw [g0] at h; exact Option.some.inj h.2)) ha, decide_eq_false (by rw [hhd]; intro e; exact h3 (Option.some.inj e)), Bool.and_false]; rfl)
      clear hsz hdl hDl g0 hhd htr ha h3
      go_enter Tryz.func37, Tryz.ntmps37
      go_wp2_with fail
      refine hMin.mono ?_
      rintro e1 w1 ⟨rfl, rfl⟩
      go_wp2_with fail
      refine hT.mono ?_
      rintro e2 w2 ⟨rfl, hB⟩
      have o1 := o.keepBelow hB
      go_wp2
      go_ret
      exact FIN.out _ _ o1 (Calm.ofBelow hB) hn.out
  · have hna : d.all digB = false := by simpa using ha
    have hn := Lib.hid (numOK_bad (most := 19) hna)
    rw [decide_eq_false (fun e => ha (htr.1 e))] at hem
    clear hsz hdl hDl htr ha hna
    go_enter Tryz.func37, Tryz.ntmps37
    go_wp2_with fail
    refine hMin.mono ?_
    rintro e1 w1 ⟨rfl, rfl⟩
    go_wp2_with fail
    refine hT.mono ?_
    rintro e2 w2 ⟨rfl, hB⟩
    have o1 := o.keepBelow hB
    go_wp2
    go_ret
    exact FIN.out _ _ o1 (Calm.ofBelow hB) (by rw [hn.out, Bool.false_and])
/-- ParseInt at a numeral: its number if it fits, else some error. -/
def PiPost (p : List UInt8) (R : List SP) (w : World) (e : Ending) (w' : World) : Prop :=
  ∃ (x : Int) (v : Value), e = .returned (.tuple #[.int .i64 x, v]) ∧ ((x = nlV p ∧ v = .nilIface ∧ -9223372036854775808 ≤ nlV p ∧ nlV p ≤ 9223372036854775807) ∨ ((∃ t q, v = .iface t q) ∧ ¬ (-9223372036854775808 ≤ nlV p ∧ nlV p ≤ 9223372036854775807))) ∧ Own w' R ∧ Calm w w'
theorem parseInt_spec (s : ByteArray) (hs : s.size ≤ 1000000) (hn : nlOK s.data.toList = true) (he : ErrW W) (oW : Own w (old W :: R)) {R2 : List SP} (o : Own w R2) :
    Calls Tryz.prog 38 #[.string s, .int .i64 10, .int .i64 64] w (PiPost s.data.toList R2 w) := by
  have hp := parse_num hn
  by_cases hr : -9223372036854775808 ≤ nlV s.data.toList ∧ nlV s.data.toList ≤ 9223372036854775807
  · rw [if_pos hr] at hp
    refine Calls.mono (show Calls Tryz.prog 38 #[.string s, .int .i64 10, .int .i64 64] w _ from Any.strconv_ParseInt_10_at64_ok Tryz.laysPI s (by omega) _ hp w) ?_
    rintro e w' ⟨rfl, hw⟩
    have hB : Below w.heap.size w w' := by
      rcases hw with rfl | ⟨t, rfl⟩
      · exact Below.refl _ _
      · exact Lib.bytesWorld_below _ _ _
    exact ⟨_, _, rfl, .inl ⟨rfl, rfl, hr⟩, o.keepBelow hB, Calm.ofBelow hB⟩
  · rw [if_neg hr] at hp
    obtain ⟨ev, hc, hev⟩ := he
    refine Calls.mono (show Calls Tryz.prog 38 #[.string s, .int .i64 10, .int .i64 64] w _ from Any.strconv_ParseInt_10_at64_range Tryz.laysPI s (by omega) hp ev w (oW.old_cell hc) hev) ?_
    rintro e w' ⟨N, rfl, _, _, hB⟩
    exact ⟨_, _, rfl, .inr ⟨⟨_, _, rfl⟩, hr⟩, o.keepBelow hB, Calm.ofBelow hB⟩
end
end Go.Proofs.YtlccalkikjfimaaGreatDoor
