/- Records: the program's Encode. -/
import Derived.Test.YtlccalkikjfimaaGreatDoorRdQ
import Derived.Test.YtlccalkikjfimaaGreatDoorRdC
import Derived.Test.YtlccalkikjfimaaGreatDoorRcJ
import Derived.Test.YtlccalkikjfimaaGreatDoorShelfW
import Derived.Shelf.Strings.Builder1
import Derived.Laws.Rows
namespace Go.Proofs.YtlccalkikjfimaaGreatDoor
open Go.RowKit
open Go.Shelf
open SP
/-- A builder of a block of its own, at the call's own blocks from B on, that holds these bytes. -/
def IsBd (B b : Nat) (l : List UInt8) (w : World) : Prop := Lib.IsBuilder (Tryz.join_ren.t 72) (Tryz.join_ren.t 5) B b (Lib.byteCells l) w
section
variable {W w w' : World} {R : List SP} {B b : Nat} {l : List UInt8}
theorem ownsRow_below {e size n : Nat} {v : Value} {xs : List Value} (h : w.ownsRow B e size v n xs) (hb : Below w.heap.size w w') : w'.ownsRow B e size v n xs := by
  obtain ⟨h1, h2 | ⟨g, cap, cur, h3, h4, h5, h6⟩⟩ := h
  · exact ⟨h1, .inl h2⟩
  · refine ⟨h1, .inr ⟨g, cap, cur, h3, h4, ?_, h6⟩⟩
    rw [hb.block g (Array.getElem?_eq_some_iff.1 h5).1]; exact h5
theorem IsBd.keep (h : IsBd B b l w) (hb : Below w.heap.size w w') : IsBd B b l w' := by
  rcases h with ⟨h1, v, h2, h3, h4⟩ | ⟨h1, v, h2, h3, h4⟩
  · exact .inl ⟨h1, v, by rw [hb.block b (Array.getElem?_eq_some_iff.1 h2).1]; exact h2, ownsRow_below h3 hb, h4⟩
  · exact .inr ⟨h1, v, by rw [hb.block b (Array.getElem?_eq_some_iff.1 h2).1]; exact h2, ownsRow_below h3 hb, h4⟩
theorem writeString_spec (s : ByteArray) (h : IsBd B b l w) (hl : l.length + s.size ≤ 140737488355328) (hB : B ≤ w.heap.size) :
    Calls Tryz.prog 22 #[.pointer (some ⟨b, 0, none⟩), .string s] w fun e w' => e = .returned (.tuple #[.int .i64 s.size, .nilIface]) ∧ IsBd B b (l ++ s.data.toList) w' ∧ Below B w w' := by
  have hlen : (Lib.byteCells l).length = l.length := by unfold Lib.byteCells; exact List.length_map _
  refine Calls.mono (show Calls Tryz.prog 22 #[.pointer (some ⟨b, 0, none⟩), .string s] w _ from Any.Builder_WriteString ({ Tryz.join with } : Lays.n166 Tryz.prog Tryz.join_ren) Tryz.extraJ B b (Lib.byteCells l) s w h (by rw [hlen]; exact hl) hB) ?_
  rintro e w' ⟨rfl, h1, h2⟩
  refine ⟨rfl, .inr ?_, h2⟩
  have e : Lib.byteCells (l ++ s.data.toList) = Lib.byteCells l ++ Lib.strCells s := by unfold Lib.byteCells Lib.strCells; simp
  rw [e]
  exact h1
theorem bdString_spec (h : IsBd B b l w) (hB : B ≤ w.heap.size) : Calls Tryz.prog 23 #[.pointer (some ⟨b, 0, none⟩)] w fun e w' => e = .returned (.string (mkB l)) ∧ Below B w w' := by
  exact (show Calls Tryz.prog 23 #[.pointer (some ⟨b, 0, none⟩)] w _ from Any.Builder_String_any ({ Tryz.join with } : Lays.n169 Tryz.prog Tryz.join_ren) Tryz.extraJ B b l w h hB)
theorem encL_ok {l : List Rec} (h : allOk l = true) : encL l = (encT l, 0) := by unfold encL; rw [if_pos h]
theorem encL_bad {l : List Rec} {i : Nat} {r : Rec} (hr : l[i]? = some r) (h : ¬ RecOk r) : encL l = ([], 1) := by
  unfold encL
  rw [if_neg]
  intro ha
  exact h (of_decide_eq_true (List.all_eq_true.1 ha r (List.mem_of_getElem? hr)))
theorem allOk_next {l : List Rec} {i : Nat} {r : Rec} (hr : l[i]? = some r) (h : RecOk r) (ha : allOk (l.take i) = true) : allOk (l.take (i + 1)) = true := by
  unfold allOk at ha ⊢
  rw [List.take_add_one, hr, List.all_append, ha]
  simp [h]
theorem encT_next {l : List Rec} {i : Nat} {r : Rec} (hr : l[i]? = some r) : encT (l.take (i + 1)) = encT (l.take i) ++ (lineOf r ++ [10]) := by
  rw [List.take_add_one, hr, encT_append]
  simp [encT]
theorem encT_len : ∀ (l : List Rec), allOk l = true → (encT l).length ≤ 201 * l.length
  | [], _ => Nat.le_refl _
  | r :: l, h => by
    unfold allOk at h
    rw [List.all_cons, Bool.and_eq_true, decide_eq_true_eq] at h
    have h1 := lineOf_len r h.1
    have h2 := encT_len l h.2
    show (lineOf r ++ 10 :: encT l).length ≤ _
    rw [List.length_append, List.length_cons, List.length_cons]
    omega
def EncRel (l : List Rec) (w : World) (v : Value) (wr : World) : Prop :=
  ∃ i : Nat, v = .int .i64 (i : Int) ∧ i ≤ l.length ∧ allOk (l.take i) = true ∧ IsBd w.heap.size w.heap.size (encT (l.take i)) wr ∧ Below w.heap.size w wr
set_option maxHeartbeats 6400000 in
set_option maxRecDepth 100000 in
theorem recEncodeG_spec {Sp : SP} {l : List Rec} {a : Option Addr} {n c : Nat} (hS : RecsAt Sp a l) (hn : n = l.length) (hn2 : n ≤ 1000) (hT : ∀ w1, Own w1 (Sp :: R) → TabsR w1) (o : Own w (Sp :: R)) :
    Calls Tryz.prog 13 #[.slice a n c] w (Ret (.tuple #[.string (mkB (encL l).1), .int .i64 (encL l).2]) (Sp :: R) w) := by
  have hB0 : Below w.heap.size w (w.alloc (.cells #[.pointer none, .slice none 0 0] (Tryz.join_ren.t 72))) := (Below.refl _ w).alloc (Nat.le_refl _) _
  have hT1 : EncRel l w (.int .i64 0) (w.alloc (.cells #[.pointer none, .slice none 0 0] (Tryz.join_ren.t 72))) := ⟨0, rfl, by omega, rfl, Lib.fresh_isBuilder _ _ w, hB0⟩
  have HO := Lib.hid fun (w1 : World) (hb : Below w.heap.size w w1) => o.keepBelow hb
  have HC := Lib.hid fun (w1 : World) (hb : Below w.heap.size w w1) => Calm.ofBelow hb
  have HN := Lib.hid hn
  have HT := Lib.hid hT
  have HS := Lib.hid hS
  clear hn hT hS o hB0
  go_enter Tryz.func13, Tryz.ntmps13
  go_wp2
  go_loopw [14] (fun v wr => EncRel l w v wr) (fun v _ => n - viN v)
  case atStart => exact hT1
  case round =>
    clear hT1
    obtain ⟨i, rfl, hi, hok, hb, hB⟩ := hrel
    have oR := HO.out _ hB
    rw [← HN.out] at hi
    by_cases hlt : i < n
    · have dl : decide (i < n) = true := decide_eq_true hlt
      obtain ⟨r, hr⟩ : ∃ r, l[i]? = some r := ⟨_, List.getElem?_eq_getElem (by rw [← HN.out]; exact hlt)⟩
      obtain ⟨g, so, rfl, d0, d1, d2, d3, d4, d5⟩ := HS.out.six oR hr
      have hBa : Below wr.heap.size wr (wr.alloc (.cells (recC r).toArray 39)) := (Below.refl _ wr).alloc (Nat.le_refl _) _
      have hb1 := hb.keep hBa
      have hB1 := hB.trans (hBa.mono hB.size)
      have o1 := oR.alloc (.cells (recC r).toArray 39)
      have hf := recFormat_spec r (HT.out _ o1.drop) (Own.start (wr.alloc (.cells (recC r).toArray 39)))
      have HBAD := Lib.hid fun (h : ¬ RecOk r) => encL_bad hr h
      have HOK := Lib.hid fun (h : RecOk r) => allOk_next hr h hok
      have HE := Lib.hid (encT_next hr)
      have hlen := encT_len _ hok
      rw [List.length_take] at hlen
      have HB1 := Lib.hid hB1
      have hbx := Lib.hid hb1
      have hfl := fun (h : RecOk r) => lineOf_len r h
      have x0_ := o1.cell 0
      have x1_ := o1.cell 1
      have x2_ := o1.cell 2
      have x3_ := o1.cell 3
      have x4_ := o1.cell 4
      have x5_ := o1.cell 5
      have xl_ := o1.celLt
      unfold recV at hf
      unfold fmtS fmtE at hf
      clear hr hok hb hB hBa hb1 hB1
      generalize encT (l.take i) = ET at *
      obtain ⟨s, k, f, p, y, u⟩ := r
      dsimp only at d0 d1 d2 d3 d4 d5 hf x0_ x1_ x2_ x3_ x4_ x5_
      have hlen2 : ET.length ≤ 300000 := by omega
      clear hlen
      by_cases ho : RecOk ⟨s, k, f, p, y, u⟩
      · rw [if_pos ho, if_pos ho] at hf
        have hfl := hfl ho
        have HOK := Lib.hid (HOK.out ho)
        clear HBAD ho
        obtain ⟨LN, hLN⟩ : ∃ x, lineOf ⟨s, k, f, p, y, u⟩ = x := ⟨_, rfl⟩
        rw [hLN] at hf hfl
        have HE := Lib.hid (HE.out.trans (by rw [hLN]))
        clear hLN
        have hcat : mkB LN ++ (⟨#[10]⟩ : ByteArray) = mkB (LN ++ [10]) := mkB_append LN [10]
        have hsz : (mkB LN).size ≤ 200 := by rw [mkB_size]; exact hfl
        have hsz2 : (mkB (LN ++ [10])).size ≤ 201 := by rw [mkB_size, List.length_append]; simp; omega
        go_wp2_with fail
        refine hf.mono ?_
        rintro e2 w2 ⟨rfl, o2, k2⟩
        have hB2 := o2.below k2
        have HB2 := HB1.out.trans (hB2.mono HB1.out.size)
        have hws := writeString_spec (mkB (LN ++ [10])) (hbx.out.keep hB2) (by omega) HB2.size
        rw [mkB_data] at hws
        clear hf
        go_wp2_with fail
        refine hws.mono ?_
        rintro e3 w3 ⟨rfl, h3, hB3⟩
        have HX := Lib.hid h3
        have HB3 := Lib.hid (HB2.trans hB3)
        clear hws h3 hB3 HB2 hB2 o2 k2
        go_wp2
        go_roundw
        case rel => exact ⟨i + 1, by go_num, by rw [← HN.out]; omega, HOK.out, by rw [HE.out]; exact HX.out, HB3.out⟩
        case measure => simp [viN]; omega
      · rw [if_neg ho, if_neg ho] at hf
        have HV := Lib.hid (HBAD.out ho)
        clear HBAD HOK ho hfl
        go_wp2_with fail
        refine hf.mono ?_
        rintro e2 w2 ⟨rfl, o2, k2⟩
        have hB2 := o2.below k2
        have HB2 := Lib.hid (HB1.out.trans (hB2.mono HB1.out.size))
        clear hf hB2
        go_wp2
        go_ret2
        exact ⟨by rw [HV.out]; rfl, HO.out _ HB2.out, HC.out _ HB2.out⟩
    · have dl : decide (i < n) = false := decide_eq_false hlt
      rw [List.take_of_length_le (by rw [← HN.out]; omega)] at hok hb
      have HV := Lib.hid (encL_ok hok)
      have hst := bdString_spec hb hB.size
      have HB := Lib.hid hB
      clear hok hb hB
      go_wp2_with fail
      refine hst.mono ?_
      rintro e2 w2 ⟨rfl, hB2⟩
      have HB2 := Lib.hid (HB.out.trans hB2)
      clear hst hB2
      go_wp2
      go_ret2
      exact ⟨by rw [HV.out]; rfl, HO.out _ HB2.out, HC.out _ HB2.out⟩
theorem recEncode_spec {Sp : SP} {l : List Rec} {a : Option Addr} {n c : Nat} (hS : RecsAt Sp a l) (hn : n = l.length) (hn2 : n ≤ 1000) (hT : TabsR W) (o : Own w (old W :: Sp :: R)) :
    Calls Tryz.prog 13 #[.slice a n c] w (Ret (.tuple #[.string (mkB (encL l).1), .int .i64 (encL l).2]) (old W :: Sp :: R) w) := by
  refine (recEncodeG_spec (R := old W :: R) hS hn hn2 (fun w1 o1 => Own.tabsR hT o1.swap) o.swap).mono ?_
  rintro e w' ⟨rfl, o1, k1⟩
  exact ⟨rfl, o1.swap, k1⟩
end
end Go.Proofs.YtlccalkikjfimaaGreatDoor
