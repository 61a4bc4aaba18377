/- Names: the reference's encode, Fold, Runes; the program's Runes; the law's names. -/
import Derived.Test.YtapingmjlpmmmaaDoorLabS
import Derived.Test.YtapingmjlpmmmaaDoorShelfL
import Derived.Laws.BytesArg
namespace Go.Proofs.YtapingmjlpmmmaaDoor
open Go.RowKit
open Go.Shelf
open SP
section
variable {W w w' : World} {R : List SP}

theorem conv_new (w : World) (xs : List Int) {cs : Array Value} (hcs : cs = (xs.map (Value.int .u8)).toArray) {n : Nat} (hn : xs.length = n) (T : TypeId) :
    (convert 29 9 (.slice (some ⟨w.heap.size, 0, none⟩) n n)).run Tryd.prog (w.alloc (.cells cs T)) = .ok (.string (strOfNums xs)) (w.alloc (.cells cs T)) := by
  refine run_convert_bytes_arg _ 29 5 Tryd.underlying29 Tryd.underlying5 _ 0 n n xs hn ?_ 9 Tryd.underlying9
  intro i hi
  subst hcs
  have ho := (Own.nil w).alloc (.cells (xs.map (Value.int .u8)).toArray T)
  rw [Nat.zero_add]
  refine Own.cell (T := T) (vs := xs.map (Value.int .u8)) ho i ?_
  simp [List.getElem?_eq_getElem (show i < xs.length by omega)]

set_option maxHeartbeats 1600000 in
set_option maxRecDepth 100000 in
theorem encode_spec (r : Nat) (hr : scalar r) (o : Own w R) : Calls Tryd.prog 36 #[.int .i64 (r : Int)] w (Ret (.string ⟨(Lib.encodeRune (r : Int)).toArray⟩) R w) := by
  have c1 : ∀ (w : World) (a : Int), _ := fun w a => conv_new w [a] rfl (n := 1) rfl 5
  have c2 : ∀ (w : World) (a b : Int), _ := fun w a b => conv_new w [a, b] rfl (n := 2) rfl 5
  have c3 : ∀ (w : World) (a b c : Int), _ := fun w a b c => conv_new w [a, b, c] rfl (n := 3) rfl 5
  have c4 : ∀ (w : World) (a b c d : Int), _ := fun w a b c d => conv_new w [a, b, c, d] rfl (n := 4) rfl 5
  simp only [List.map_cons, List.map_nil] at c1 c2 c3 c4
  have hE : (⟨(Lib.encodeRune (r : Int)).toArray⟩ : ByteArray) = strOfNums (Lib.encodeRuneZ (r : Int)) := by
    unfold Lib.encodeRune strOfNums; rfl
  rw [hE]
  clear hE
  have fin : ∀ (x : Obj) (s : ByteArray), Ret (.string s) R w (.returned (.string s)) (w.alloc x) := fun x s => ⟨rfl, (o.alloc x).drop, ⟨rfl, rfl, rfl⟩⟩
  unfold scalar at hr
  rcases (show r ≤ 127 ∨ (128 ≤ r ∧ r ≤ 2047) ∨ ((2048 ≤ r ∧ r < 55296) ∨ (57343 < r ∧ r ≤ 65535)) ∨ (65536 ≤ r ∧ r ≤ 1114111) by omega) with h1 | h1 | h1 | h1
  · rw [Lib.encodeRuneZ_one (by omega) (by omega)]
    have d0 : decide ((r : Int) < 128) = true := decide_eq_true (by omega)
    clear hr
    go_enter Tryd.func36, Tryd.ntmps36
    go_wp2
    go_ret
    exact fin _ _
  · rw [Lib.encodeRuneZ_two (by omega) (by omega)]
    have d0 : decide ((r : Int) < 128) = false := decide_eq_false (by omega)
    have d1 : decide ((r : Int) < 2048) = true := decide_eq_true (by omega)
    clear hr
    go_enter Tryd.func36, Tryd.ntmps36
    go_wp2
    go_ret
    exact fin _ _
  · rw [Lib.encodeRuneZ_three (by omega)]
    have h2 : 2048 ≤ r ∧ r < 65536 := by omega
    have d0 : decide ((r : Int) < 128) = false := decide_eq_false (by omega)
    have d1 : decide ((r : Int) < 2048) = false := decide_eq_false (by omega)
    have d2 : decide ((r : Int) < 65536) = true := decide_eq_true (by omega)
    clear hr h1
    go_enter Tryd.func36, Tryd.ntmps36
    go_wp2
    go_ret
    exact fin _ _
  · rw [Lib.encodeRuneZ_four (by omega) (by omega)]
    have d0 : decide ((r : Int) < 128) = false := decide_eq_false (by omega)
    have d1 : decide ((r : Int) < 2048) = false := decide_eq_false (by omega)
    have d2 : decide ((r : Int) < 65536) = false := decide_eq_false (by omega)
    clear hr
    go_enter Tryd.func36, Tryd.ntmps36
    go_wp2
    go_ret
    exact fin _ _

/-- The encodings of runes. -/
def encS (l : List Nat) : ByteArray := ⟨(l.flatMap fun r : Nat => Lib.encodeRune (r : Int)).toArray⟩
theorem encS_snoc (l : List Nat) (r : Nat) : encS (l ++ [r]) = encS l ++ ⟨(Lib.encodeRune (r : Int)).toArray⟩ := by
  apply ByteArray.ext
  unfold encS
  rw [ByteArray.data_append]
  simp
theorem encodeRune_le (r : Int) : (Lib.encodeRune r).length ≤ 4 := by
  unfold Lib.encodeRune Lib.encodeRuneZ
  rw [List.length_map]
  repeat' split
  all_goals simp
theorem encS_size : ∀ l : List Nat, (encS l).size ≤ 4 * l.length
  | [] => by simp [encS, ByteArray.size]
  | r :: l => by
    have h1 := encS_size l
    have h2 := encodeRune_le (r : Int)
    simp only [encS, ByteArray.size, List.size_toArray, List.flatMap_cons, List.length_append, List.length_cons] at *
    omega
theorem encS_fold (l : List UInt8) : encS (foldR l) = ⟨(foldB l).toArray⟩ := rfl

theorem folded_ok (s : ByteArray) (hs : s.size ≤ 2000000) (o : Own w R) (hn : nameB s.data.toList = true) : Calls Tryd.prog 29 #[.string s] w fun e w' =>
    ∃ a c, e = .returned (.tuple #[.slice a (foldR s.data.toList).length c, .bool true]) ∧ Own w' (slc 3 1 a (foldR s.data.toList).length c (ints (foldR s.data.toList)) :: R) ∧ Calm w w' :=
  (folded_spec s hs o).mono fun e w' h => by unfold FoldedPost at h; rw [if_pos hn] at h; exact h
theorem folded_no (s : ByteArray) (hs : s.size ≤ 2000000) (o : Own w R) (hn : ¬ nameB s.data.toList = true) : Calls Tryd.prog 29 #[.string s] w fun e w' =>
    e = .returned (.tuple #[.slice none 0 0, .bool false]) ∧ Own w' R ∧ Calm w w' :=
  (folded_spec s hs o).mono fun e w' h => by unfold FoldedPost at h; rw [if_neg hn] at h; exact h

def FoRel (rs : List Nat) (a : Option Addr) (c : Nat) (R : List SP) (w : World) (v6 v7 : Value) (wr : World) : Prop :=
  ∃ i : Nat, v7 = .int .i64 (i : Int) ∧ i ≤ rs.length ∧ v6 = .string (encS (rs.take i)) ∧ Own wr (slc 3 1 a rs.length c (ints rs) :: R) ∧ Calm w wr

set_option maxHeartbeats 3200000 in
set_option maxRecDepth 100000 in
theorem refFold_spec (s : ByteArray) (hs : s.size ≤ 2000000) (o : Own w R) :
    Calls Tryd.prog 20 #[.string s] w (Ret (.tuple #[.string (foldS s), .int .i64 (foldE s)]) R w) := by
  unfold foldS foldE
  by_cases hn : nameB s.data.toList = true
  · have hf := folded_ok s hs o hn
    rw [if_pos hn, if_pos hn, ← encS_fold]
    have hl := foldR_length _ hn
    have hsc := foldR_scalar s.data.toList
    obtain ⟨rs, hrs⟩ : ∃ rs, foldR s.data.toList = rs := ⟨_, rfl⟩
    rw [hrs] at hf hl hsc ⊢
    clear hrs hn
    go_enter Tryd.func20, Tryd.ntmps20
    go_wp2_with fail
    refine hf.mono ?_
    rintro e1 w1 ⟨a, c, rfl, o1, k1⟩
    clear hf
    go_wp2
    go_loopw [6, 7] (fun v6 v7 wr => FoRel rs a c R w v6 v7 wr) (fun _ v _ => rs.length - (intOf v).toNat)
    case atStart => exact ⟨0, rfl, by omega, rfl, o1, k1⟩
    case round =>
      obtain ⟨i, rfl, hi, rfl, oR, kR⟩ := hrel
      by_cases hil : i < rs.length
      · obtain ⟨r, hr⟩ : ∃ r, rs[i]? = some r := ⟨_, List.getElem?_eq_getElem hil⟩
        have hsr := hsc r (List.mem_of_getElem? hr)
        obtain ⟨g, rfl, hcell, hfr, hblt⟩ := oR.slc_cell (by omega)
        have c0 := hcell i _ (ints_get hr)
        clear hcell hfr
        have he := encode_spec r hsr oR
        have hz := encS_size (rs.take i)
        have hz2 := encodeRune_le (r : Int)
        rw [List.length_take] at hz
        go_wp2_with fail
        refine he.mono ?_
        rintro e2 w2 ⟨rfl, o2, k2⟩
        clear he
        go_wp2
        go_roundw
        case rel =>
          refine ⟨i + 1, by go_num, by omega, ?_, o2, kR.trans k2⟩
          rw [List.take_add_one, hr, Option.toList_some, encS_snoc]
        case measure => simp [intOf]; omega
      · have hie : i = rs.length := by omega
        subst hie
        rw [List.take_length]
        go_wp2
        go_ret2
        exact ⟨rfl, oR.drop, kR⟩
  · have hf := folded_no s hs o hn
    rw [if_neg hn, if_neg hn]
    clear hn
    go_enter Tryd.func20, Tryd.ntmps20
    go_wp2_with fail
    refine hf.mono ?_
    rintro e1 w1 ⟨rfl, o1, k1⟩
    clear hf
    go_wp2
    go_ret2
    exact ⟨rfl, o1, k1⟩

/-- The number of runes of a name; of another string -1. -/
def runesZ (s : ByteArray) : Int := if nameB s.data.toList = true then ((runesL s.data.toList).length : Int) else -1
set_option maxHeartbeats 3200000 in
set_option maxRecDepth 100000 in
theorem refRunes_spec (s : ByteArray) (hs : s.size ≤ 2000000) (o : Own w R) :
    Calls Tryd.prog 24 #[.string s] w (Ret (.int .i64 (runesZ s)) R w) := by
  unfold runesZ
  by_cases hn : nameB s.data.toList = true
  · have hf := folded_ok s hs o hn
    rw [if_pos hn]
    rw [show (runesL s.data.toList).length = (foldR s.data.toList).length by unfold foldR; rw [List.length_map]]
    obtain ⟨rs, hrs⟩ : ∃ rs, foldR s.data.toList = rs := ⟨_, rfl⟩
    rw [hrs] at hf ⊢
    clear hrs hn
    go_enter Tryd.func24, Tryd.ntmps24
    go_wp2_with fail
    refine hf.mono ?_
    rintro e1 w1 ⟨a, c, rfl, o1, k1⟩
    clear hf
    go_wp2
    go_ret
    exact ⟨rfl, o1.drop, k1⟩
  · have hf := folded_no s hs o hn
    rw [if_neg hn]
    clear hn
    go_enter Tryd.func24, Tryd.ntmps24
    go_wp2_with fail
    refine hf.mono ?_
    rintro e1 w1 ⟨rfl, o1, k1⟩
    clear hf
    go_wp2
    go_ret
    exact ⟨rfl, o1, k1⟩

theorem runeCountFrom_runes (s : ByteArray) : ∀ (fuel pos : Nat), s.size ≤ pos + fuel → Lib.runeCountFrom s fuel pos = (runesL (s.data.toList.drop pos)).length
  | 0, pos, h => by
    rw [runesL_end s pos (by omega)]; rfl
  | fuel + 1, pos, h => by
    by_cases hp : pos < s.size
    · have hw := Lib.decode_width_pos s pos hp
      rw [runesL_at s pos hp, List.length_cons, ← runeCountFrom_runes s fuel _ (by omega)]
      show (if pos < s.size then 1 + Lib.runeCountFrom s fuel (pos + (Utf8.decode s pos).2) else 0) = _
      rw [if_pos hp]
      omega
    · rw [Lib.runeCountFrom_end s _ pos hp, runesL_end s pos hp]; rfl
theorem runeCount_runes (s : ByteArray) : Lib.runeCount s = (runesL s.data.toList).length := by
  unfold Lib.runeCount
  rw [runeCountFrom_runes s s.size 0 (by omega)]; rfl

set_option maxHeartbeats 3200000 in
set_option maxRecDepth 100000 in
theorem labRunes_spec (s : ByteArray) (hs : s.size ≤ 2000000) (o : Own w R) :
    Calls Tryd.prog 23 #[.string s] w (Ret (.int .i64 (runesZ s)) R w) := by
  unfold runesZ
  have hval := valid_spec (w := w) s (by omega)
  by_cases hn : nameB s.data.toList = true
  · rw [if_pos hn]
    rw [hn] at hval
    go_enter Tryd.func23, Tryd.ntmps23
    go_wp2_with fail
    refine hval.mono ?_
    rintro e1 w1 ⟨rfl, pos, rfl⟩
    clear hval
    have hc := Any.utf8_RuneCountInString Tryd.laysRC s (w.iter s pos) (by omega)
    rw [runeCount_runes] at hc
    go_wp2_with fail
    refine hc.mono ?_
    rintro e2 w2 ⟨rfl, pos2, rfl⟩
    clear hc
    go_wp2
    go_ret
    exact ⟨rfl, (o.more _).more _, ⟨rfl, rfl, rfl⟩⟩
  · have hb : nameB s.data.toList = false := by simpa using hn
    rw [if_neg hn]
    rw [hb] at hval
    go_enter Tryd.func23, Tryd.ntmps23
    go_wp2_with fail
    refine hval.mono ?_
    rintro e1 w1 ⟨rfl, pos, rfl⟩
    clear hval
    go_wp2
    go_ret
    exact ⟨rfl, o.more _, ⟨rfl, rfl, rfl⟩⟩

set_option maxHeartbeats 3200000 in
set_option maxRecDepth 100000 in
/-- The law's names: true of every string. -/
theorem names_spec (s : ByteArray) (hs : s.size ≤ 2000000) (hT : TabsW W) (o : Own w (old W :: R)) :
    Calls Tryd.prog 11 #[.string s] w (Ret (.bool true) (old W :: R) w) := by
  have h1 := labFold_spec s hs hT o
  have h2 := Lib.hid fun (w1 : World) (o1 : Own w1 (old W :: R)) => refFold_spec s hs o1
  have h3 := Lib.hid fun (w1 : World) => valid_spec (w := w1) s (by omega)
  have h4 := Lib.hid fun (w1 : World) (o1 : Own w1 (old W :: R)) => validName_spec s hs o1
  have h5 := Lib.hid fun (w1 : World) (o1 : Own w1 (old W :: R)) => labRunes_spec s hs o1
  have h6 := Lib.hid fun (w1 : World) (o1 : Own w1 (old W :: R)) => refRunes_spec s hs o1
  go_enter Tryd.func11, Tryd.ntmps11
  go_wp2_with fail
  refine h1.mono ?_
  rintro e1 w1 ⟨rfl, o1, k1⟩
  clear h1
  go_wp2_with fail
  refine (h2.out w1 o1).mono ?_
  rintro e2 w2 ⟨rfl, o2, k2⟩
  go_wp2_with fail
  refine (h3.out w2).mono ?_
  rintro e3 w3 ⟨rfl, pos, rfl⟩
  have o3 : Own (w2.iter s pos) (old W :: R) := o2.more _
  have k3 : Calm w2 (w2.iter s pos) := ⟨rfl, rfl, rfl⟩
  go_wp2_with fail
  refine (h4.out _ o3).mono ?_
  rintro e4 w4 ⟨rfl, o4, k4⟩
  go_wp2_with fail
  refine (h5.out _ o4).mono ?_
  rintro e5 w5 ⟨rfl, o5, k5⟩
  go_wp2_with fail
  refine (h6.out _ o5).mono ?_
  rintro e6 w6 ⟨rfl, o6, k6⟩
  go_wp2
  go_ret
  exact ⟨by simp, o6, k1.trans (k2.trans (k3.trans (k4.trans (k5.trans k6))))⟩
end
end Go.Proofs.YtapingmjlpmmmaaDoor
