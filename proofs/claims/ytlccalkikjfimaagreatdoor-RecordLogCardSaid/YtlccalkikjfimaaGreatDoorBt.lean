/- Strings as lists of bytes; lists of strings; numerals by their parts. -/
import Derived.Test.YtlccalkikjfimaaGreatDoorWd
import Derived.Test.YtlccalkikjfimaaGreatDoorCom
namespace Go.Proofs.YtlccalkikjfimaaGreatDoor
open Go.RowKit
def mkB (l : List UInt8) : ByteArray := ⟨l.toArray⟩
theorem mkB_append (l m : List UInt8) : mkB l ++ mkB m = mkB (l ++ m) := by
  apply ByteArray.ext
  unfold mkB
  simp [ByteArray.data_append]
theorem mkB_size (l : List UInt8) : (mkB l).size = l.length := rfl
theorem mkB_data (l : List UInt8) : (mkB l).data.toList = l := rfl
theorem mkB_self (s : ByteArray) : mkB s.data.toList = s := rfl
theorem mkB_inj {l m : List UInt8} : mkB l = mkB m ↔ l = m := by
  constructor
  · intro h
    have := congrArg (fun s : ByteArray => s.data.toList) h
    exact this
  · rintro rfl; rfl
theorem beqB (s t : ByteArray) : (s.toList == t.toList) = decide (s.data.toList = t.data.toList) := by
  rw [ByteArray.toList_eq, ByteArray.toList_eq, Bool.eq_iff_iff, beq_iff_eq, decide_eq_true_eq]
theorem emptyB (s : ByteArray) : s.toList.isEmpty = decide (s.data.toList = []) := by
  rw [ByteArray.toList_eq]
  cases s.data.toList <;> rfl

theorem getB (s : ByteArray) (k : Nat) (h : k < s.size) : s.data.toList[k]? = some (s[k]'h) := by
  have hl : s.data.toList.length = s.size := (Lib.size_eq s).symm
  rw [List.getElem?_eq_getElem (by omega)]
  simp
  rfl
/-- Every string is the string of a list. -/
theorem exB (s : ByteArray) : ∃ l, s = mkB l ∧ s.data.toList = l := ⟨s.data.toList, rfl, rfl⟩
theorem mkB_nil : mkB [] = ⟨#[]⟩ := rfl
def viN : Value → Nat
  | .int _ n => n.toNat
  | _ => 0
theorem litB (s : ByteArray) (l : List UInt8) : (s.toList == l) = decide (s.data.toList = l) := by rw [ByteArray.toList_eq, Bool.eq_iff_iff, beq_iff_eq, decide_eq_true_eq]
def strs (L : List (List UInt8)) : List Value := L.map fun x => Value.string (mkB x)
theorem strs_length (L : List (List UInt8)) : (strs L).length = L.length := List.length_map _
theorem strs_get {L : List (List UInt8)} {i : Nat} {x : List UInt8} (h : L[i]? = some x) : (strs L)[i]? = some (.string (mkB x)) := by
  unfold strs; rw [List.getElem?_map, h]; rfl
theorem spl_len (c : UInt8) : ∀ (l : List UInt8), ∀ p ∈ spl c l, p.length ≤ l.length
  | [], p, h => by simp [spl] at h; simp [h]
  | b :: r, p, h => by
    have ih := spl_len c r
    unfold spl at h
    split at h
    · rcases List.mem_cons.1 h with h | h
      · subst h; simp
      · have := ih p h; rw [List.length_cons]; omega
    · cases hs : spl c r with
      | nil => exact absurd hs (spl_ne c r)
      | cons q qs =>
        rw [hs] at h ih
        rcases List.mem_cons.1 h with h | h
        · subst h
          have := ih q (by simp)
          simp only [List.length_cons]; omega
        · have := ih p (by simp [h]); rw [List.length_cons]; omega
theorem extract_one (s : ByteArray) (i : Nat) (h : i < s.size) : s.extract i (i + 1) = mkB [s[i]'h] := by
  have e : (s.extract i (i + 1)).data.toList = [s[i]'h] := by
    rw [Lib.extract_data]
    have g := getB s i h
    have hl : s.data.toList.length = s.size := (Lib.size_eq s).symm
    rw [show i + 1 - i = 1 by omega, List.drop_eq_getElem_cons (by omega)]
    rw [List.getElem?_eq_getElem (by omega)] at g
    rw [Option.some.inj g]; rfl
  rw [← mkB_self (s.extract i (i + 1)), e]
theorem all_not {l : List UInt8} {i : Nat} {b : UInt8} (h : l[i]? = some b) (hb : digB b = false) : l.all digB = false := by
  rw [Bool.eq_false_iff]
  intro ha
  rw [List.all_eq_true] at ha
  have := ha b (List.mem_of_getElem? h)
  rw [hb] at this; cases this
theorem numOK_no {most : Nat} {l : List UInt8} (h : numOK most l = false) : numV most l = 0 := by unfold numV; rw [if_neg (by rw [h]; decide)]
theorem numOK_short {most : Nat} {l : List UInt8} (h : l.length < 1) : numOK most l = false := by unfold numOK; rw [decide_eq_false (by omega)]; rfl
theorem numOK_long {most : Nat} {l : List UInt8} (h : most < l.length) : numOK most l = false := by unfold numOK; rw [decide_eq_false (p := l.length ≤ most) (by omega), Bool.and_false]; rfl
theorem numOK_zero {most : Nat} {l : List UInt8} (h1 : 1 < l.length) (h : l[0]? = some 48) : numOK most l = false := by
  rw [← List.head?_eq_getElem?] at h
  unfold numOK; rw [decide_eq_true h1, decide_eq_true h]; simp
theorem numOK_bad {most : Nat} {l : List UInt8} (h : l.all digB = false) : numOK most l = false := by unfold numOK; rw [h, Bool.and_false]
theorem numOK_good {most : Nat} {l : List UInt8} (h1 : 1 ≤ l.length) (h2 : l.length ≤ most) (h3 : ¬ (1 < l.length ∧ l[0]? = some 48)) (h : l.all digB = true) : numOK most l = true := by
  rw [← List.head?_eq_getElem?] at h3
  unfold numOK; rw [decide_eq_true h1, decide_eq_true h2, h]
  simp only [Bool.and_true, Bool.true_and, Bool.not_eq_true', Bool.and_eq_false_iff, decide_eq_false_iff_not]
  by_cases h4 : 1 < l.length
  · exact .inr fun e => h3 ⟨h4, e⟩
  · exact .inl h4
theorem sp_pieces (s : ByteArray) : (Lib.splitB ⟨#[32]⟩ 0 (Lib.countB s ⟨#[32]⟩) s).map Value.string = strs (spl 32 s.data.toList) := by
  have h := Lib.splitB_data ⟨#[32]⟩ 0 (Lib.countB s ⟨#[32]⟩) s
  have hc : Lib.countB s ⟨#[32]⟩ = s.data.toList.count 32 := Lib.count_one 32 s.data.toList
  have hk : Lib.splitK [32] 0 (s.data.toList.count 32) s.data.toList = spl 32 s.data.toList := splitK_spl 32 _
  rw [hc] at h ⊢
  have h2 : (Lib.splitB ⟨#[32]⟩ 0 (s.data.toList.count 32) s).map (·.data.toList) = spl 32 s.data.toList := h.trans hk
  rw [← h2]
  unfold strs
  rw [List.map_map]
  rfl
end Go.Proofs.YtlccalkikjfimaaGreatDoor
