/- Rules: the reference's words. -/
import Derived.Test.YtbldanhjbnpdiaaDoorRuB
namespace Go.Proofs.YtbldanhjbnpdiaaDoor
open Go.RowKit
open Go.Shelf
open SP
section
variable {W w w' : World} {R : List SP}
def strs (L : List (List UInt8)) : List Value := L.map fun x => Value.string (mkB x)
theorem strs_length (L : List (List UInt8)) : (strs L).length = L.length := List.length_map _
theorem strs_get {L : List (List UInt8)} {i : Nat} {x : List UInt8} (h : L[i]? = some x) : (strs L)[i]? = some (.string (mkB x)) := by
  unfold strs; rw [List.getElem?_map, h]; rfl
theorem spl_len (c : UInt8) : ∀ (l : List UInt8), ∀ p ∈ spl c l, p.length ≤ l.length
  | [], p, h => by simp [spl] at h; simp [h]
  | b :: r, p, h => by
    have ih := spl_len c r
    unfold spl at h
    split at h
    · rcases List.mem_cons.1 h with h | h
      · subst h; simp
      · have := ih p h; rw [List.length_cons]; omega
    · cases hs : spl c r with
      | nil => exact absurd hs (spl_ne c r)
      | cons q qs =>
        rw [hs] at h ih
        rcases List.mem_cons.1 h with h | h
        · subst h
          have := ih q (by simp)
          simp only [List.length_cons]; omega
        · have := ih p (by simp [h]); rw [List.length_cons]; omega
theorem extract_one (s : ByteArray) (i : Nat) (h : i < s.size) : s.extract i (i + 1) = mkB [s[i]'h] := by
  have e : (s.extract i (i + 1)).data.toList = [s[i]'h] := by
    rw [Lib.extract_data]
    have g := getB s i h
    have hl : s.data.toList.length = s.size := (Lib.size_eq s).symm
    rw [show i + 1 - i = 1 by omega, List.drop_eq_getElem_cons (by omega)]
    rw [List.getElem?_eq_getElem (by omega)] at g
    rw [Option.some.inj g]; rfl
  rw [← mkB_self (s.extract i (i + 1)), e]
def WdRel (s : ByteArray) (R : List SP) (w : World) (v3 v4 : Value) (wr : World) : Prop :=
  ∃ (i n c : Nat) (a : Option Addr), v4 = .int .i64 (i : Int) ∧ i ≤ s.size ∧ v3 = .slice a n c ∧ (spl 32 (s.data.toList.take i)).length = n ∧ Own wr (slc 9 1 a n c (strs (spl 32 (s.data.toList.take i))) :: R) ∧ Calm w wr
set_option maxHeartbeats 3200000 in
set_option maxRecDepth 100000 in
theorem words_spec (s : ByteArray) (hs : s.size < 4294967281) (o : Own w R) :
    Calls Tryd.prog 27 #[.string s] w fun e w' => ∃ a c, e = .returned (.slice a (spl 32 s.data.toList).length c) ∧ Own w' (slc 9 1 a (spl 32 s.data.toList).length c (strs (spl 32 s.data.toList)) :: R) ∧ Calm w w' := by
  have hl : s.data.toList.length = s.size := (Lib.size_eq s).symm
  have o1 := o.alloc (.cells #[.string ⟨#[]⟩] 9)
  have hT : WdRel s R w (.slice (some ⟨w.heap.size, 0, none⟩) 1 1) (.int .i64 0) (w.alloc (.cells #[.string ⟨#[]⟩] 9)) :=
    ⟨0, 1, 1, _, rfl, by omega, rfl, rfl, Own.slc.2 (.inr ⟨w.heap.size, [], rfl, by omega, by unfold maxLen; omega, rfl, rfl, o1⟩), ⟨rfl, rfl, rfl⟩⟩
  clear o1
  go_enter Tryd.func27, Tryd.ntmps27
  go_wp2
  go_loopw [3, 4] (fun v3 v4 wr => WdRel s R w v3 v4 wr) (fun _ v _ => s.size - viN v)
  case atStart => exact hT
  case round =>
    clear hT
    obtain ⟨i, n, c, a, rfl, hi, rfl, hn, oR, kR⟩ := hrel
    have hcnt := spl_length 32 (s.data.toList.take i)
    have hcl := List.count_le_length (a := (32 : UInt8)) (l := s.data.toList.take i)
    rw [List.length_take] at hcl
    have hni : n ≤ i + 1 := by omega
    clear hcnt hcl
    by_cases hlt : i < s.size
    · have dl : decide (i < s.size) = true := decide_eq_true hlt
      have gi := getB s i hlt
      obtain ⟨init, last, h1, h2, h3⟩ := spl_snoc 32 (s.data.toList.take i)
      have hlast := spl_len 32 (s.data.toList.take i) last (by rw [h1]; simp)
      rw [List.length_take] at hlast
      have hst : s.data.toList.take (i + 1) = s.data.toList.take i ++ [s[i]'hlt] := by rw [List.take_add_one, gi]; rfl
      by_cases c1 : (s[i]'hlt).toNat = 32
      · have e4 : ((((s[i]'hlt).toNat : Nat) : Int) == 32) = true := by rw [c1]; rfl
        have hb : s[i]'hlt = 32 := UInt8.toNat_inj.1 c1
        rw [hb, ] at hst
        have HS := Lib.hid (hst ▸ h2)
        rw [h1] at oR hn
        clear h1 h2 h3 hst hb gi
        have oN := (oR.alloc (.cells #[.string ⟨#[]⟩] 9)).up 1
        go_wp2_with (at_builtin; refine wpList_append_slc rfl _ _ rfl Tryd.elemSt rfl oN ⟨wr.heap.size, 0, none⟩ 1 1 [.string ⟨#[]⟩] rfl rfl ?c1 ?c2 ?c3 ?c4 ?c5)
        case c1 => exact Own.news (T := 9) (oR.alloc _)
        case c2 => intro u hu; simp at hu; rcases hu with rfl; rfl
        case c3 => unfold maxLen; omega
        case c4 => omega
        case c5 =>
          intro a' c' w1 o2 k2
          go_wp2
          go_roundw
          case rel =>
            refine ⟨i + 1, n + 1, c', a', by go_num, by omega, rfl, ?_, ?_, kR.trans k2.al⟩
            · rw [HS.out, List.length_append, hn]; rfl
            · rw [HS.out]
              have e : strs (init ++ [last] ++ [[]]) = strs (init ++ [last]) ++ [.string ⟨#[]⟩] := by unfold strs; rw [List.map_append]; rfl
              rw [e]
              exact o2.up 1 |>.drop
          case measure => simp [viN]; omega
      · have e4 : ((((s[i]'hlt).toNat : Nat) : Int) == 32) = false := beq_eq_false_iff_ne.2 (by omega)
        have hb : s[i]'hlt ≠ 32 := fun e => c1 (by rw [e]; rfl)
        have HS := Lib.hid (hst ▸ h3 _ hb)
        have he := extract_one s i hlt
        have hcat : mkB last ++ mkB [s[i]'hlt] = mkB (last ++ [s[i]'hlt]) := mkB_append _ _
        obtain ⟨m, rfl⟩ : ∃ m, n = m + 1 := ⟨n - 1, by rw [h1, List.length_append] at hn; simp at hn; omega⟩
        have hm : init.length = m := by rw [h1, List.length_append] at hn; simp at hn; omega
        rw [h1] at oR
        obtain ⟨g, rfl, hcell, hfr, hblt⟩ := oR.slc_cell (by omega)
        have c0 := hcell m (.string (mkB last)) (strs_get (by rw [List.getElem?_append_right (by omega), hm]; simp))
        have hmm : (m : Int) < (m : Int) + 1 := by omega
        have hwi : IntKind.i64.wrap ((i : Int) + 1) = (i : Int) + 1 := by rw [IntKind.wrap_i64]; omega
        have hi0 : 0 ≤ (i : Int) + 1 := by omega
        have hi1 : (i : Int) + 1 ≤ (s.size : Int) := by omega
        have hi2 : (i : Int) ≤ (i : Int) + 1 := by omega
        have hi3 : ((i : Int) + 1).toNat = i + 1 := by omega
        have hw : IntKind.i64.wrap (m : Int) = (m : Int) := by rw [IntKind.wrap_i64]; omega
        have oW := oR.drew.slc_set m (.string (mkB (last ++ [s[i]'hlt]))) (by rw [strs_length, List.length_append]; simp; omega)
        have hset : (strs (init ++ [last])).set m (.string (mkB (last ++ [s[i]'hlt]))) = strs (init ++ [last ++ [s[i]'hlt]]) := by
          subst hm
          unfold strs
          rw [List.map_append, List.map_append, List.set_append_right _ _ (by simp)]
          simp
        rw [hset] at oW
        have hlen2 : (init ++ [last ++ [s[i]'hlt]]).length = m + 1 := by rw [List.length_append, hm]; rfl
        have hsz : (mkB last).size ≤ i := by rw [mkB_size]; omega
        have hsz0 : (mkB [s[i]'hlt]).size ≤ 1 := Nat.le_refl _
        clear h1 h2 h3 hst hb gi hset hcell hlast hn hm
        generalize mkB (last ++ [s[i]'hlt]) = B2 at *
        generalize mkB last = B1 at *
        generalize mkB [s[i]'hlt] = B0 at *
        go_wp2
        refine wp_region_tail 11 (by kernel_rfl) (by kernel_rfl) ?_
        simp only [List.take_succ_cons, List.take_zero, List.drop_succ_cons, List.drop_zero]
        repeat still_step
        refine wpStill_nil ?_
        go_wp2
        go_roundw
        case rel =>
          refine ⟨i + 1, m + 1, c, _, by go_num, by omega, rfl, ?_, ?_, ⟨kR.os, kR.tape, kR.output⟩⟩
          · rw [HS.out]; exact hlen2
          · rw [HS.out]; exact oW
        case measure => simp [viN]; omega
    · have dl : decide (i < s.size) = false := decide_eq_false hlt
      rw [List.take_of_length_le (by omega)] at hn oR
      subst hn
      go_wp2
      go_ret
      exact ⟨a, c, rfl, oR, kR⟩
end
end Go.Proofs.YtbldanhjbnpdiaaDoor
