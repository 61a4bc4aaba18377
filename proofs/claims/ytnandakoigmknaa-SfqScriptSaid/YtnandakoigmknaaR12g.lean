/- The reference of chapter 13: lower, Copy; the program's SetWeight, Rebased, Copy. -/
import Derived.Test.YtnandakoigmknaaR12f
import Derived.Test.YtnandakoigmknaaCopy
namespace Go.Proofs.Ytnandakoigmknaa
open Go.RowKit
open SP
section
variable {P : SP} {W w w' : World} {R : List SP} {b : Nat} {at_ now aw : Int} {L O : List Tg}
def LwRel (Sp : SP) (L : List Tg) (by_ : Int) (R : List SP) (w : World) (v5 v6 : Value) (wr : World) : Prop :=
  ∃ (i : Nat) (a : Option Addr) (c : Nat), v5 = .slice a i c ∧ v6 = .int .i64 (i : Int) ∧ i ≤ L.length ∧
    Own wr (slc 64 3 a i c (flat tagC ((L.take i).map (lowO by_))) :: Sp :: R) ∧ Calm w wr
theorem take_snoc' {α : Type} {L : List α} {i : Nat} {x : α} (h : L[i]? = some x) : L.take (i + 1) = L.take i ++ [x] := by rw [List.take_add_one, h]; rfl
set_option maxHeartbeats 3200000 in
set_option maxRecDepth 100000 in
theorem lower_spec {Sp : SP} {a : Option Addr} {n c : Nat} (by_ : Int) (hb : 0 ≤ by_ ∧ by_ ≤ 1099511627776) (hS : TagsAt Sp a L) (hn : n = L.length) (hn2 : n ≤ 1000) (hr : ∀ t ∈ L, 0 ≤ t.s ∧ t.s ≤ 1099511627776) (o : Own w (Sp :: R)) :
    Calls Try.prog 83 #[.slice a n c, .int .i64 by_] w fun e w' => ∃ a' c', Ret (.slice a' n c') (slc 64 3 a' n c' (flat tagC (L.map (lowO by_))) :: Sp :: R) w e w' := by
  have hT : LwRel Sp L by_ R w (.slice none 0 0) (.int .i64 0) w := ⟨0, none, 0, rfl, rfl, by omega, o.slc_nil, Calm.refl w⟩
  have Hn := Lib.hid hn
  clear hn
  obtain ⟨hb0, hb1⟩ := hb
  go_enter Try.func83, Try.ntmps83
  go_wp2
  go_loopw [5, 6] (fun v5 v6 wr => LwRel Sp L by_ R w v5 v6 wr) (fun _ v6 _ => n - (intOf v6).toNat)
  case atStart => exact hT
  case round =>
    clear hT
    obtain ⟨i, a9, c9, rfl, rfl, hi, oR, kR⟩ := hrel
    by_cases hlt : i < n
    · obtain ⟨t, ht⟩ : ∃ t, L[i]? = some t := ⟨_, List.getElem?_eq_getElem (by have := Hn.out; omega)⟩
      obtain ⟨g, so, rfl, d0, d1, d2⟩ := hS _ _ (oR.up 1) i _ ht
      have hrt := hr t (List.mem_of_getElem? ht)
      obtain ⟨x, y, z⟩ := t
      dsimp only at d0 d1 d2 hrt
      have HTS := Lib.hid (take_snoc' ht)
      have HT := Lib.hid ht
      clear ht
      have hw1 : IntKind.i64.wrap (z - by_) = z - by_ := by rw [IntKind.wrap_i64]; omega
      obtain ⟨m, hm⟩ : ∃ m, max (z - by_) 0 = m := ⟨_, rfl⟩
      have HM := Lib.hid hm
      have oN := ((oR.alloc (.cells #[.int .i64 x, .int .i64 y, .int .i64 m] 64)).re [1, 0, 2]).drew
      have sN := news_src (oN.up 1)
      have M1 : Hid (i + 1 ≤ maxLen) := Lib.hid (by unfold maxLen; omega)
      have M2 : Hid ((i + 1) * 24 ≤ 140737488355328) := Lib.hid (by omega)
      have hm2 : (if z - by_ < 0 then 0 else z - by_) = m := by rw [← hm]; split <;> omega
      go_wp2
      go_region_held3 (fun w' => w'.cell? ⟨g, so + i * 3, none⟩ = some (.int .i64 x) ∧ w'.cell? ⟨g, so + i * 3 + 1, none⟩ = some (.int .i64 y) ∧ w'.cell? ⟨g, so + i * 3 + 2, none⟩ = some (.int .i64 z)) (go_keep) (first
        | (refine step_append_src rfl _ _ rfl Try.tagT rfl oN rfl sN M1.out M2.out ?_; intro a6 c6 w6 o6 k6; obtain ⟨_, _, hh, p0, p1, p2⟩ := hS _ _ (o6.up 2) i _ HT.out; cases hh))
      have hfl : flat tagC ((L.take (i + 1)).map (lowO by_)) = flat tagC ((L.take i).map (lowO by_)) ++ [.int .i64 x, .int .i64 y, .int .i64 m] := by
        rw [HTS.out, List.map_append, flat_append, ← HM.out]; rfl
      have HFL := Lib.hid hfl
      clear hfl
      go_wp2
      go_roundw
      case rel => exact ⟨i + 1, a6, c6, rfl, by go_num, by have := Hn.out; omega, by rw [HFL.out]; exact o6.re [1, 0, 2] 1, kR.trans ⟨k6.os, k6.tape, k6.output⟩⟩
      case measure => simp [intOf]; omega
    · go_wp2
      go_ret
      have hin : i = n := by have := Hn.out; omega
      have e : L.take i = L := List.take_of_length_le (by have := Hn.out; omega)
      rw [e] at oR
      subst hin
      exact ⟨a9, c9, rfl, oR, kR⟩
end
end Go.Proofs.Ytnandakoigmknaa
