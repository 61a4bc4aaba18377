/- The program's ledger of lags: Lagging, Leading. -/
import Derived.Test.YtalkmeclkjnjnaaLagB
namespace Go.Proofs.Ytalkmeclkjnjnaa
open Go.RowKit
open SP
section
variable {W w w' : World} {b N : Nat} {L : List Tg} {R : List SP}

theorem Try.intT : ElemT Try.prog 22 3 1 8 := ElemT.mk' Try.underlying22 (z := .int .i64 0) (by kernel_rfl) (by kernel_rfl) (by omega)
/-- The flows whose lag has a property. -/
def sideL (p : Int → Bool) (L : List Tg) : List Int := (L.filter fun t => p t.s).map (·.f)
def laggingP (x : Int) : Bool := decide (0 < x)
def leadingP (x : Int) : Bool := decide (x < 0)
theorem sideL_snoc (p : Int → Bool) (L : List Tg) (t : Tg) : sideL p (L ++ [t]) = if p t.s then sideL p L ++ [t.f] else sideL p L := by
  unfold sideL
  rw [List.filter_append]
  by_cases h : p t.s = true
  · rw [if_pos h, List.filter_cons_of_pos (by simpa using h)]; simp
  · rw [if_neg h, List.filter_cons_of_neg (by simpa using h)]; simp
theorem sideL_len (p : Int → Bool) (L : List Tg) : (sideL p L).length ≤ L.length := by
  unfold sideL; rw [List.length_map]; exact List.length_filter_le _ _
theorem lagging1_spec (x : Int) : Calls Try.prog 40 #[.int .i64 x] w (IsRet (.bool (laggingP x)) w) := by
  go_enter Try.func40, Try.ntmps40
  go_wp2
  go_ret
  exact ⟨rfl, rfl⟩
theorem leading1_spec (x : Int) : Calls Try.prog 41 #[.int .i64 x] w (IsRet (.bool (leadingP x)) w) := by
  go_enter Try.func41, Try.ntmps41
  go_wp2
  go_ret
  exact ⟨rfl, rfl⟩

def SdRel (p : Int → Bool) (b ab : Nat) (L : List Tg) (m : List (Int × Tg)) (a : Option Addr) (cap : Nat) (ks : List Int) (R : List SP) (w : World) (v5 v15 : Value) (wr : World) : Prop :=
  ∃ (i n : Nat) (a' : Option Addr) (c' : Nat), v15 = .int .i64 (i : Int) ∧ i ≤ L.length ∧ v5 = .slice a' n c' ∧ n = (sideL p (L.take i)).length ∧ n ≤ i ∧
    Own wr (slc 3 1 a' n c' (i64s (sideL p (L.take i))) :: slc 3 1 a ks.length cap (ks.map (Value.int .i64)) :: cel b 63 [.map (some ab)] :: mpI accV ab m :: R) ∧ Calm w wr
def SidePost (p : Int → Bool) (b N : Nat) (L : List Tg) (R : List SP) (w : World) (e : Ending) (w' : World) : Prop :=
  ∃ (a : Option Addr) (c : Nat), Ret (.slice a (sideL p L).length c) (slc 3 1 a (sideL p L).length c (i64s (sideL p L)) :: LagR b N L :: R) w e w'

set_option maxHeartbeats 3200000 in
set_option maxRecDepth 100000 in
theorem lagFlows1_spec (o : Own w (LagR b N L :: R)) :
    Calls Try.prog 39 #[.pointer (some ⟨b, 0, none⟩), .func (.func 40) #[] #[]] w (SidePost laggingP b N L R w) := by
  obtain ⟨ab, m, hm, hok, o1⟩ := LagR.iff.1 o
  have c1 := o1.cell 0
  have hlen := hm.ok.len
  have hml := hm.len
  have hks := hm.sort
  have hbl := o1.celLt
  go_enter Try.func39, Try.ntmps39
  go_wp2_with fail
  refine (keysAcc_spec _ _).mono ?_
  rintro e1 w1 ⟨rfl, rfl⟩
  have o2 := ((o1.alloc (.cells #[.map (some ab)] 61)).up 2).up 1
  go_wp2_with fail
  refine (sortedAcc_spec w.heap.size hm.keyOk (by omega) o2).mono ?_
  rintro e2 w2 ⟨a, cap, rfl, o3, k3⟩
  rw [hks] at o3
  have hkl : (L.map (·.f)).length = m.length := by rw [List.length_map, hml]
  rw [← hkl] at o3 ⊢
  have hget : ∀ (i : Nat) (t : Tg), L[i]? = some t → (L.map (·.f))[i]? = some t.f := fun i t h => by rw [List.getElem?_map, h]; rfl
  have Hget := Lib.hid hget
  have hkn : (L.map (·.f)).length = L.length := List.length_map _
  generalize L.map (·.f) = ks at *
  have hT : SdRel laggingP b ab L m a cap ks R w (.slice none 0 0) (.int .i64 0) w2 :=
    ⟨0, 0, none, 0, rfl, by omega, rfl, rfl, by omega, Own.slc_nil (o3.re [0, 2, 1]), ⟨k3.os, k3.tape, k3.output⟩⟩
  have Hkn := Lib.hid hkn
  have hk32 : ks.length ≤ 32 := by omega
  clear hkn hkl hks hml o3 k3 o2 o1 c1 hget hbl
  go_wp2
  go_loopw [5, 15] (fun v5 v15 wr => SdRel laggingP b ab L m a cap ks R w v5 v15 wr) (fun _ v _ => ks.length - (ivOf v).toNat)
  case atStart => exact hT
  case round =>
    clear hT
    obtain ⟨i, n, a', c', rfl, hi, rfl, hn, hni, oR, kR⟩ := hrel
    by_cases hlt : i < ks.length
    · obtain ⟨t, ht⟩ : ∃ t, L[i]? = some t := ⟨_, List.getElem?_eq_getElem (by have := Hkn.out; omega)⟩
      have hkt := Hget.out i t ht
      obtain ⟨g, rfl, hc, _, _⟩ := (oR.up 1).slc_cell (by omega)
      have d0 := hc i (.int .i64 t.f) (by rw [List.getElem?_map, hkt]; rfl)
      have c1 := (oR.up 2).cell 0
      have hfg := fget_memN hm.ok (List.mem_of_getElem? ht)
      have hlk := lookN_one (oR.up 3) hm hfg
      have htk : sideL laggingP (L.take (i + 1)) = if laggingP t.s then sideL laggingP (L.take i) ++ [t.f] else sideL laggingP (L.take i) := by
        rw [List.take_add_one, ht]; exact sideL_snoc _ _ _
      have hfl := accS t.w t.s
      have HNN := Lib.hid hn
      have HOR := Lib.hid oR
      clear hc hkt ht hfg hn
      have hcall : ∀ W : World, Calls Try.prog 40 #[.int .i64 t.s] W (IsRet (.bool (laggingP t.s)) W) := fun W => lagging1_spec t.s
      by_cases hp : laggingP t.s = true
      · rw [hp] at hcall
        rw [if_pos hp] at htk
        have HTK := Lib.hid htk
        have HC := Lib.hid hcall
        clear htk hcall
        have oA := oR.alloc (.cells #[.int .i64 t.f] 3)
        go_wp2_with (first | (refine (HC.out _).mono ?_; rintro e4 w4 ⟨rfl, rfl⟩) | (at_builtin; refine wpList_append_slc rfl _ _ rfl Try.intT rfl (oA.up 1) ⟨wr.heap.size, 0, none⟩ 1 1 [.int .i64 t.f] rfl rfl ?c1 ?c2 ?c3 ?c4 ?c5))
        case c1 => exact Own.news (T := 3) oA
        case c2 => intro u hu; simp at hu; rcases hu with rfl; rfl
        case c3 => unfold maxLen; omega
        case c4 => omega
        case c5 =>
        intro a2 c2 w5 o5 k5
        go_wp2
        go_roundw
        case rel =>
          refine ⟨i + 1, n + 1, a2, c2, by go_num, by have := Hkn.out; omega, rfl, ?_, by omega, ?_, kR.trans ⟨k5.os, k5.tape, k5.output⟩⟩
          · rw [HTK.out, List.length_append, ← HNN.out]; rfl
          · have e : i64s (sideL laggingP (List.take i L) ++ [t.f]) = i64s (sideL laggingP (List.take i L)) ++ [.int .i64 t.f] := by unfold i64s; rw [List.map_append]; rfl
            rw [HTK.out, e]
            exact (o5.up 1).drop
        case measure => simp [ivOf]; omega
      · have hp' : laggingP t.s = false := by simpa using hp
        rw [hp'] at hcall
        rw [if_neg hp] at htk
        have HTK := Lib.hid htk
        have HC := Lib.hid hcall
        clear htk hcall
        go_wp2_with (refine (HC.out _).mono ?_; rintro e4 w4 ⟨rfl, rfl⟩)
        go_roundw
        case rel => exact ⟨i + 1, n, a', c', by go_num, by have := Hkn.out; omega, rfl, by rw [HTK.out]; exact HNN.out, by omega, by rw [HTK.out]; exact HOR.out, kR⟩
        case measure => simp [ivOf]; omega
    · have hin : i = L.length := by have := Hkn.out; omega
      subst hin
      rw [List.take_length] at oR hn
      subst hn
      go_wp2
      go_ret
      exact ⟨a', c', rfl, Own.swap (LagR.iff.2 ⟨ab, m, hm, hok, oR.re [1, 2, 3, 0] 1⟩), kR⟩

theorem lagLagging_spec (o : Own w (LagR b N L :: R)) :
    Calls Try.prog 28 #[.pointer (some ⟨b, 0, none⟩)] w (SidePost laggingP b N L R w) := by
  have h := lagFlows1_spec o
  go_enter Try.func28, Try.ntmps28
  go_wp2_with fail
  refine h.mono ?_
  rintro e1 w1 ⟨a, c, rfl, o1, k1⟩
  go_wp2
  go_ret
  exact ⟨a, c, rfl, o1, k1⟩

set_option maxHeartbeats 3200000 in
set_option maxRecDepth 100000 in
theorem lagFlows2_spec (o : Own w (LagR b N L :: R)) :
    Calls Try.prog 39 #[.pointer (some ⟨b, 0, none⟩), .func (.func 41) #[] #[]] w (SidePost leadingP b N L R w) := by
  obtain ⟨ab, m, hm, hok, o1⟩ := LagR.iff.1 o
  have c1 := o1.cell 0
  have hlen := hm.ok.len
  have hml := hm.len
  have hks := hm.sort
  have hbl := o1.celLt
  go_enter Try.func39, Try.ntmps39
  go_wp2_with fail
  refine (keysAcc_spec _ _).mono ?_
  rintro e1 w1 ⟨rfl, rfl⟩
  have o2 := ((o1.alloc (.cells #[.map (some ab)] 61)).up 2).up 1
  go_wp2_with fail
  refine (sortedAcc_spec w.heap.size hm.keyOk (by omega) o2).mono ?_
  rintro e2 w2 ⟨a, cap, rfl, o3, k3⟩
  rw [hks] at o3
  have hkl : (L.map (·.f)).length = m.length := by rw [List.length_map, hml]
  rw [← hkl] at o3 ⊢
  have hget : ∀ (i : Nat) (t : Tg), L[i]? = some t → (L.map (·.f))[i]? = some t.f := fun i t h => by rw [List.getElem?_map, h]; rfl
  have Hget := Lib.hid hget
  have hkn : (L.map (·.f)).length = L.length := List.length_map _
  generalize L.map (·.f) = ks at *
  have hT : SdRel leadingP b ab L m a cap ks R w (.slice none 0 0) (.int .i64 0) w2 :=
    ⟨0, 0, none, 0, rfl, by omega, rfl, rfl, by omega, Own.slc_nil (o3.re [0, 2, 1]), ⟨k3.os, k3.tape, k3.output⟩⟩
  have Hkn := Lib.hid hkn
  have hk32 : ks.length ≤ 32 := by omega
  clear hkn hkl hks hml o3 k3 o2 o1 c1 hget hbl
  go_wp2
  go_loopw [5, 15] (fun v5 v15 wr => SdRel leadingP b ab L m a cap ks R w v5 v15 wr) (fun _ v _ => ks.length - (ivOf v).toNat)
  case atStart => exact hT
  case round =>
    clear hT
    obtain ⟨i, n, a', c', rfl, hi, rfl, hn, hni, oR, kR⟩ := hrel
    by_cases hlt : i < ks.length
    · obtain ⟨t, ht⟩ : ∃ t, L[i]? = some t := ⟨_, List.getElem?_eq_getElem (by have := Hkn.out; omega)⟩
      have hkt := Hget.out i t ht
      obtain ⟨g, rfl, hc, _, _⟩ := (oR.up 1).slc_cell (by omega)
      have d0 := hc i (.int .i64 t.f) (by rw [List.getElem?_map, hkt]; rfl)
      have c1 := (oR.up 2).cell 0
      have hfg := fget_memN hm.ok (List.mem_of_getElem? ht)
      have hlk := lookN_one (oR.up 3) hm hfg
      have htk : sideL leadingP (L.take (i + 1)) = if leadingP t.s then sideL leadingP (L.take i) ++ [t.f] else sideL leadingP (L.take i) := by
        rw [List.take_add_one, ht]; exact sideL_snoc _ _ _
      have hfl := accS t.w t.s
      have HNN := Lib.hid hn
      have HOR := Lib.hid oR
      clear hc hkt ht hfg hn
      have hcall : ∀ W : World, Calls Try.prog 41 #[.int .i64 t.s] W (IsRet (.bool (leadingP t.s)) W) := fun W => leading1_spec t.s
      by_cases hp : leadingP t.s = true
      · rw [hp] at hcall
        rw [if_pos hp] at htk
        have HTK := Lib.hid htk
        have HC := Lib.hid hcall
        clear htk hcall
        have oA := oR.alloc (.cells #[.int .i64 t.f] 3)
        go_wp2_with (first | (refine (HC.out _).mono ?_; rintro e4 w4 ⟨rfl, rfl⟩) | (at_builtin; refine wpList_append_slc rfl _ _ rfl Try.intT rfl (oA.up 1) ⟨wr.heap.size, 0, none⟩ 1 1 [.int .i64 t.f] rfl rfl ?c1 ?c2 ?c3 ?c4 ?c5))
        case c1 => exact Own.news (T := 3) oA
        case c2 => intro u hu; simp at hu; rcases hu with rfl; rfl
        case c3 => unfold maxLen; omega
        case c4 => omega
        case c5 =>
        intro a2 c2 w5 o5 k5
        go_wp2
        go_roundw
        case rel =>
          refine ⟨i + 1, n + 1, a2, c2, by go_num, by have := Hkn.out; omega, rfl, ?_, by omega, ?_, kR.trans ⟨k5.os, k5.tape, k5.output⟩⟩
          · rw [HTK.out, List.length_append, ← HNN.out]; rfl
          · have e : i64s (sideL leadingP (List.take i L) ++ [t.f]) = i64s (sideL leadingP (List.take i L)) ++ [.int .i64 t.f] := by unfold i64s; rw [List.map_append]; rfl
            rw [HTK.out, e]
            exact (o5.up 1).drop
        case measure => simp [ivOf]; omega
      · have hp' : leadingP t.s = false := by simpa using hp
        rw [hp'] at hcall
        rw [if_neg hp] at htk
        have HTK := Lib.hid htk
        have HC := Lib.hid hcall
        clear htk hcall
        go_wp2_with (refine (HC.out _).mono ?_; rintro e4 w4 ⟨rfl, rfl⟩)
        go_roundw
        case rel => exact ⟨i + 1, n, a', c', by go_num, by have := Hkn.out; omega, rfl, by rw [HTK.out]; exact HNN.out, by omega, by rw [HTK.out]; exact HOR.out, kR⟩
        case measure => simp [ivOf]; omega
    · have hin : i = L.length := by have := Hkn.out; omega
      subst hin
      rw [List.take_length] at oR hn
      subst hn
      go_wp2
      go_ret
      exact ⟨a', c', rfl, Own.swap (LagR.iff.2 ⟨ab, m, hm, hok, oR.re [1, 2, 3, 0] 1⟩), kR⟩

theorem lagLeading_spec (o : Own w (LagR b N L :: R)) :
    Calls Try.prog 30 #[.pointer (some ⟨b, 0, none⟩)] w (SidePost leadingP b N L R w) := by
  have h := lagFlows2_spec o
  go_enter Try.func30, Try.ntmps30
  go_wp2_with fail
  refine h.mono ?_
  rintro e1 w1 ⟨a, c, rfl, o1, k1⟩
  go_wp2
  go_ret
  exact ⟨a, c, rfl, o1, k1⟩
end
end Go.Proofs.Ytalkmeclkjnjnaa
