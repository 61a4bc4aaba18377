/- The reference's ledger: Lag, Parts, Side, Sum. -/
import Derived.Test.YtalkmeclkjnjnaaLed
import Derived.Test.YtalkmeclkjnjnaaLagC
namespace Go.Proofs.Ytalkmeclkjnjnaa
open Go.RowKit
open SP
section
variable {P W' : SP} {W w w' : World} {R : List SP} {b : Nat} {L : List Tg}
set_option maxHeartbeats 800000 in
theorem ledLag_spec (f : Int) (hL : L.length ≤ 1000) (o : Own w (LedR P b L :: P :: R)) :
    Calls Try.prog 32 #[.pointer (some ⟨b, 0, none⟩), .int .i64 f] w (IsRet (lagV L f) w) := by
  have hat := ledAt_spec f hL o
  cases hf : fget L f with
  | none =>
    have e : lagV L f = .tuple #[.int .i64 0, .bool false] := by unfold lagV; rw [hf]
    rw [e]; clear e
    rw [idxT_none 0 L hf] at hat
    clear hf
    go_enter Try.func32, Try.ntmps32
    go_wp2_with fail
    refine hat.mono ?_
    rintro e1 w1 ⟨rfl, rfl⟩
    go_wp2
    go_ret2
    exact ⟨rfl, rfl⟩
  | some t =>
    have e : lagV L f = .tuple #[.int .i64 t.s, .bool true] := by unfold lagV; rw [hf]
    rw [e]; clear e
    obtain ⟨i, hi, hai⟩ := idxT_some 0 L hf
    rw [hai, Nat.zero_add] at hat
    obtain ⟨a, c, ⟨⟨hP, -⟩, hc⟩, o1⟩ := LedR.iff.1 o
    have c1 := o1.cell 0
    obtain ⟨g, so, rfl, d0, d1, d2⟩ := hP _ _ (o1.up 1) i _ hi
    have hil := (List.getElem?_eq_some_iff.1 hi).1
    clear hf hai hi
    go_enter Try.func32, Try.ntmps32
    go_wp2_with fail
    refine hat.mono ?_
    rintro e1 w1 ⟨rfl, rfl⟩
    go_wp2
    go_ret2
    exact ⟨rfl, rfl⟩

def LsRel (P : SP) (b : Nat) (L : List Tg) (R : List SP) (w : World) (v3 v4 : Value) (wr : World) : Prop :=
  ∃ (i : Nat), v4 = .int .i64 (i : Int) ∧ v3 = .int .i64 (sumS (L.take i)) ∧ i ≤ L.length ∧ Own wr (LedR P b L :: P :: R) ∧ Calm w wr
theorem sumS_snoc (L : List Tg) (t : Tg) : sumS (L ++ [t]) = sumS L + t.s := by
  unfold sumS lags; rw [List.map_append]; exact sumI_snoc _ _
theorem sumS_abs : ∀ L : List Tg, ab (sumS L) ≤ absS L
  | [] => Int.le_refl _
  | t :: L => by rw [sumS_cons, absS_cons]; have := sumS_abs L; unfold ab at *; omega
theorem absS_take (L : List Tg) (i : Nat) : absS (L.take i) ≤ absS L := by
  induction L generalizing i with
  | nil => rw [List.take_nil]; exact Int.le_refl _
  | cons t L ih =>
    cases i with
    | zero => rw [List.take_zero]; exact absS_nonneg _
    | succ i => rw [List.take_succ_cons, absS_cons, absS_cons]; have := ih i; omega
set_option maxHeartbeats 1600000 in
set_option maxRecDepth 100000 in
theorem ledSum_spec {N : Nat} (hok : LgOk N L) (hN : (N : Int) ≤ 1000000000000) (o : Own w (LedR P b L :: P :: R)) :
    Calls Try.prog 31 #[.pointer (some ⟨b, 0, none⟩)] w (Ret (.int .i64 (sumS L)) (LedR P b L :: P :: R) w) := by
  have hT : LsRel P b L R w (.int .i64 0) (.int .i64 0) w := ⟨0, rfl, rfl, by omega, o, Calm.refl w⟩
  have hl := hok.ok.len
  have hbd : ∀ i, Go.Proofs.Ytalkmeclkjnjnaa.ab (sumS (L.take i)) ≤ 8192 * (N : Int) := fun i => Int.le_trans (sumS_abs _) (Int.le_trans (absS_take L i) hok.sm)
  have HB := Lib.hid hbd
  clear hok hbd o
  go_enter Try.func31, Try.ntmps31
  go_wp2
  go_loopw [3, 4] (fun v3 v4 wr => LsRel P b L R w v3 v4 wr) (fun _ v _ => L.length - (ivOf v).toNat)
  case atStart => exact hT
  case round =>
    clear hT
    obtain ⟨i, rfl, rfl, hi, oR, kR⟩ := hrel
    obtain ⟨a, c, ⟨⟨hP, hs⟩, hc⟩, o1⟩ := LedR.iff.1 oR
    have c1 := o1.cell 0
    by_cases hlt : i < L.length
    · obtain ⟨t, ht⟩ : ∃ t, L[i]? = some t := ⟨_, List.getElem?_eq_getElem hlt⟩
      obtain ⟨g, so, rfl, d0, d1, d2⟩ := hP _ _ (o1.up 1) i _ ht
      have hsn : sumS (L.take (i + 1)) = sumS (L.take i) + t.s := by rw [take_snoc ht, sumS_snoc]
      have b1 := HB.out i
      have b2 := HB.out (i + 1)
      rw [hsn] at b2
      have hw : IntKind.i64.wrap (sumS (L.take i) + t.s) = sumS (L.take i) + t.s := by unfold Go.Proofs.Ytalkmeclkjnjnaa.ab at b1 b2; rw [IntKind.wrap_i64]; omega
      have HS := Lib.hid hsn
      clear ht hsn b1 b2
      generalize sumS (L.take i) = s0 at *
      go_wp2
      go_roundw
      case rel => exact ⟨i + 1, by go_num, by rw [HS.out], by omega, oR, kR⟩
      case measure => simp [ivOf]; omega
    · have hin : i = L.length := by omega
      subst hin
      rw [List.take_length]
      go_wp2
      go_ret
      exact ⟨rfl, oR, kR⟩

def LpRel (P : SP) (b : Nat) (a : Option Addr) (c : Nat) (L : List Tg) (R : List SP) (w : World) (v3 v4 : Value) (wr : World) : Prop :=
  ∃ (i : Nat) (a' : Option Addr) (c' : Nat), v4 = .int .i64 (i : Int) ∧ i ≤ L.length ∧ v3 = .slice a' i c' ∧
    Own wr (slc 34 2 a' i c' (flat part ((ptsOf L).take i)) :: cel b 48 [.slice a L.length c] :: P :: R) ∧ Calm w wr
def LedPartsC (P : SP) (b : Nat) (aL : Option Addr) (cL : Nat) (L : List Tg) (R : List SP) (w : World) (e : Ending) (w' : World) : Prop :=
  ∃ (a : Option Addr) (c : Nat), Ret (.slice a L.length c) (slc 34 2 a L.length c (flat part (ptsOf L)) :: cel b 48 [.slice aL L.length cL] :: P :: R) w e w'
def LedPartsPost (P : SP) (b : Nat) (L : List Tg) (R : List SP) (w : World) (e : Ending) (w' : World) : Prop :=
  ∃ (a : Option Addr) (c : Nat), Ret (.slice a L.length c) (slc 34 2 a L.length c (flat part (ptsOf L)) :: LedR P b L :: P :: R) w e w'
set_option maxHeartbeats 3200000 in
set_option maxRecDepth 100000 in
theorem ledPartsC_spec {a : Option Addr} {c : Nat} (hL : L.length ≤ 1000) (hP : TagsAt P a L) (o : Own w (cel b 48 [.slice a L.length c] :: P :: R)) :
    Calls Try.prog 24 #[.pointer (some ⟨b, 0, none⟩)] w (LedPartsC P b a c L R w) := by
  have hT : LpRel P b a c L R w (.slice none 0 0) (.int .i64 0) w := ⟨0, none, 0, rfl, by omega, rfl, Own.slc_nil o, Calm.refl w⟩
  clear o
  go_enter Try.func24, Try.ntmps24
  go_wp2
  go_loopw [3, 4] (fun v3 v4 wr => LpRel P b a c L R w v3 v4 wr) (fun _ v _ => L.length - (ivOf v).toNat)
  case atStart => exact hT
  case round =>
    clear hT
    obtain ⟨i, a', c', rfl, hi, rfl, oR, kR⟩ := hrel
    have o1 := oR.re [1, 0, 2]
    have c1 := o1.cell 0
    by_cases hlt : i < L.length
    · obtain ⟨t, ht⟩ : ∃ t, L[i]? = some t := ⟨_, List.getElem?_eq_getElem hlt⟩
      obtain ⟨g, so, rfl, d0, d1, d2⟩ := hP _ _ (o1.up 2) i _ ht
      have htk : (ptsOf L).take (i + 1) = (ptsOf L).take i ++ [(t.f, t.w)] := by
        rw [List.take_add_one]; unfold ptsOf; rw [List.getElem?_map, ht]; rfl
      have HTK := Lib.hid htk
      have oA := (o1.alloc (.cells #[.int .i64 t.f, .int .i64 t.w] 34)).drew
      have hnw := Own.news (T := 34) (vs := [.int .i64 t.f, .int .i64 t.w]) oA
      have HT := Lib.hid ht
      clear ht htk
      have hbl := o1.celLt
      go_wp2
      go_region_held3 (fun wx => wx.cell? ⟨b, 0, none⟩ = some (.slice (some ⟨g, so, none⟩) L.length c) ∧ wx.cell? ⟨g, so + i * 3, none⟩ = some (.int .i64 t.f) ∧ wx.cell? ⟨g, so + i * 3 + 1, none⟩ = some (.int .i64 t.w)) (go_keep) (first | (refine step_append_src rfl _ _ rfl Try.partT rfl (oA.up 2) rfl ⟨_, _, rfl, rfl, by intro u hu; simp at hu; rcases hu with rfl | rfl <;> rfl, .inr ⟨_, rfl, hnw⟩⟩ (by unfold maxLen; omega) (by omega) ?_; intro a2 c2 w5 o5 k5; have x1 := (o5.up 2).cell 0; obtain ⟨_, _, hh, p0, p1, p2⟩ := hP _ _ (o5.up 3) i _ HT.out; cases hh))
      all_goals go_wp2
      all_goals go_roundw
      all_goals first
        | (case rel => exact ⟨i + 1, a2, c2, by go_num, by omega, rfl, by rw [HTK.out, flat_append]; exact (o5.re [1, 0, 2, 3] 1), ⟨k5.os.trans kR.os, k5.tape.trans kR.tape, k5.output.trans kR.output⟩⟩)
        | (case measure => simp [ivOf]; omega)
    · have hin : i = L.length := by omega
      subst hin
      rw [List.take_of_length_le (by rw [ptsOf_len]; omega)] at oR
      go_wp2
      go_ret
      exact ⟨a', c', rfl, oR, kR⟩
theorem ledParts_spec (hL : L.length ≤ 1000) (o : Own w (LedR P b L :: P :: R)) :
    Calls Try.prog 24 #[.pointer (some ⟨b, 0, none⟩)] w (LedPartsPost P b L R w) := by
  obtain ⟨a, c, ⟨⟨hP, hs⟩, hc⟩, o1⟩ := LedR.iff.1 o
  refine (ledPartsC_spec hL hP o1).mono ?_
  rintro e w' ⟨a', c', rfl, o2, k2⟩
  exact ⟨a', c', rfl, Own.swap (LedR.iff.2 ⟨a, c, ⟨⟨hP, hs⟩, hc⟩, o2.swap⟩), k2⟩

def LdRel (p : Int → Bool) (P : SP) (b : Nat) (L : List Tg) (R : List SP) (w : World) (v5 v6 : Value) (wr : World) : Prop :=
  ∃ (i n : Nat) (a' : Option Addr) (c' : Nat), v6 = .int .i64 (i : Int) ∧ i ≤ L.length ∧ v5 = .slice a' n c' ∧ n = (sideL p (L.take i)).length ∧ n ≤ i ∧
    Own wr (slc 3 1 a' n c' (i64s (sideL p (L.take i))) :: LedR P b L :: P :: R) ∧ Calm w wr
def LedSidePost (p : Int → Bool) (P : SP) (b : Nat) (L : List Tg) (R : List SP) (w : World) (e : Ending) (w' : World) : Prop :=
  ∃ (a : Option Addr) (c : Nat), Ret (.slice a (sideL p L).length c) (slc 3 1 a (sideL p L).length c (i64s (sideL p L)) :: LedR P b L :: P :: R) w e w'
set_option maxHeartbeats 3200000 in
set_option maxRecDepth 100000 in
theorem ledSide_spec (p : Int → Bool) (sign : Int) (hp : ∀ t ∈ L, decide (0 < IntKind.i64.wrap (t.s * sign)) = p t.s) (hL : L.length ≤ 1000) (o : Own w (LedR P b L :: P :: R)) :
    Calls Try.prog 29 #[.pointer (some ⟨b, 0, none⟩), .int .i64 sign] w (LedSidePost p P b L R w) := by
  have hT : LdRel p P b L R w (.slice none 0 0) (.int .i64 0) w := ⟨0, 0, none, 0, rfl, by omega, rfl, rfl, by omega, Own.slc_nil o, Calm.refl w⟩
  clear o
  have HP := Lib.hid hp
  clear hp
  go_enter Try.func29, Try.ntmps29
  go_wp2
  go_loopw [5, 6] (fun v5 v6 wr => LdRel p P b L R w v5 v6 wr) (fun _ v _ => L.length - (ivOf v).toNat)
  case atStart => exact hT
  case round =>
    clear hT
    obtain ⟨i, n, a', c', rfl, hi, rfl, hn, hni, oR, kR⟩ := hrel
    obtain ⟨a, c, ⟨⟨hP, hs⟩, hc⟩, o1⟩ := LedR.iff.1 (oR.up 1)
    have c1 := o1.cell 0
    by_cases hlt : i < L.length
    · obtain ⟨t, ht⟩ : ∃ t, L[i]? = some t := ⟨_, List.getElem?_eq_getElem hlt⟩
      obtain ⟨g, so, rfl, d0, d1, d2⟩ := hP _ _ (o1.up 2) i _ ht
      have htk : sideL p (L.take (i + 1)) = if p t.s then sideL p (L.take i) ++ [t.f] else sideL p (L.take i) := by
        rw [List.take_add_one, ht]; exact sideL_snoc _ _ _
      have hpt := HP.out t (List.mem_of_getElem? ht)
      obtain ⟨x, hx⟩ : ∃ x, IntKind.i64.wrap (t.s * sign) = x := ⟨_, rfl⟩
      rw [hx] at hpt
      have HNN := Lib.hid hn
      have HOR := Lib.hid oR
      have HT := Lib.hid ht
      clear ht hn
      have hbl := o1.celLt
      by_cases hpp : p t.s = true
      · rw [hpp] at hpt
        rw [if_pos hpp] at htk
        have HTK := Lib.hid htk
        clear htk hpp
        have oA := (o1.alloc (.cells #[.int .i64 t.f] 3))
        go_wp2_with (at_builtin; refine wpList_append_slc rfl _ _ rfl Try.intT rfl (oA.up 2) ⟨wr.heap.size, 0, none⟩ 1 1 [.int .i64 t.f] rfl rfl ?c1 ?c2 ?c3 ?c4 ?c5)
        case c1 => exact Own.news (T := 3) oA
        case c2 => intro u hu; simp at hu; rcases hu with rfl; rfl
        case c3 => unfold maxLen; omega
        case c4 => omega
        case c5 =>
        intro a2 c2 w5 o5 k5
        go_wp2
        go_roundw
        case rel =>
          refine ⟨i + 1, n + 1, a2, c2, by go_num, by omega, rfl, ?_, by omega, ?_, kR.trans ⟨k5.os, k5.tape, k5.output⟩⟩
          · rw [HTK.out, List.length_append, ← HNN.out]; rfl
          · have e : i64s (sideL p (List.take i L) ++ [t.f]) = i64s (sideL p (List.take i L)) ++ [.int .i64 t.f] := by unfold i64s; rw [List.map_append]; rfl
            rw [HTK.out, e]
            exact Own.swap (LedR.iff.2 ⟨_, _, ⟨⟨hP, hs⟩, hc⟩, o5.re [1, 2, 0, 3] 1⟩)
        case measure => simp [ivOf]; omega
      · have hp' : p t.s = false := by simpa using hpp
        rw [hp'] at hpt
        rw [if_neg hpp] at htk
        have HTK := Lib.hid htk
        clear htk hpp hp'
        go_wp2
        go_roundw
        case rel => exact ⟨i + 1, n, a', c', by go_num, by omega, rfl, by rw [HTK.out]; exact HNN.out, by omega, by rw [HTK.out]; exact HOR.out, kR⟩
        case measure => simp [ivOf]; omega
    · have hin : i = L.length := by omega
      subst hin
      rw [List.take_length] at oR hn
      subst hn
      go_wp2
      go_ret
      exact ⟨a', c', rfl, oR, kR⟩
end
end Go.Proofs.Ytalkmeclkjnjnaa
