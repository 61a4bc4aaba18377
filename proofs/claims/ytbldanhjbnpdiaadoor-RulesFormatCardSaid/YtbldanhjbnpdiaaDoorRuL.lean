/- Rules: the reference's Decimal and FormatRule. -/
import Derived.Test.YtbldanhjbnpdiaaDoorRuK
import Derived.Test.YtbldanhjbnpdiaaDoorRcP
import Derived.Test.YtbldanhjbnpdiaaDoorRuE
import Derived.Deep.DeepCutAuto
import Derived.Deep.CutBlock
namespace Go.Proofs.YtbldanhjbnpdiaaDoor
open Go.RowKit
open SP
section
variable {W w w' : World} {R : List SP}
def digS : ByteArray := ⟨#[48, 49, 50, 51, 52, 53, 54, 55, 56, 57]⟩
theorem dig_fin : ∀ i : Fin 10, digS.extract i.val (i.val + 1) = mkB (dig i.val) := by decide +kernel
theorem dig_at {i : Nat} (h : i < 10) : digS.extract i (i + 1) = mkB (dig i) := dig_fin ⟨i, h⟩
def DecRel (n0 : Nat) (w : World) (v0 v3 : Value) (wr : World) : Prop :=
  ∃ (n : Nat) (s : List UInt8), v0 = .int .i64 (n : Int) ∧ v3 = .string (mkB s) ∧ n ≤ n0 ∧ Lib.decDigits n0 = Lib.decDigits n ++ s ∧ wr = w
def natOf : Value → Nat
  | .int _ n => n.toNat
  | _ => 0
set_option maxHeartbeats 1600000 in
set_option maxRecDepth 100000 in
theorem decimalN_spec (n0 : Nat) (h : n0 ≤ 9223372036854775807) : Calls Tryd.prog 16 #[.int .i64 (n0 : Int)] w (IsRet (.string (mkB (Lib.decDigits n0))) w) := by
  have hT : DecRel n0 w (.int .i64 (n0 : Int)) (.string ⟨#[]⟩) w := ⟨n0, [], rfl, rfl, Nat.le_refl _, by rw [List.append_nil], rfl⟩
  go_enter Tryd.func16, Tryd.ntmps16
  go_wp2
  go_loopw [0, 3] (fun v0 v3 wr => DecRel n0 w v0 v3 wr) (fun v _ _ => natOf v)
  case atStart => exact hT
  case round =>
    clear hT
    obtain ⟨n, s, rfl, rfl, hn, he, rfl⟩ := hrel
    have hsz : (mkB s).size ≤ 100 := by
      have h1 := congrArg List.length he
      rw [List.length_append] at h1
      have h2 := dec_len (u := n0) (by omega)
      rw [mkB_size]; omega
    have HE := Lib.hid he
    clear he
    by_cases h9 : 9 < n
    · have d := dig_at (i := n % 10) (by omega)
      have e1 : digS.extract (n % 10) (n % 10 + 1) ++ mkB s = mkB (dig (n % 10) ++ s) := by rw [d, mkB_append]
      have E1 := Lib.hid e1
      have hst := dec_step h9 s
      have HST := Lib.hid hst
      clear d e1 hst
      go_wp2
      go_roundw
      case rel => exact ⟨n / 10, dig (n % 10) ++ s, by simp, congrArg Value.string E1.out, by omega, HE.out.trans HST.out, rfl⟩
      case measure => simp [natOf]; omega
    · have d := dig_at (i := n) (by omega)
      have e1 : digS.extract n (n + 1) ++ mkB s = mkB (Lib.decDigits n0) := by rw [d, mkB_append, HE.out, ← dec_last h9]
      have E1 := Lib.hid e1
      have hs10 : n < 10 := by omega
      clear d e1
      go_wp2
      go_ret
      exact ⟨congrArg (fun b => Ending.returned (Value.string b)) E1.out, rfl⟩

def decI (n : Int) : List UInt8 := Lib.decDigits n.toNat
theorem decI_spec (n : Int) (h0 : 0 ≤ n) (h1 : n ≤ 9223372036854775807) : Calls Tryd.prog 16 #[.int .i64 n] w (IsRet (.string (mkB (decI n))) w) := by
  obtain ⟨k, rfl⟩ : ∃ k : Nat, n = (k : Int) := ⟨n.toNat, by omega⟩
  exact decimalN_spec k (by omega)
theorem decI_len (n : Int) (h1 : n ≤ 65535) : (decI n).length ≤ 20 := by
  exact Nat.le_trans (dec_len (u := n.toNat) (by omega)) (by omega)
def stW (r : Ru) : List UInt8 := if r.st = [] then [42] else r.st
def clW (r : Ru) : List UInt8 := if 0 ≤ r.cls then decI r.cls else [42]
def poW (r : Ru) : List UInt8 := if r.first = 0 ∧ r.last = 65535 then [42] else if r.first ≠ r.last then decI r.first ++ 45 :: decI r.last else decI r.first
/-- The text of a rule. -/
def fmtR (r : Ru) : List UInt8 := stW r ++ [32] ++ clW r ++ [32] ++ poW r ++ [32, 62] ++ decI r.flow
def fmtV (r : Ru) : Value := .tuple #[.string (if ruOK r then mkB (fmtR r) else ⟨#[]⟩), .int .i64 (if ruOK r then 0 else 1)]
theorem ruOK_iff {r : Ru} (h : ruOK r = true) : (r.st = [] ∨ nameB r.st = true) ∧ -1 ≤ r.cls ∧ r.cls ≤ 7 ∧ 0 ≤ r.first ∧ r.first ≤ r.last ∧ r.last ≤ 65535 ∧ 0 ≤ r.flow ∧ r.flow < 32 := by
  unfold ruOK at h
  simp only [Bool.and_eq_true, Bool.or_eq_true, decide_eq_true_eq] at h
  exact ⟨h.1, h.2⟩
theorem nameB_len {l : List UInt8} (h : nameB l = true) : 1 ≤ l.length ∧ l.length ≤ 24 := by
  unfold nameB at h
  simp only [Bool.and_eq_true, decide_eq_true_eq] at h
  exact ⟨h.1.2, h.2⟩
theorem stW_len {r : Ru} (h : ruOK r = true) : 1 ≤ (stW r).length ∧ (stW r).length ≤ 24 := by
  unfold stW
  split
  · exact ⟨by decide, by decide⟩
  · rename_i h1
    rcases (ruOK_iff h).1 with h2 | h2
    · exact absurd h2 h1
    · exact nameB_len h2
theorem clW_len {r : Ru} (h : ruOK r = true) : (clW r).length ≤ 20 := by
  have := ruOK_iff h
  unfold clW
  split
  · exact decI_len _ (by omega)
  · decide
theorem poW_len {r : Ru} (h : ruOK r = true) : (poW r).length ≤ 41 := by
  have := ruOK_iff h
  have h1 := decI_len r.first (by omega)
  have h2 := decI_len r.last (by omega)
  unfold poW
  split
  · simp
  · split
    · rw [List.length_append, List.length_cons]; omega
    · omega
theorem fmtR_len {r : Ru} (h : ruOK r = true) : 1 ≤ (fmtR r).length ∧ (fmtR r).length ≤ 120 := by
  have h0 := ruOK_iff h
  have h1 := stW_len h
  have h2 := clW_len h
  have h3 := poW_len h
  have h4 := decI_len r.flow (by omega)
  unfold fmtR
  simp only [List.length_append, List.length_cons, List.length_nil]
  omega
set_option maxHeartbeats 12800000 in
set_option maxRecDepth 100000 in
theorem refFormat_spec (r : Ru) (hs : r.st.length ≤ 2000000) (o : Own w R) : Calls Tryd.prog 6 #[ruV r] w (Ret (fmtV r) R w) := by
  have o1 := o.alloc (.cells #[.string (mkB r.st), .int .i64 r.cls, .int .i64 r.first, .int .i64 r.last, .int .i64 r.flow] 29)
  have hV := refValidRu_spec r hs o1
  cases hok : ruOK r with
  | false =>
    have hv : fmtV r = .tuple #[.string ⟨#[]⟩, .int .i64 1] := by unfold fmtV; rw [hok]; rfl
    rw [hv]
    rw [hok] at hV
    unfold ruV at hV ⊢
    clear hv hok
    go_enter Tryd.func6, Tryd.ntmps6
    go_wp2_with fail
    refine hV.mono ?_
    rintro e1 w1 ⟨rfl, o2, k2⟩
    go_wp2
    go_ret2
    exact ⟨rfl, o2.drop, k2.al⟩
  | true =>
    have hv : fmtV r = .tuple #[.string (mkB (fmtR r)), .int .i64 0] := by unfold fmtV; rw [hok]; rfl
    have hq := ruOK_iff hok
    have z1 := stW_len hok
    have z2 := clW_len hok
    have z3 := poW_len hok
    have z4 := decI_len r.flow (by omega)
    have z5 := decI_len r.first (by omega)
    have z6 := decI_len r.last (by omega)
    rw [hv]
    rw [hok] at hV
    unfold ruV at hV ⊢
    clear hv hok
    have DF := Lib.hid fun (w1 : World) => decI_spec (w := w1) r.first (by omega) (by omega)
    have DL := Lib.hid fun (w1 : World) => decI_spec (w := w1) r.last (by omega) (by omega)
    have DC := Lib.hid fun (w1 : World) (h : 0 ≤ r.cls) => decI_spec (w := w1) r.cls h (by omega)
    have DY := Lib.hid fun (w1 : World) => decI_spec (w := w1) r.flow (by omega) (by omega)
    go_enter Tryd.func6, Tryd.ntmps6
    go_wp2_with fail
    refine hV.mono ?_
    rintro e1 w1 ⟨rfl, o2, k2⟩
    have k2 := k2.al
    generalize w.heap.size = bx at *
    have o2 := o2.drew
    have k2 : Calm w w1.drew := k2.d1
    have x0 := o2.cell 0
    have x1 := o2.cell 1
    have x2 := o2.cell 2
    have x3 := o2.cell 3
    have x4 := o2.cell 4
    have y0 := IsRet.still (DF.out w1.drew)
    have hem := emptyB (mkB r.st)
    rw [mkB_data] at hem
    obtain ⟨em, hem2⟩ : ∃ em, decide (r.st = []) = em := ⟨_, rfl⟩
    rw [hem2] at hem
    have HEM := Lib.hid hem2
    clear o1 hV hem2
    go_wp2
    refine wp_region_tail 5 (by kernel_rfl) (by kernel_rfl) ?_
    simp only [List.take_succ_cons, List.take_zero, List.drop_succ_cons, List.drop_zero]
    repeat (first | still_step | still_call y0)
    refine wpStill_nil ?_
    go_upto_if 16 with fail
    go_cut [4] (fun v wc => v = .string (mkB (stW r)) ∧ Own wc (cel bx 29 [.string (mkB r.st), .int .i64 r.cls, .int .i64 r.first, .int .i64 r.last, .int .i64 r.flow] :: R) ∧ Calm w wc)
    case first =>
      cases em with
      | true =>
        have HS := Lib.hid (show mkB (stW r) = ⟨#[42]⟩ by unfold stW; rw [if_pos (of_decide_eq_true HEM.out)]; rfl)
        go_wp2
        go_meet
        exact ⟨by rw [HS.out], o2, k2⟩
      | false =>
        have HS := Lib.hid (show mkB (stW r) = mkB r.st by unfold stW; rw [if_neg (of_decide_eq_false HEM.out)])
        go_wp2
        go_meet
        exact ⟨by rw [HS.out], o2, k2⟩
    case rest =>
    obtain ⟨rfl, o2, k2⟩ := hcut
    clear x0 x1 x2 x3 x4 y0
    have x1 := o2.cell 1
    go_upto_if 19 with fail
    go_cut [5] (fun v wc => v = .string (mkB (clW r)) ∧ Own wc (cel bx 29 [.string (mkB r.st), .int .i64 r.cls, .int .i64 r.first, .int .i64 r.last, .int .i64 r.flow] :: R) ∧ Calm w wc)
    case first =>
      by_cases h0 : 0 ≤ r.cls
      · have HS := Lib.hid (show mkB (clW r) = mkB (decI r.cls) by unfold clW; rw [if_pos h0])
        have d0 := decide_eq_true h0
        go_wp2_with fail
        refine (DC.out _ h0).mono ?_
        rintro e3 w3 ⟨rfl, rfl⟩
        go_wp2
        go_meet
        exact ⟨by rw [HS.out], o2, k2⟩
      · have HS := Lib.hid (show mkB (clW r) = ⟨#[42]⟩ by unfold clW; rw [if_neg h0]; rfl)
        have d0 := decide_eq_false h0
        go_wp2
        go_meet
        exact ⟨by rw [HS.out], o2, k2⟩
    case rest =>
    obtain ⟨rfl, o2, k2⟩ := hcut
    clear x1
    have x2 := o2.cell 2
    have x3 := o2.cell 3
    go_upto_block 0 with fail
    go_cut [6] (fun v wc => v = .string (mkB (poW r)) ∧ Own wc (cel bx 29 [.string (mkB r.st), .int .i64 r.cls, .int .i64 r.first, .int .i64 r.last, .int .i64 r.flow] :: R) ∧ Calm w wc)
    case first =>
      have sF : (mkB (decI r.first)).size ≤ 20 := z5
      have sL : (mkB (decI r.last)).size ≤ 20 := z6
      have q1 : (⟨#[45]⟩ : ByteArray) ++ mkB (decI r.last) = mkB (45 :: decI r.last) := mkB_append [45] _
      have q2 : mkB (decI r.first) ++ mkB (45 :: decI r.last) = mkB (decI r.first ++ 45 :: decI r.last) := mkB_append _ _
      have sM : (mkB (45 :: decI r.last)).size ≤ 21 := by rw [mkB_size, List.length_cons]; omega
      by_cases g1 : r.first = 0 ∧ r.last = 65535
      · have HS := Lib.hid (show mkB (poW r) = ⟨#[42]⟩ by unfold poW; rw [if_pos g1]; rfl)
        have e1 : (r.first == 0) = true := beq_iff_eq.2 g1.1
        have e2 : (r.last == 65535) = true := beq_iff_eq.2 g1.2
        clear g1 hq q1 q2 DF DL
        go_wp2
        go_meet
        exact ⟨by rw [HS.out], o2, k2⟩
      by_cases g3 : r.first ≠ r.last <;> by_cases g2 : r.first = 0
      · have HS := Lib.hid (show mkB (poW r) = mkB (decI r.first ++ 45 :: decI r.last) by unfold poW; rw [if_neg g1, if_pos g3])
        have e1 : (r.first == 0) = true := beq_iff_eq.2 g2
        have e2 : (r.last == 65535) = false := beq_eq_false_iff_ne.2 fun e => g1 ⟨g2, e⟩
        have e3 : (r.first != r.last) = true := bne_iff_ne.2 g3
        clear g1 g2 g3 hq
        go_wp2_with fail
        refine (DL.out _).mono ?_
        rintro e3 w3 ⟨rfl, rfl⟩
        go_wp2
        go_meet
        exact ⟨by rw [HS.out], o2, k2⟩
      · have HS := Lib.hid (show mkB (poW r) = mkB (decI r.first ++ 45 :: decI r.last) by unfold poW; rw [if_neg g1, if_pos g3])
        have e1 : (r.first == 0) = false := beq_eq_false_iff_ne.2 g2
        have e3 : (r.first != r.last) = true := bne_iff_ne.2 g3
        clear g1 g2 g3 hq
        go_wp2_with fail
        refine (DL.out _).mono ?_
        rintro e3 w3 ⟨rfl, rfl⟩
        go_wp2
        go_meet
        exact ⟨by rw [HS.out], o2, k2⟩
      · have HS := Lib.hid (show mkB (poW r) = mkB (decI r.first) by unfold poW; rw [if_neg g1, if_neg g3])
        have e1 : (r.first == 0) = true := beq_iff_eq.2 g2
        have e2 : (r.last == 65535) = false := beq_eq_false_iff_ne.2 fun e => g1 ⟨g2, e⟩
        have e3 : (r.first != r.last) = false := by rw [bne_eq_false_iff_eq]; exact Decidable.of_not_not g3
        clear g1 g2 g3 hq
        go_wp2
        go_meet
        exact ⟨by rw [HS.out], o2, k2⟩
      · have HS := Lib.hid (show mkB (poW r) = mkB (decI r.first) by unfold poW; rw [if_neg g1, if_neg g3])
        have e1 : (r.first == 0) = false := beq_eq_false_iff_ne.2 g2
        have e3 : (r.first != r.last) = false := by rw [bne_eq_false_iff_eq]; exact Decidable.of_not_not g3
        clear g1 g2 g3 hq
        go_wp2
        go_meet
        exact ⟨by rw [HS.out], o2, k2⟩
    case rest =>
    obtain ⟨rfl, o2, k2⟩ := hcut
    clear x2 x3
    have x4 := o2.cell 4
    obtain ⟨T1, q1⟩ : ∃ t, mkB (stW r) ++ (⟨#[32]⟩ : ByteArray) = t := ⟨_, rfl⟩
    obtain ⟨T2, q2⟩ : ∃ t, T1 ++ mkB (clW r) = t := ⟨_, rfl⟩
    obtain ⟨T3, q3⟩ : ∃ t, T2 ++ (⟨#[32]⟩ : ByteArray) = t := ⟨_, rfl⟩
    obtain ⟨T4, q4⟩ : ∃ t, T3 ++ mkB (poW r) = t := ⟨_, rfl⟩
    obtain ⟨T5, q5⟩ : ∃ t, T4 ++ (⟨#[32, 62]⟩ : ByteArray) = t := ⟨_, rfl⟩
    obtain ⟨T6, q6⟩ : ∃ t, T5 ++ mkB (decI r.flow) = t := ⟨_, rfl⟩
    have n1 : (mkB (stW r)).size ≤ 24 := z1.2
    have n2 : (mkB (clW r)).size ≤ 20 := z2
    have n3 : (mkB (poW r)).size ≤ 41 := z3
    have n4 : (mkB (decI r.flow)).size ≤ 20 := z4
    have l1 : (⟨#[32]⟩ : ByteArray).size = 1 := rfl
    have l2 : (⟨#[32, 62]⟩ : ByteArray).size = 2 := rfl
    have m1 : T1.size ≤ 25 := by rw [← q1, ByteArray.size_append]; omega
    have m2 : T2.size ≤ 45 := by rw [← q2, ByteArray.size_append]; omega
    have m3 : T3.size ≤ 46 := by rw [← q3, ByteArray.size_append]; omega
    have m4 : T4.size ≤ 87 := by rw [← q4, ByteArray.size_append]; omega
    have m5 : T5.size ≤ 89 := by rw [← q5, ByteArray.size_append]; omega
    have HT := Lib.hid (show T6 = mkB (fmtR r) by
      rw [← q6, ← q5, ← q4, ← q3, ← q2, ← q1, show (⟨#[32]⟩ : ByteArray) = mkB [32] from rfl, show (⟨#[32, 62]⟩ : ByteArray) = mkB [32, 62] from rfl]
      simp only [mkB_append]
      rfl)
    clear l1 l2 z1 z2 z3 z4 z5 z6
    go_wp2_with fail
    refine (DY.out _).mono ?_
    rintro e3 w3 ⟨rfl, rfl⟩
    go_wp2
    go_ret2
    exact ⟨by rw [← HT.out]; rfl, o2.drop, k2⟩
end
end Go.Proofs.YtbldanhjbnpdiaaDoor
