/- Records: Decimal, Valid, word; numerals by the library. -/
import Derived.Test.YtlccalkikjfimaaGreatDoorRcP
import Derived.Test.YtlccalkikjfimaaGreatDoorBt
import Derived.Test.YtlccalkikjfimaaGreatDoorBel
import Derived.Test.YtlccalkikjfimaaGreatDoorApp
import Derived.Test.YtlccalkikjfimaaGreatDoorShelfR
import Derived.Deep.RegionLaw
namespace Go.Proofs.YtlccalkikjfimaaGreatDoor
open Go.RowKit
open Go.Shelf
open SP
section
variable {W w w' : World} {R : List SP}
def digT : ByteArray := ⟨#[48, 49, 50, 51, 52, 53, 54, 55, 56, 57]⟩
theorem dig_fin : ∀ i : Fin 10, digT.extract i.val (i.val + 1) = mkB (dig i.val) := by decide +kernel
theorem dig_at {i : Nat} (h : i < 10) : digT.extract i (i + 1) = mkB (dig i) := dig_fin ⟨i, h⟩
def DecRel (n0 : Nat) (w : World) (v0 v3 : Value) (wr : World) : Prop :=
  ∃ (n : Nat) (s : List UInt8), v0 = .int .i64 (n : Int) ∧ v3 = .string (mkB s) ∧ n ≤ n0 ∧ Lib.decDigits n0 = Lib.decDigits n ++ s ∧ wr = w
def natOf : Value → Nat
  | .int _ n => n.toNat
  | _ => 0
set_option maxHeartbeats 1600000 in
set_option maxRecDepth 100000 in
theorem decimalN_spec (n0 : Nat) (h : n0 ≤ 9223372036854775807) : Calls Tryz.prog 20 #[.int .i64 (n0 : Int)] w (IsRet (.string (mkB (Lib.decDigits n0))) w) := by
  have hT : DecRel n0 w (.int .i64 (n0 : Int)) (.string ⟨#[]⟩) w := ⟨n0, [], rfl, rfl, Nat.le_refl _, by rw [List.append_nil], rfl⟩
  go_enter Tryz.func20, Tryz.ntmps20
  go_wp2
  go_loopw [0, 3] (fun v0 v3 wr => DecRel n0 w v0 v3 wr) (fun v _ _ => natOf v)
  case atStart => exact hT
  case round =>
    clear hT
    obtain ⟨n, s, rfl, rfl, hn, he, rfl⟩ := hrel
    have hsz : (mkB s).size ≤ 100 := by
      have h1 := congrArg List.length he
      rw [List.length_append] at h1
      have h2 := dec_len (u := n0) (by omega)
      rw [mkB_size]; omega
    have HE := Lib.hid he
    clear he
    by_cases h9 : 9 < n
    · have d := dig_at (i := n % 10) (by omega)
      have e1 : digT.extract (n % 10) (n % 10 + 1) ++ mkB s = mkB (dig (n % 10) ++ s) := by rw [d, mkB_append]
      have E1 := Lib.hid e1
      have hst := dec_step h9 s
      have HST := Lib.hid hst
      clear d e1 hst
      go_wp2
      go_roundw
      case rel => exact ⟨n / 10, dig (n % 10) ++ s, by simp, congrArg Value.string E1.out, by omega, HE.out.trans HST.out, rfl⟩
      case measure => simp [natOf]; omega
    · have d := dig_at (i := n) (by omega)
      have e1 : digT.extract n (n + 1) ++ mkB s = mkB (Lib.decDigits n0) := by rw [d, mkB_append, HE.out, ← dec_last h9]
      have E1 := Lib.hid e1
      have hs10 : n < 10 := by omega
      clear d e1
      go_wp2
      go_ret
      exact ⟨congrArg (fun b => Ending.returned (Value.string b)) E1.out, rfl⟩
set_option maxHeartbeats 1600000 in
theorem decimal_spec (n : Int) (h0 : -9223372036854775807 ≤ n) (h1 : n ≤ 9223372036854775807) : Calls Tryz.prog 20 #[.int .i64 n] w (IsRet (.string (mkB (Lib.itoa n))) w) := by
  by_cases hn : n < 0
  · have hc := decimalN_spec (w := w) (-n).toNat (by omega)
    rw [show (((-n).toNat : Nat) : Int) = -n from by omega] at hc
    rw [itoa_neg hn, itoa_nonneg (by omega)]
    have hw : IntKind.i64.wrap (-n) = -n := by rw [IntKind.wrap_i64]; omega
    have hsz : (mkB (Lib.decDigits (-n).toNat)).size ≤ 100 := by rw [mkB_size]; have := dec_len (u := (-n).toNat) (by omega); omega
    have e1 : mkB [45] ++ mkB (Lib.decDigits (-n).toNat) = mkB (45 :: Lib.decDigits (-n).toNat) := mkB_append _ _
    have E1 := Lib.hid e1
    clear e1
    go_enter Tryz.func20, Tryz.ntmps20
    go_wp2_with fail
    refine hc.mono ?_
    rintro e1 w1 ⟨rfl, rfl⟩
    go_wp2
    go_ret
    exact ⟨congrArg (fun b => Ending.returned (Value.string b)) E1.out, rfl⟩
  · have hc := decimalN_spec (w := w) n.toNat (by omega)
    rw [show ((n.toNat : Nat) : Int) = n from by omega] at hc
    rw [itoa_nonneg (by omega)]
    exact hc

/-- What a record reads of the program's variables. -/
def wordsV : List Value := [.string ⟨#[]⟩, .string ⟨#[97, 99, 99, 101, 112, 116]⟩, .string ⟨#[100, 114, 111, 112]⟩, .string ⟨#[115, 101, 110, 100]⟩, .string ⟨#[100, 101, 108, 105, 118, 101, 114]⟩, .string ⟨#[99, 104, 111, 111, 115, 101]⟩, .string ⟨#[114, 101, 98, 97, 115, 101]⟩, .string ⟨#[108, 101, 97, 118, 101]⟩, .string ⟨#[106, 111, 105, 110]⟩, .string ⟨#[119, 101, 105, 103, 104, 116]⟩, .string ⟨#[109, 111, 100, 101]⟩]
structure TabsR (w : World) : Prop where
  pow : Lib.TabIs Tryz.prog w "internal/strconv.uint64pow10" .u64 Lib.pow10Tab
  words : w.var? Tryz.prog "airshare/record.words" = some wordsV.toArray
theorem Own.tabsR (hT : TabsR W) (o : Own w (old W :: R)) : TabsR w := by
  obtain ⟨g1, h1⟩ := Option.isSome_iff_exists.1 (show (Tryz.prog.globalNamed "internal/strconv.uint64pow10").isSome = true by kernel_rfl)
  obtain ⟨g2, h2⟩ := Option.isSome_iff_exists.1 (show (Tryz.prog.globalNamed "airshare/record.words").isSome = true by kernel_rfl)
  exact ⟨Own.var h1 hT.pow o, Own.var h2 hT.words o⟩
theorem itoa_spec (n : Int) (h0 : -9223372036854775808 ≤ n) (h1 : n ≤ 9223372036854775807) (hT : TabsR W) (o : Own w (old W :: R)) :
    Calls Tryz.prog 30 #[.int .i64 n] w (Ret (.string (mkB (Lib.itoa n))) (old W :: R) w) := by
  refine (Any.strconv_Itoa Tryz.itoa n h0 h1 w (Own.tabsR hT o).pow).mono ?_
  rintro e w' ⟨rfl, k, os, rfl⟩
  have hb := below_grow w k os
  exact ⟨rfl, Own.keepBelow o hb, Calm.ofBelow hb⟩
theorem fmtI_spec (n : Int) (h0 : -9223372036854775808 ≤ n) (h1 : n ≤ 9223372036854775807) (hT : TabsR W) (o : Own w (old W :: R)) :
    Calls Tryz.prog 31 #[.int .i64 n, .int .i64 10] w (Ret (.string (mkB (Lib.itoa n))) (old W :: R) w) := by
  refine (Any.strconv_FormatInt_10 Tryz.fmtI n h0 h1 w (Own.tabsR hT o).pow).mono ?_
  rintro e w' ⟨rfl, k, os, rfl⟩
  have hb := below_grow w k os
  exact ⟨rfl, Own.keepBelow o hb, Calm.ofBelow hb⟩
end
end Go.Proofs.YtlccalkikjfimaaGreatDoor
