/- The law SfqScript: the walk. -/
import Derived.Test.YtnandakoigmknaaR12o
namespace Go.Proofs.Ytnandakoigmknaa
open Go.RowKit
open SP
section
variable {P : SP} {W w w' : World} {R : List SP} {b rb cb : Nat} {reb : Int} {O : List Tg} {S : St} {N : Nat}
theorem sfqNew_bad (r : Int) (h : r < 1 ∨ 1099511627776 < r) : Calls Try.prog 28 #[.int .i64 r] w (IsRet (.tuple #[.pointer none, .int .i64 1]) w) := by
  by_cases h1 : r < 1
  · clear h
    go_enter Try.func28, Try.ntmps28
    go_wp2
    go_ret2
    exact ⟨rfl, rfl⟩
  · have h2 : 1099511627776 < r := by omega
    clear h
    go_enter Try.func28, Try.ntmps28
    go_wp2
    go_ret2
    exact ⟨rfl, rfl⟩
theorem ref12New_bad (r : Int) (h : r < 1 ∨ 1099511627776 < r) : Calls Try.prog 39 #[.int .i64 r] w (IsRet (.tuple #[.pointer none, .int .i64 1]) w) := by
  by_cases h1 : r < 1
  · clear h
    go_enter Try.func39, Try.ntmps39
    go_wp2
    go_ret2
    exact ⟨rfl, rfl⟩
  · have h2 : 1099511627776 < r := by omega
    clear h
    go_enter Try.func39, Try.ntmps39
    go_wp2
    go_ret2
    exact ⟨rfl, rfl⟩
def newErr13 (r : Int) : Int := if r < 1 ∨ 1099511627776 < r then 1 else 0
theorem new13_prog (r : Int) (o : Own w R) : Calls Try.prog 28 #[.int .i64 r] w fun e w' => ∃ v : Value, e = .returned (.tuple #[v, .int .i64 (newErr13 r)]) ∧ Own w' R ∧ Calm w w' := by
  by_cases h : r < 1 ∨ 1099511627776 < r
  · rw [newErr13, if_pos h]
    refine (sfqNew_bad r h).mono ?_
    rintro e w' ⟨rfl, rfl⟩
    exact ⟨_, rfl, o, Calm.refl w⟩
  · rw [newErr13, if_neg h]
    refine (sfqNew_spec r (by omega) (by omega) o).mono ?_
    rintro e w' ⟨b, rfl, o1, k1⟩
    exact ⟨_, rfl, o1.drop, k1⟩
theorem new13_ref (r : Int) (o : Own w R) : Calls Try.prog 39 #[.int .i64 r] w fun e w' => ∃ v : Value, e = .returned (.tuple #[v, .int .i64 (newErr13 r)]) ∧ Own w' R ∧ Calm w w' := by
  by_cases h : r < 1 ∨ 1099511627776 < r
  · rw [newErr13, if_pos h]
    refine (ref12New_bad r h).mono ?_
    rintro e w' ⟨rfl, rfl⟩
    exact ⟨_, rfl, o, Calm.refl w⟩
  · rw [newErr13, if_neg h]
    refine (refNew12_spec (P := SP.pu True) r (by omega) (by omega) o).mono ?_
    rintro e w' ⟨b, rfl, o1, k1⟩
    exact ⟨_, rfl, o1.drop, k1⟩

def Scr13 (W : World) (cb b rb : Nat) (reb : Int) (v : Value) (wr : World) : Prop :=
  ∃ (i N : Nat) (P : SP) (S : St) (O : List Tg), v = .int .i64 (i : Int) ∧ i ≤ 40 ∧ N ≤ 3 * i ∧ RelT N S O ∧
    Own wr [SfqR b reb S, RefT P rb reb S.L O S.tm S.aw, P, Ch W cb (1 + 30 * i), old W] ∧ Calm W wr
set_option maxHeartbeats 6400000 in
set_option maxRecDepth 100000 in
theorem sfqScript_walk (a0 : Option Addr) (len0 cap0 : Nat) (z0 : List Int) (rebase : Int) (w : World) (w0 : IsRow .i64 w a0 len0 cap0 z0) (_ : (Lit.int .i64 rebase).wf = true) :
    Calls Try.prog 11 #[.slice a0 len0 cap0, .int .i64 rebase] w fun e w' => e = .returned (.bool true) ∧ Below w.heap.size w w' := by
  have oW := Own.start w
  go_enter Try.func11, Try.ntmps11
  go_wp2_with fail
  refine (genNew_spec a0 len0 cap0 z0 w0 oW).mono ?_
  rintro e1 v1 ⟨cb, rfl, o1, k1⟩
  have o2 := ((o1.alloc (.cells #[.int .i64 1, .int .i64 1099511627776, .int .i64 268435456, .int .i64 1073741824] 2)).up 2).up 2
  go_wp2_with fail
  refine (next_spec w cb 0 4 _ _ (by omega) (by omega) (by omega) o2).mono ?_
  rintro e2 v2 ⟨x, hx0, hx1, rfl, o3, k3⟩
  obtain ⟨j, rfl⟩ : ∃ j : Nat, x = (j : Int) := ⟨x.toNat, by omega⟩
  obtain ⟨reb, hreb, hr1, hr2⟩ : ∃ reb : Int, [Value.int .i64 1, .int .i64 1099511627776, .int .i64 268435456, .int .i64 1073741824][j]? = some (.int .i64 reb) ∧ 1 ≤ reb ∧ reb ≤ 1099511627776 := by
    have : j = 0 ∨ j = 1 ∨ j = 2 ∨ j = 3 := by omega
    rcases this with rfl | rfl | rfl | rfl
    · exact ⟨_, rfl, by omega, by omega⟩
    · exact ⟨_, rfl, by omega, by omega⟩
    · exact ⟨_, rfl, by omega, by omega⟩
    · exact ⟨_, rfl, by omega, by omega⟩
  have c := Own.cell (T := 2) (vs := [.int .i64 1, .int .i64 1099511627776, .int .i64 268435456, .int .i64 1073741824]) (o3.up 2) j hreb
  clear hreb
  go_wp2_with fail
  refine (sfqNew_spec reb hr1 hr2 (o3.up 2).drop).mono ?_
  rintro e4 v4 ⟨b, rfl, o4, k4⟩
  clear c
  go_wp2_with fail
  refine (refNew12_spec (P := SP.pu True) reb hr1 hr2 o4).mono ?_
  rintro e5 v5 ⟨rb, rfl, o5, k5⟩
  have hT : Scr13 w cb b rb reb (.int .i64 0) v5 := ⟨0, 0, SP.pu True, St0, [], rfl, by omega, by omega, RelT.start, (Own.pu.2 ⟨trivial, o5⟩).re [2, 1, 0, 3, 4], k1.trans (k3.al.trans (k4.trans k5))⟩
  go_wp2
  go_loopw [11] (fun v wr => Scr13 w cb b rb reb v wr) (fun v _ => 40 - (intOf v).toNat)
  case atStart => exact hT
  case round =>
    clear hT o5 k5 o4 k4 o3 k3 o2 o1 k1
    obtain ⟨i, N, P, S, O, rfl, hi, hN, hC, oR, kR⟩ := hrel
    have HC := Lib.hid hC
    clear hC
    by_cases hlt : i < 40
    · go_wp2_with fail
      refine (act13_spec HC.out (by omega) (1 + 30 * i) (by omega) oR).mono ?_
      rintro e6 w6 ⟨P1, S1, O1, hE1, hC1, rfl, o6, k6⟩
      have HC1 := Lib.hid hC1
      clear hC1
      go_wp2_with fail
      refine (same13_spec o6).mono ?_
      rintro e7 w7 ⟨rfl, o7, k7⟩
      by_cases h20 : i = 20
      · subst h20
        go_wp2_with fail
        refine (sfqCopy_spec o7).mono ?_
        rintro e8 w8 ⟨p, rfl, o8, k8⟩
        go_wp2_with fail
        refine (copyT_spec (o8.re [2, 0, 1, 3])).mono ?_
        rintro e9 w9 ⟨q, rfl, o9, k9⟩
        go_wp2_with fail
        refine (act13_spec HC1.out (by omega) (1 + 30 * 20 + 10) (by omega) (o9.re [3, 1, 4, 5, 6, 2, 0])).mono ?_
        rintro e10 w10 ⟨P2, S2, O2, hE2, hC2, rfl, o10, k10⟩
        have HC2 := Lib.hid hC2
        clear hC2
        have oq := RefT.mono hE2 (o10.re [6, 5, 2, 0, 1, 3, 4])
        go_wp2_with fail
        refine (same13_spec (oq.re [1, 0, 2])).mono ?_
        rintro e11 w11 ⟨rfl, o11, k11⟩
        go_wp2_with fail
        refine (act13_spec HC1.out (by omega) (1 + 30 * 20 + 20) (by omega) (o11.re [0, 1, 2, 5, 6, 3, 4])).mono ?_
        rintro e12 w12 ⟨P3, S3, O3, hE3, hC3, rfl, o12, k12⟩
        clear hC3
        have ob := RefT.mono hE3 (o12.re [6, 5, 2, 3, 4, 0, 1])
        go_wp2_with fail
        refine (same13_spec (ob.re [1, 0, 2])).mono ?_
        rintro e13 w13 ⟨rfl, o13, k13⟩
        go_wp2
        go_roundw
        case rel => exact ⟨21, N + 2, P3, S2, O2, by go_num, by omega, by omega, HC2.out, o13.re [5, 6, 0, 1, 2, 3, 4] 2, kR.trans (k6.trans (k7.trans (k8.trans (k9.trans (k10.trans (k11.trans (k12.trans k13)))))))⟩
        case measure => simp [intOf]
      · have h20b : ((i : Int) == 20) = false := by rw [beq_eq_false_iff_ne]; omega
        go_wp2
        go_roundw
        case rel => exact ⟨i + 1, N + 1, P1, S1, O1, by go_num, by omega, by omega, HC1.out, (Ch.upto (M := 1 + 30 * (i + 1)) (o7.re [3])).re [1, 2, 3, 0, 4], kR.trans (k6.trans k7)⟩
        case measure => simp [intOf]; omega
    · go_wp2_with fail
      refine (new13_prog rebase oR).mono ?_
      rintro e6 w6 ⟨u1, rfl, o6, k6⟩
      go_wp2_with fail
      refine (new13_ref rebase o6).mono ?_
      rintro e7 w7 ⟨u2, rfl, o7, k7⟩
      generalize newErr13 rebase = ec at o7 ⊢
      go_wp2_with fail
      refine (awake13_spec o7).mono ?_
      rintro e8 w8 ⟨rfl, o8, k8⟩
      go_wp2
      go_ret
      exact ⟨by simp, (o8.up 4).below (kR.trans (k6.trans (k7.trans k8)))⟩
end
end Go.Proofs.Ytnandakoigmknaa
