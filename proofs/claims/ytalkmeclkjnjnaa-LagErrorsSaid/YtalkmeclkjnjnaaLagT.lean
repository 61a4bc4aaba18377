/- Shares by weights: ref1.Split. -/
import Derived.Test.YtalkmeclkjnjnaaLagS
namespace Go.Proofs.Ytalkmeclkjnjnaa
open Go.RowKit
open SP
section
variable {w w' : World} {R : List SP}

def RvRel (l : List (Int × Int)) (Sp : SP) (R : List SP) (w : World) (v3 : Value) (wr : World) : Prop :=
  ∃ i : Nat, v3 = .int .i64 (i : Int) ∧ i ≤ l.length ∧ Own wr (Sp :: R) ∧ Calm w wr
set_option maxHeartbeats 3200000 in
set_option maxRecDepth 100000 in
theorem refValidParts_spec {Sp : SP} {l : List (Int × Int)} {a : Option Addr} {n c : Nat} (hS : PartsAt Sp a l) (hok : PtOk l) (hn : n = l.length) (o : Own w (Sp :: R)) :
    Calls Try.prog 34 #[.slice a n c] w (Ret (.bool true) (Sp :: R) w) := by
  have hl := hok.len
  have hn2 : n ≤ 32 := by omega
  have hn64 : decide (64 < (n : Int)) = false := decide_eq_false (by omega)
  have Hn := Lib.hid hn
  have HOK := Lib.hid hok
  clear hn hl hok
  go_enter Try.func34, Try.ntmps34
  go_wp2
  go_loopw [3] (fun v3 wr => RvRel l Sp R w v3 wr) (fun v _ => n - (ivOf v).toNat)
  case atStart => exact ⟨0, rfl, by omega, o, Calm.refl w⟩
  case round =>
    obtain ⟨i, rfl, hi, oR, kR⟩ := hrel
    by_cases hlt : i < n
    · obtain ⟨t, ht⟩ : ∃ t, l[i]? = some t := ⟨_, List.getElem?_eq_getElem (by have := Hn.out; omega)⟩
      have h2 := HOK.out.rng t (List.mem_of_getElem? ht)
      cases i with
      | zero =>
        obtain ⟨g, so, rfl, d0, d1⟩ := hS _ _ oR 0 _ ht
        obtain ⟨x, y⟩ := t
        dsimp only at d0 d1 h2
        clear ht
        obtain ⟨h2, h3, h4, h5⟩ := h2
        simp only [Nat.zero_mul, Nat.add_zero] at d0 d1
        have f1 : decide (x < 0) = false := decide_eq_false (by omega)
        have f2 : decide (y < 1) = false := decide_eq_false (by omega)
        have f3 : decide (2147483648 < y) = false := decide_eq_false (by omega)
        go_wp2
        go_quiet (fail)
        go_wp2
        go_roundw
        case rel => exact ⟨1, by go_num, by have := Hn.out; omega, oR.drewN _, kR.dn _⟩
        case measure => simp [ivOf]; omega
      | succ k =>
        obtain ⟨u, hu⟩ : ∃ u, l[k]? = some u := ⟨_, List.getElem?_eq_getElem (by have := Hn.out; omega)⟩
        obtain ⟨g, so, rfl, d0, d1⟩ := hS _ _ oR (k + 1) _ ht
        obtain ⟨g', so', hgg, e0, e1⟩ := hS _ _ oR k _ hu
        cases hgg
        have hlt2 : u.1 < t.1 := by
          have := List.pairwise_iff_getElem.1 HOK.out.asc k (k + 1) (List.getElem?_eq_some_iff.1 hu).1 (List.getElem?_eq_some_iff.1 ht).1 (by omega)
          rw [(List.getElem?_eq_some_iff.1 hu).2, (List.getElem?_eq_some_iff.1 ht).2] at this
          exact this
        obtain ⟨x, y⟩ := t
        obtain ⟨x', y'⟩ := u
        dsimp only at d0 d1 e0 e1 h2 hlt2
        clear ht hu
        obtain ⟨h2, h3, h4, h5⟩ := h2
        have f0 : decide (x ≤ x') = false := decide_eq_false (by omega)
        have f1 : decide (x < 0) = false := decide_eq_false (by omega)
        have f2 : decide (y < 1) = false := decide_eq_false (by omega)
        have f3 : decide (2147483648 < y) = false := decide_eq_false (by omega)
        have f4 : decide (0 < k + 1) = true := decide_eq_true (by omega)
        have f5 : decide ((0 : Int) < ((k + 1 : Nat) : Int)) = true := decide_eq_true (by omega)
        have hk : ((k + 1 : Nat) : Int) - 1 = (k : Int) := by omega
        have hk2 : (k : Int) + 1 - 1 = (k : Int) := by omega
        go_wp2
        go_quiet (fail)
        go_wp2
        go_roundw
        case rel => exact ⟨k + 2, by go_num, by have := Hn.out; omega, oR.drewN _, kR.dn _⟩
        case measure => simp [ivOf]; omega
    · go_wp2
      go_ret
      exact ⟨rfl, oR, kR⟩

set_option maxHeartbeats 3200000 in
set_option maxRecDepth 100000 in
theorem refSplit_spec {Sp : SP} {l : List (Int × Int)} {ar : Option Addr} {n c : Nat} (a : Int) (ha : ab a ≤ 36028797018963968) (hS : PartsAt Sp ar l) (hok : PtOk l) (hn : n = l.length) (o : Own w (Sp :: R)) :
    Calls Try.prog 14 #[.int .i64 a, .slice ar n c] w (ShPost a l Sp R w) := by
  have hv := refValidParts_spec (c := c) hS hok hn o
  have hl := hok.len
  have hn2 : n ≤ 32 := by omega
  by_cases h0 : l = []
  · subst h0
    have : n = 0 := hn
    subst this
    clear hn hl hn2 hok hS
    go_enter Try.func14, Try.ntmps14
    go_wp2_with fail
    refine hv.mono ?_
    rintro e1 w1 ⟨rfl, o1, k1⟩
    go_wp2
    go_ret2
    exact ⟨none, 0, rfl, o1.slc_nil, k1⟩
  · have hpos : 0 < n := by rw [hn]; exact List.length_pos_iff.2 h0
    have hn0 : ((n : Int) == 0) = false := by simp; omega
    have hrest : ∀ p ∈ l, 1 ≤ p.2 ∧ p.2 ≤ 16 := fun p hp => ⟨(hok.rng p hp).2.2.1, (hok.rng p hp).2.2.2⟩
    have hTpos : 0 < sumI (pws l) := sumI_pos (by unfold pws; simpa using h0) (pws_pos hok)
    have hTle : sumI (pws l) ≤ 16 * (l.length : Int) := by
      have := sumI_le (pws l) fun x hx => by
        obtain ⟨p, hp, rfl⟩ := List.mem_map.1 hx
        exact (hrest p hp).2
      unfold pws at this; rw [List.length_map] at this; exact this
    have hdrop : ∀ i, 0 ≤ sumI (pws (l.drop i)) := fun i => sumI_nonneg _ fun x hx => by
      obtain ⟨p, hp, rfl⟩ := List.mem_map.1 hx
      have := hrest p (List.mem_of_mem_drop hp); omega
    have HTl := Lib.hid (show sumI (pws l) ≤ 512 by omega)
    have HTp := Lib.hid hTpos
    have HN := Lib.hid hn
    have HDr := Lib.hid hdrop
    have HRest := Lib.hid hrest
    have H0 := Lib.hid h0
    have hmk := makeI_run n (by omega)
    clear hn hTpos hTle hdrop hrest hl h0
    go_enter Try.func14, Try.ntmps14
    go_wp2_with fail
    refine hv.mono ?_
    rintro e1 w1 ⟨rfl, o1, k1⟩
    clear hv
    go_wp2
    go_loopw [6, 7] (fun v6 v24 wr => SpRel1 l Sp R w v6 v24 wr) (fun _ v _ => n - (ivOf v).toNat)
    case atStart => exact ⟨0, 0, rfl, rfl, by omega, by omega, by rw [List.drop_zero]; omega, o1, k1⟩
    case round =>
      obtain ⟨i, s, rfl, rfl, hi, hs0, hs, oR, kR⟩ := hrel
      by_cases hlt : i < n
      · obtain ⟨t, ht⟩ : ∃ t, l[i]? = some t := ⟨_, List.getElem?_eq_getElem (by have := HN.out; omega)⟩
        obtain ⟨g, so, rfl, d0, d1⟩ := hS _ _ oR i _ ht
        have h2 := HRest.out t (List.mem_of_getElem? ht)
        have hs2 := hs
        rw [pws_drop ht] at hs2
        have hdn := HDr.out (i + 1)
        have hTl := HTl.out
        obtain ⟨x, y⟩ := t
        dsimp only at d0 d1 h2 hs2
        have hw : IntKind.i64.wrap (s + y) = s + y := by rw [IntKind.wrap_i64]; omega
        have hlen := HN.out
        have HS := Lib.hid hs2
        have HL := Lib.hid hlen
        clear hs2 hdn hTl hs ht hlen
        go_wp2
        go_roundw
        case rel => exact ⟨i + 1, s + y, by go_num, rfl, by have := HL.out; omega, by omega, by have := HS.out; omega, oR, ⟨kR.os, kR.tape, kR.output⟩⟩
        case measure => simp [ivOf]; omega
      · have hil : i = l.length := by have := HN.out; omega
        have hsT : s = sumI (pws l) := by
          rw [hil, List.drop_length] at hs
          have : sumI (pws ([] : List (Int × Int))) = 0 := rfl
          omega
        have HT1 := Lib.hid hsT
        have hT1 : 1 ≤ s ∧ s ≤ 512 := by have := HTl.out; have := HTp.out; omega
        clear hsT hs hil hs0
        have hMD : ∀ (x : Int) (W : World) (R' : List SP), 1 ≤ x → x ≤ 16 → Own W R' → Calls Try.prog 35 #[.int .i64 a, .int .i64 x, .int .i64 s, .int .i64 (if a < 0 then 1 else 0)] W (Ret (.tuple #[.int .i64 ((a * x).tdiv s), .int .i64 0]) R' W) :=
          fun x W R' h1 h2 o' => refMulDivI_spec a x s ha h1 h2 (by omega) (by omega) o'
        have HMD := Lib.hid hMD
        clear hMD
        by_cases hneg : a < 0
        · have f1 : decide (a < 0) = true := decide_eq_true hneg
          have hrd : (if a < 0 then (1 : Int) else 0) = 1 := if_pos hneg
          rw [hrd] at HMD
          have HA := Lib.hid ha
          have HNEG := Lib.hid hneg
          clear hneg ha hrd hT1
          go_wp2
          have oZ := oR.alloc (.cells (List.replicate n (Value.int .i64 0)).toArray 2)
          generalize hg : wr.heap.size = g at *
          have HG := Lib.hid hg
          clear hg
          go_loopw [9, 10] (fun v11 v41 wr' => SpRel2 a s l g Sp R w v11 v41 wr') (fun _ v _ => n - (ivOf v).toNat)
          case atStart => exact ⟨0, 0, rfl, by rw [Int.sub_zero], by omega, rfl, by decide, by rw [List.take_zero, Nat.sub_zero, ← HN.out]; exact oZ, ⟨kR.os, kR.tape, kR.output⟩⟩
          case round =>
            obtain ⟨j, sm, rfl, rfl, hj, hsm, hsb, oQ, kQ⟩ := hrel
            by_cases hlt2 : j < n
            · obtain ⟨t, ht⟩ : ∃ t, l[j]? = some t := ⟨_, List.getElem?_eq_getElem (by have := HN.out; omega)⟩
              obtain ⟨g2, so, rfl, d0, d1⟩ := hS _ _ (oQ.up 1) j _ ht
              have h2 := HRest.out t (List.mem_of_getElem? ht)
              have hget := truncs_get a s ht
              obtain ⟨x, y⟩ := t
              dsimp only at d0 d1 h2 hget
              obtain ⟨q, hq⟩ : ∃ q, (a * y).tdiv s = q := ⟨_, rfl⟩
              have hcall : ∀ (W : World) (R' : List SP), Own W R' → Calls Try.prog 35 #[.int .i64 a, .int .i64 y, .int .i64 s, .int .i64 1] W (Ret (.tuple #[.int .i64 q, .int .i64 0]) R' W) := fun W R' o' => by
                have := HMD.out y W R' h2.1 h2.2 o'
                rw [hq] at this; exact this
              have hy : y ≤ s := by rw [HT1.out]; exact mem_le_sumI (fun z hz => by
                obtain ⟨p, hp, rfl⟩ := List.mem_map.1 hz
                have := HRest.out p hp; omega) (List.mem_map.2 ⟨(x, y), List.mem_of_getElem? ht, rfl⟩)
              have hqa : ab q ≤ 36028797018963968 := by
                rw [← hq]
                exact Int.le_trans (trunc_abs a y s (by omega) hy (by omega)) HA.out
              have hla : (truncs a s (pws l)).length = l.length := by rw [truncs_len]; unfold pws; rw [List.length_map]
              have hA2 := HA.out
              have hj2 : (j : Int) ≤ 31 := by omega
              have hw : IntKind.i64.wrap (a - sm - q) = a - (sm + q) := by unfold ab at hsb hqa hA2; rw [IntKind.wrap_i64]; omega
              have hsb2 : ab (sm + q) ≤ ((j + 1 : Nat) : Int) * 36028797018963968 := by unfold ab at hsb hqa ⊢; omega
              rw [hq] at hget
              have HC := Lib.hid hcall
              have HB2 := Lib.hid hsb2
              have HNL := HN.out
              have c0z := zeros_at (j := j) hla (by omega)
              have hzs := zeros_set (n := l.length) hget (by omega)
              have hsm2 : sm + q = sumI ((truncs a s (pws l)).take (j + 1)) := by rw [take_next hget, sumI_snoc, ← hsm]
              have HS2 := Lib.hid hsm2
              have HZS := Lib.hid hzs
              have HZ := Lib.hid c0z
              have HNL2 := Lib.hid HNL
              clear hcall hq hy hqa hla hA2 hsb2 hsb hget c0z hzs hsm2 hsm HNL ht
              have oA := oQ
              go_wp2_with fail
              refine (HC.out _ _ oA).mono ?_
              rintro e3 w3 ⟨rfl, o3, k3⟩
              have c1 := o3.cell j HZ.out
              have hf := o3.frozen
              have hlt3 := o3.celLt
              have oS := o3.setCell j (.int .i64 q)
              rw [HZS.out] at oS
              go_wp2
              go_roundw
              case rel => exact ⟨j + 1, sm + q, by go_num, rfl, by have := HNL2.out; omega, HS2.out, HB2.out, oS, ⟨k3.os.trans kQ.os, k3.tape.trans kQ.tape, k3.output.trans kQ.output⟩⟩
              case measure => simp [ivOf]; omega
            · have hjl : j = l.length := by have := HN.out; omega
              subst hjl
              have hla : (truncs a s (pws l)).length = l.length := by rw [truncs_len]; unfold pws; rw [List.length_map]
              rw [zeros_end hla] at oQ
              rw [List.take_of_length_le (by omega)] at hsm
              obtain ⟨q0, ds, hds⟩ : ∃ q0 ds, truncs a s (pws l) = q0 :: ds := by
                cases hT : truncs a s (pws l) with
                | nil => rw [hT] at hla; have := H0.out; simp at hla; exact absurd (List.eq_nil_of_length_eq_zero hla.symm) this
                | cons q0 ds => exact ⟨_, _, rfl⟩
              rw [hds] at oQ hsm
              have c1 := oQ.cell 0
              have hf := oQ.frozen
              have hlt3 := oQ.celLt
              obtain ⟨p0, hp0⟩ : ∃ p, l[0]? = some p := ⟨_, List.getElem?_eq_getElem (by have := HN.out; omega)⟩
              have hq0 : ab q0 ≤ 36028797018963968 := by
                have h1 := truncs_get a s hp0
                rw [hds] at h1
                have h2 := HRest.out p0 (List.mem_of_getElem? hp0)
                have e : q0 = (a * p0.2).tdiv s := by simpa using h1
                rw [e]
                refine Int.le_trans (trunc_abs a p0.2 s (by omega) ?_ (by have := HT1.out; have := HTp.out; omega)) HA.out
                rw [HT1.out]; exact mem_le_sumI (fun z hz => by
                obtain ⟨p, hp, rfl⟩ := List.mem_map.1 hz
                have := HRest.out p hp; omega) (List.mem_map.2 ⟨p0, List.mem_of_getElem? hp0, rfl⟩)
              have hA2 := HA.out
              have hw : IntKind.i64.wrap (q0 + (a - sm)) = q0 + (a - sm) := by have := HN.out; unfold ab at hsb hq0 hA2; rw [IntKind.wrap_i64]; omega
              have oS := oQ.setCell 0 (.int .i64 (q0 + (a - sm)))
              have HDS := Lib.hid hds
              have HSM := Lib.hid hsm
              have HNL2 := Lib.hid HN.out
              clear hds hsm hsb hq0 hA2 hp0 hla
              go_wp2
              go_ret2
              have hne := H0.out
              have hds := HDS.out
              rw [HT1.out] at hds
              have hsm := HSM.out
              rw [hsm] at oS
              have := sh_end hds (by have := HNL2.out; omega) oS (Calm.trans kQ ⟨rfl, rfl, rfl⟩) hne
              rw [← HNL2.out, ← hsm] at this
              exact this
        · have f1 : decide (a < 0) = false := decide_eq_false hneg
          have hrd : (if a < 0 then (1 : Int) else 0) = 0 := if_neg hneg
          rw [hrd] at HMD
          have HA := Lib.hid ha
          have HNEG := Lib.hid hneg
          clear hneg ha hrd hT1
          go_wp2
          have oZ := oR.alloc (.cells (List.replicate n (Value.int .i64 0)).toArray 2)
          generalize hg : wr.heap.size = g at *
          have HG := Lib.hid hg
          clear hg
          go_loopw [9, 10] (fun v11 v41 wr' => SpRel2 a s l g Sp R w v11 v41 wr') (fun _ v _ => n - (ivOf v).toNat)
          case atStart => exact ⟨0, 0, rfl, by rw [Int.sub_zero], by omega, rfl, by decide, by rw [List.take_zero, Nat.sub_zero, ← HN.out]; exact oZ, ⟨kR.os, kR.tape, kR.output⟩⟩
          case round =>
            obtain ⟨j, sm, rfl, rfl, hj, hsm, hsb, oQ, kQ⟩ := hrel
            by_cases hlt2 : j < n
            · obtain ⟨t, ht⟩ : ∃ t, l[j]? = some t := ⟨_, List.getElem?_eq_getElem (by have := HN.out; omega)⟩
              obtain ⟨g2, so, rfl, d0, d1⟩ := hS _ _ (oQ.up 1) j _ ht
              have h2 := HRest.out t (List.mem_of_getElem? ht)
              have hget := truncs_get a s ht
              obtain ⟨x, y⟩ := t
              dsimp only at d0 d1 h2 hget
              obtain ⟨q, hq⟩ : ∃ q, (a * y).tdiv s = q := ⟨_, rfl⟩
              have hcall : ∀ (W : World) (R' : List SP), Own W R' → Calls Try.prog 35 #[.int .i64 a, .int .i64 y, .int .i64 s, .int .i64 0] W (Ret (.tuple #[.int .i64 q, .int .i64 0]) R' W) := fun W R' o' => by
                have := HMD.out y W R' h2.1 h2.2 o'
                rw [hq] at this; exact this
              have hy : y ≤ s := by rw [HT1.out]; exact mem_le_sumI (fun z hz => by
                obtain ⟨p, hp, rfl⟩ := List.mem_map.1 hz
                have := HRest.out p hp; omega) (List.mem_map.2 ⟨(x, y), List.mem_of_getElem? ht, rfl⟩)
              have hqa : ab q ≤ 36028797018963968 := by
                rw [← hq]
                exact Int.le_trans (trunc_abs a y s (by omega) hy (by omega)) HA.out
              have hla : (truncs a s (pws l)).length = l.length := by rw [truncs_len]; unfold pws; rw [List.length_map]
              have hA2 := HA.out
              have hj2 : (j : Int) ≤ 31 := by omega
              have hw : IntKind.i64.wrap (a - sm - q) = a - (sm + q) := by unfold ab at hsb hqa hA2; rw [IntKind.wrap_i64]; omega
              have hsb2 : ab (sm + q) ≤ ((j + 1 : Nat) : Int) * 36028797018963968 := by unfold ab at hsb hqa ⊢; omega
              rw [hq] at hget
              have HC := Lib.hid hcall
              have HB2 := Lib.hid hsb2
              have HNL := HN.out
              have c0z := zeros_at (j := j) hla (by omega)
              have hzs := zeros_set (n := l.length) hget (by omega)
              have hsm2 : sm + q = sumI ((truncs a s (pws l)).take (j + 1)) := by rw [take_next hget, sumI_snoc, ← hsm]
              have HS2 := Lib.hid hsm2
              have HZS := Lib.hid hzs
              have HZ := Lib.hid c0z
              have HNL2 := Lib.hid HNL
              clear hcall hq hy hqa hla hA2 hsb2 hsb hget c0z hzs hsm2 hsm HNL ht
              have oA := oQ
              go_wp2_with fail
              refine (HC.out _ _ oA).mono ?_
              rintro e3 w3 ⟨rfl, o3, k3⟩
              have c1 := o3.cell j HZ.out
              have hf := o3.frozen
              have hlt3 := o3.celLt
              have oS := o3.setCell j (.int .i64 q)
              rw [HZS.out] at oS
              go_wp2
              go_roundw
              case rel => exact ⟨j + 1, sm + q, by go_num, rfl, by have := HNL2.out; omega, HS2.out, HB2.out, oS, ⟨k3.os.trans kQ.os, k3.tape.trans kQ.tape, k3.output.trans kQ.output⟩⟩
              case measure => simp [ivOf]; omega
            · have hjl : j = l.length := by have := HN.out; omega
              subst hjl
              have hla : (truncs a s (pws l)).length = l.length := by rw [truncs_len]; unfold pws; rw [List.length_map]
              rw [zeros_end hla] at oQ
              rw [List.take_of_length_le (by omega)] at hsm
              obtain ⟨q0, ds, hds⟩ : ∃ q0 ds, truncs a s (pws l) = q0 :: ds := by
                cases hT : truncs a s (pws l) with
                | nil => rw [hT] at hla; have := H0.out; simp at hla; exact absurd (List.eq_nil_of_length_eq_zero hla.symm) this
                | cons q0 ds => exact ⟨_, _, rfl⟩
              rw [hds] at oQ hsm
              have c1 := oQ.cell 0
              have hf := oQ.frozen
              have hlt3 := oQ.celLt
              obtain ⟨p0, hp0⟩ : ∃ p, l[0]? = some p := ⟨_, List.getElem?_eq_getElem (by have := HN.out; omega)⟩
              have hq0 : ab q0 ≤ 36028797018963968 := by
                have h1 := truncs_get a s hp0
                rw [hds] at h1
                have h2 := HRest.out p0 (List.mem_of_getElem? hp0)
                have e : q0 = (a * p0.2).tdiv s := by simpa using h1
                rw [e]
                refine Int.le_trans (trunc_abs a p0.2 s (by omega) ?_ (by have := HT1.out; have := HTp.out; omega)) HA.out
                rw [HT1.out]; exact mem_le_sumI (fun z hz => by
                obtain ⟨p, hp, rfl⟩ := List.mem_map.1 hz
                have := HRest.out p hp; omega) (List.mem_map.2 ⟨p0, List.mem_of_getElem? hp0, rfl⟩)
              have hA2 := HA.out
              have hw : IntKind.i64.wrap (q0 + (a - sm)) = q0 + (a - sm) := by have := HN.out; unfold ab at hsb hq0 hA2; rw [IntKind.wrap_i64]; omega
              have oS := oQ.setCell 0 (.int .i64 (q0 + (a - sm)))
              have HDS := Lib.hid hds
              have HSM := Lib.hid hsm
              have HNL2 := Lib.hid HN.out
              clear hds hsm hsb hq0 hA2 hp0 hla
              go_wp2
              go_ret2
              have hne := H0.out
              have hds := HDS.out
              rw [HT1.out] at hds
              have hsm := HSM.out
              rw [hsm] at oS
              have := sh_end hds (by have := HNL2.out; omega) oS (Calm.trans kQ ⟨rfl, rfl, rfl⟩) hne
              rw [← HNL2.out, ← hsm] at this
              exact this
end
end Go.Proofs.Ytalkmeclkjnjnaa
