/- RecordRoundTrip: the walk. -/
import Derived.Test.YtlccalkikjfimaaDoorRdS
import Derived.Test.YtlccalkikjfimaaDoorRcG
import Derived.Test.YtlccalkikjfimaaDoorRcF
import Derived.Laws.Rows
namespace Go.Proofs.YtlccalkikjfimaaDoor
open Go.RowKit
open Go.Shelf
open SP
theorem ok_take_hit {l : List Rec} {i : Nat} {r : Rec} (hr : l[i]? = some r) (h : RecOk r) : (l.take (i + 1)).filter (fun r => decide (RecOk r)) = (l.take i).filter (fun r => decide (RecOk r)) ++ [r] := by
  rw [List.take_add_one, hr, Option.toList_some, List.filter_append]
  congr 1
  simp [h]
theorem ok_take_miss {l : List Rec} {i : Nat} {r : Rec} (hr : l[i]? = some r) (h : ¬ RecOk r) : (l.take (i + 1)).filter (fun r => decide (RecOk r)) = (l.take i).filter (fun r => decide (RecOk r)) := by
  rw [List.take_add_one, hr, Option.toList_some, List.filter_append]
  simp [h]
/-- The valid ones among the first records. -/
def okUp (l : List Rec) (i : Nat) : List Rec := (l.take i).filter fun r => decide (RecOk r)
theorem okUp_ok (l : List Rec) (i : Nat) : allOk (okUp l i) = true := by
  unfold allOk okUp
  exact List.all_eq_true.2 fun r hr => (List.mem_filter.1 hr).2
theorem okUp_len (l : List Rec) (i : Nat) : (okUp l i).length ≤ i := by
  have := List.length_filter_le (fun r => decide (RecOk r)) (l.take i)
  rw [List.length_take] at this
  unfold okUp
  omega
def OkRel (l : List Rec) (W w : World) (R : List SP) (vi vo : Value) (wr : World) : Prop :=
  ∃ (i m : Nat) (a' : Option Addr) (c' : Nat), vi = .int .i64 (i : Int) ∧ i ≤ l.length ∧ vo = .slice a' m c' ∧ m = (okUp l i).length ∧ Own wr (slc 24 6 a' m c' (flat recC (okUp l i)) :: R) ∧ Calm w wr
theorem OkRel.miss {l : List Rec} {W w wr : World} {R : List SP} {i m c' : Nat} {a' : Option Addr} {r : Rec} {x : Value} (hx : x = .int .i64 ((i + 1 : Nat) : Int)) (hi : i < l.length) (hr : l[i]? = some r) (h : ¬ RecOk r) (hm : m = (okUp l i).length)
    (o : Own wr (slc 24 6 a' m c' (flat recC (okUp l i)) :: R)) (k : Calm w wr) : OkRel l W w R x (.slice a' m c') wr :=
  ⟨i + 1, m, a', c', hx, by omega, rfl, by unfold okUp at hm ⊢; rw [ok_take_miss hr h]; exact hm, by unfold okUp at o ⊢; rw [ok_take_miss hr h]; exact o, k⟩
theorem OkRel.hit {l : List Rec} {W w wr : World} {R : List SP} {i m c' : Nat} {a' : Option Addr} {r : Rec} {x : Value} (hx : x = .int .i64 ((i + 1 : Nat) : Int)) (hi : i < l.length) (hr : l[i]? = some r) (h : RecOk r) (hm : m = (okUp l i).length)
    (o : Own wr (slc 24 6 a' (m + 1) c' (flat recC (okUp l i) ++ recC r) :: R)) (k : Calm w wr) : OkRel l W w R x (.slice a' (m + 1) c') wr := by
  refine ⟨i + 1, m + 1, a', c', hx, by omega, rfl, ?_, ?_, k⟩
  · unfold okUp at hm ⊢; rw [ok_take_hit hr h, List.length_append, ← hm]; rfl
  · unfold okUp at o ⊢
    rw [ok_take_hit hr h, flat_append, show flat recC [r] = recC r by simp [flat]]
    exact o
set_option maxHeartbeats 25600000 in
set_option maxRecDepth 100000 in
theorem recordRoundTrip_walk (a0 : Option Addr) (len0 cap0 : Nat) (z0 : List Int) (p : ByteArray) (w : World) (w0 : IsRow .i64 w a0 len0 cap0 z0) (_ : p.size ≤ maxLen) (hT : TabsR w) (hm : MaxV w) (he : ErrW w) :
    Calls Tryd.prog 6 #[.slice a0 len0 cap0, .string p] w fun e w' => e = .returned (.bool true) ∧ Below w.heap.size w w' := by
  have oW := Own.start w
  have HD := Lib.hid fun (w1 : World) (R : List SP) (s : ByteArray) (hs : s.size ≤ 100000) (o1 : Own w1 (old w :: R)) => recDecode_spec s hs hm he hT o1
  have HE := Lib.hid fun (w1 : World) (R : List SP) (Sp : SP) (l : List Rec) (a : Option Addr) (n c : Nat) (hS : RecsAt Sp a l) (hn : n = l.length) (hn2 : n ≤ 1000) (o1 : Own w1 (old w :: Sp :: R)) => recEncode_spec hS hn (c := c) hn2 hT o1
  have HA := Lib.hid fun (w1 : World) (R : List SP) (o1 : Own w1 (old w :: R)) => awake28_spec hT o1
  have HVR := Lib.hid fun (r : Rec) (w1 : World) (R1 : List SP) (o1 : Own w1 R1) => refValidRec_spec r o1
  clear hm he hT
  go_enter Tryd.func6, Tryd.ntmps6
  go_wp2_with fail
  refine (genNew_spec a0 len0 cap0 z0 (w0) oW).mono ?_
  rintro e1 v1 ⟨cb, rfl, o1, k1⟩
  go_wp2_with fail
  refine (records_spec 9 (by omega) 0 (by omega) o1).mono ?_
  rintro e2 w2 ⟨l, aM, cM, hl9, rfl, o2, k2⟩
  have hT1 : OkRel l w w [slc 24 6 aM l.length cM (flat recC l), Ch w cb (0 + 1 + 8 * 9), old w] (.int .i64 0) (.slice none 0 0) w2 := ⟨0, 0, none, 0, rfl, by omega, rfl, rfl, Own.slc_nil o2, k1.trans k2⟩
  have hSM := Lib.hid (recsAt_slc (T := 24) aM l.length cM l rfl)
  clear o1 o2 k1 k2 oW
  generalize hnl : l.length = nl at *
  have HNL := Lib.hid hnl
  clear hnl
  generalize hfl : flat recC l = fl at *
  clear hfl
  go_wp2
  go_loopw [8, 6] (fun v8 v6 wr => OkRel l w w [slc 24 6 aM nl cM fl, Ch w cb (0 + 1 + 8 * 9), old w] v8 v6 wr) (fun v _ _ => nl - viN v)
  case atStart => exact hT1
  case round =>
    clear hT1
    obtain ⟨i, m, a', c', rfl, hi, rfl, hm, oR, kR⟩ := hrel
    have hml := okUp_len l i
    rw [HNL.out] at hi
    by_cases hlt : i < nl
    · have dl : decide (i < nl) = true := decide_eq_true hlt
      obtain ⟨r, hr⟩ : ∃ r, l[i]? = some r := ⟨_, List.getElem?_eq_getElem (by rw [HNL.out]; exact hlt)⟩
      obtain ⟨g, so, hg, d0, d1, d2, d3, d4, d5⟩ := hSM.out.six (oR.up 1) hr
      subst hg
      have hm10 : m ≤ 10 := by omega
      have H1 := Lib.hid fun (h : ¬ RecOk r) (x : Value) (hx : x = .int .i64 ((i + 1 : Nat) : Int)) (w1 : World) o k => OkRel.miss (W := w) (w := w) (wr := w1) (a' := a') (c' := c') (R := [slc 24 6 (some ⟨g, so, none⟩) nl cM fl, Ch w cb (0 + 1 + 8 * 9), old w]) hx (by rw [HNL.out]; exact hlt) hr h hm o k
      have H2 := Lib.hid fun (h : RecOk r) (x : Value) (hx : x = .int .i64 ((i + 1 : Nat) : Int)) (w1 : World) (a2 : Option Addr) (c2 : Nat) o k => OkRel.hit (W := w) (w := w) (wr := w1) (a' := a2) (c' := c2) (R := [slc 24 6 (some ⟨g, so, none⟩) nl cM fl, Ch w cb (0 + 1 + 8 * 9), old w]) hx (by rw [HNL.out]; exact hlt) hr h hm o k
      have HR := Lib.hid hr
      have hvr := HVR.out r _ _ oR
      unfold recV at hvr
      clear hm hr hml
      by_cases ho : RecOk r
      · rw [decide_eq_true ho] at hvr
        have H2 := Lib.hid (H2.out ho)
        clear H1 ho
        go_wp2_with fail
        refine hvr.mono ?_
        rintro e3 w3 ⟨rfl, o3, k3⟩
        clear d0 d1 d2 d3 d4 d5
        obtain ⟨g', so', hg, d0, d1, d2, d3, d4, d5⟩ := hSM.out.six (o3.up 1) HR.out
        cases hg
        have oA := o3.alloc (.cells (recC r).toArray 24)
        have hnw := Own.news (T := 24) (vs := recC r) oA
        go_wp2_with (at_builtin; refine wpList_append_slc rfl _ _ rfl Tryd.recT rfl (oA.up 1) ⟨w3.heap.size, 0, none⟩ 1 1 (recC r) rfl rfl hnw (by intro z hz; unfold recC at hz; simp at hz; rcases hz with rfl | rfl | rfl | rfl | rfl | rfl <;> rfl) (by unfold maxLen; omega) (by omega) ?_)
        intro a4 c4 w4 o4 k4
        go_wp2
        go_roundw
        case rel => exact H2.out _ (by go_num) _ _ _ (o4.up 1).drop (kR.trans (k3.trans ⟨k4.os, k4.tape, k4.output⟩))
        case measure => simp [viN]; omega
      · rw [decide_eq_false ho] at hvr
        have H1 := Lib.hid (H1.out ho)
        clear H2 ho
        go_wp2_with fail
        refine hvr.mono ?_
        rintro e3 w3 ⟨rfl, o3, k3⟩
        go_wp2
        go_roundw
        case rel => exact H1.out _ (by go_num) _ o3 (kR.trans k3)
        case measure => simp [viN]; omega
    · have dl : decide (i < nl) = false := decide_eq_false hlt
      have hok := okUp_ok l i
      have hm10 : m ≤ 10 := by omega
      have hlen := encT_len _ hok
      rw [← hm] at hlen
      have hde := dec_enc _ hok
      have hen := encL_ok hok
      clear hok hml
      generalize okUp l i = V at *
      have hE := HE.out _ _ _ V a' m c' (recsAt_slc (T := 24) a' m c' V hm) hm (by omega) (oR.re [3, 0, 1, 2])
      rw [hen] at hE
      have hsz : (mkB (encT V)).size ≤ 100000 := by rw [mkB_size]; omega
      have hD := fun (w1 : World) (R1 : List SP) (o1 : Own w1 (old w :: R1)) => HD.out w1 R1 (mkB (encT V)) hsz o1
      rw [mkB_data] at hD
      have HDD := Lib.hid hD
      have HDE := Lib.hid hde
      have HM := Lib.hid hm
      dsimp only at hE
      clear hD hde hen hlen hsz hm
      generalize mkB (encT V) = TX at *
      go_wp2_with fail
      refine hE.mono ?_
      rintro e3 w3 ⟨rfl, o3, k3⟩
      go_wp2_with fail
      refine (HDD.out _ _ o3).mono ?_
      rintro e4 w4 ⟨y, aY, nY, cY, mY, er, rfl, hdy, hny, _, o4, k4⟩
      rw [HDE.out] at hdy
      simp only [Prod.mk.injEq] at hdy
      obtain ⟨hy1, hy2, hy3⟩ := hdy
      subst hy1
      subst hy3
      have hnm : nY = m := hny.trans HM.out.symm
      subst hnm
      have hmY : mY = nY := hy2.symm.trans hny.symm
      subst hmY
      have K4 := kR.trans (k3.trans k4)
      have hEq := equalR_spec hny (by omega) (o4.re [0, 2, 1, 3, 4])
      clear hy2 hny hE o3 k3 k4 kR oR
      go_wp2_with fail
      refine hEq.mono ?_
      rintro e5 w5 ⟨rfl, o5, k5⟩
      have K5 := K4.trans k5
      have oQ := (o5.re [2, 0, 1, 3, 4])
      clear hEq o4 o5 k5 K4
      by_cases hb : 500 < p.size
      · have db : decide (500 < p.size) = true := decide_eq_true hb
        go_wp2_with fail
        refine (HA.out _ _ oQ).mono ?_
        rintro e6 w6 ⟨rfl, o6, k6⟩
        go_wp2
        go_ret
        exact ⟨rfl, o6.below (K5.trans k6)⟩
      · have db : decide (500 < p.size) = false := decide_eq_false hb
        go_wp2_with fail
        refine (HD.out _ _ p (by omega) oQ).mono ?_
        rintro e6 w6 ⟨y, aZ, nZ, cZ, mZ, er, rfl, hdz, hnz, hnp, o6, k6⟩
        have K6 := K5.trans k6
        by_cases h0 : er = 0
        · subst h0
          obtain ⟨z1, z2, z3⟩ := enc_dec hdz
          have hpl : p.data.toList.length = p.size := (Lib.size_eq p).symm
          have hen := encL_ok z1
          rw [z2] at hen
          have hE := HE.out _ _ _ y aZ nZ cZ (recsAt_slc (T := 24) aZ nZ cZ y hnz) hnz (by omega) (o6.re [1, 0])
          rw [hen] at hE
          dsimp only at hE
          rw [mkB_self] at hE
          clear hdz hnz hnp z1 z2 z3 hen hpl o6 oQ
          go_wp2_with fail
          refine hE.mono ?_
          rintro e7 w7 ⟨rfl, o7, k7⟩
          go_wp2_with fail
          refine (HA.out _ _ o7).mono ?_
          rintro e8 w8 ⟨rfl, o8, k8⟩
          go_wp2
          go_ret
          exact ⟨by first | rfl | simp, o8.below (K6.trans (k7.trans k8))⟩
        · have hne : (er != 0) = true := bne_iff_ne.2 h0
          clear hdz hnz hnp
          go_wp2_with fail
          refine (HA.out _ _ (o6.up 1)).mono ?_
          rintro e7 w7 ⟨rfl, o7, k7⟩
          go_wp2
          go_ret
          exact ⟨rfl, o7.below (K6.trans k7)⟩
end Go.Proofs.YtlccalkikjfimaaDoor
