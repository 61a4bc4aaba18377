/- Records: the program's Parse, lines of six words. -/
import Derived.Test.YtlccalkikjfimaaGreatDoorRdD
import Derived.Test.YtlccalkikjfimaaGreatDoorDrawP
namespace Go.Proofs.YtlccalkikjfimaaGreatDoor
open Go.RowKit
open Go.Shelf
open SP
theorem Tryz.elemI64 : ElemT Tryz.prog 50 2 1 8 := ElemT.mk' Tryz.underlying50 (z := .int .i64 0) (by kernel_rfl) (by kernel_rfl) (by omega)
def fitN (p : List UInt8) : Bool := decide (-9223372036854775808 ≤ nlV p ∧ nlV p ≤ 9223372036854775807)
def numsL (xs : List Int) : List Value := xs.map fun x => Value.int .i64 x
theorem form_no {a k b c d e p : List UInt8} {j : Nat} (h : ([a, b, c, d, e] : List (List UInt8))[j]? = some p) (hp : nlOK p = false) : formOK a k b c d e = false := by
  unfold formOK
  match j, h with
  | 0, h => cases h; rw [hp, Bool.false_and, Bool.and_false]
  | 1, h => cases h; rw [hp, Bool.false_and, Bool.and_false, Bool.and_false]
  | 2, h => cases h; rw [hp]; simp
  | 3, h => cases h; rw [hp]; simp
  | 4, h => cases h; rw [hp]; simp
theorem form_yes {a k b c d e : List UInt8} (hk : kindOf k ≠ 0) (h : ∀ j p, j < 5 → ([a, b, c, d, e] : List (List UInt8))[j]? = some p → nlOK p = true) : formOK a k b c d e = true := by
  unfold formOK
  rw [decide_eq_true hk, h 0 a (by omega) rfl, h 1 b (by omega) rfl, h 2 c (by omega) rfl, h 3 d (by omega) rfl, h 4 e (by omega) rfl]
  rfl
theorem fit_of_ok {p : List UInt8} (h : -4611686018427387904 ≤ nlV p ∧ nlV p ≤ 4611686018427387904) : fitN p = true := decide_eq_true (by omega)
theorem fits_of_ok {a k b c d e : List UInt8} (h : RecOk (recOf a k b c d e)) : [a, b, c, d, e].all fitN = true := by
  have h1 := h.slot
  have h2 := h.flow
  have h3 := h.packet
  have h4 := h.why
  have h5 := h.value
  have e1 : (recOf a k b c d e).slot = nlV a := rfl
  have e2 : (recOf a k b c d e).flow = nlV b := rfl
  have e3 : (recOf a k b c d e).packet = nlV c := rfl
  have e4 : (recOf a k b c d e).why = nlV d := rfl
  have e5 : (recOf a k b c d e).value = nlV e := rfl
  simp only [List.all_cons, List.all_nil, Bool.and_true, Bool.and_eq_true]
  exact ⟨fit_of_ok (by omega), fit_of_ok (by omega), fit_of_ok (by omega), fit_of_ok (by omega), fit_of_ok (by omega)⟩
section
variable {W w w' : World} {R : List SP}
def PsRel (L : List (List UInt8)) (W w : World) (R : List SP) (b g cp : Nat) (vi vn vf : Value) (wr : World) : Prop :=
  ∃ (i : Nat) (xs : List Int) (a' : Option Addr) (c' : Nat), vi = .int .i64 (i : Int) ∧ i ≤ 5 ∧ vn = .slice a' i c' ∧ xs.length = i ∧
    (∀ j p, j < i → L[j]? = some p → nlOK p = true ∧ (fitN p = true → xs[j]? = some (nlV p))) ∧ vf = .bool ((L.take i).all fitN) ∧
    Own wr (slc 2 1 a' i c' (numsL xs) :: slc 9 1 (some ⟨g, 0, none⟩) 5 cp (strs L) :: cel b 39 (recC rec0) :: old W :: R) ∧ Calm w wr
theorem PsRel.next {L : List (List UInt8)} {b g cp i c' : Nat} {xs : List Int} {x : Int} {a' : Option Addr} {p : List UInt8} {wr : World} {vi : Value} {z : Bool} (hvi : vi = .int .i64 ((i + 1 : Nat) : Int)) (hi : i + 1 ≤ 5) (hx : xs.length = i)
    (hp : L[i]? = some p) (hok : nlOK p = true) (hall : ∀ j p, j < i → L[j]? = some p → nlOK p = true ∧ (fitN p = true → xs[j]? = some (nlV p))) (hxx : fitN p = true → x = nlV p) (hz : z = ((L.take i).all fitN && fitN p))
    (o : Own wr (slc 2 1 a' (i + 1) c' (numsL xs ++ [.int .i64 x]) :: slc 9 1 (some ⟨g, 0, none⟩) 5 cp (strs L) :: cel b 39 (recC rec0) :: old W :: R)) (k : Calm w wr) :
    PsRel L W w R b g cp vi (.slice a' (i + 1) c') (.bool z) wr := by
  refine ⟨i + 1, xs ++ [x], a', c', hvi, hi, rfl, by rw [List.length_append, hx]; rfl, ?_, ?_, ?_, k⟩
  · intro j q hj hq
    by_cases hji : j < i
    · obtain ⟨h1, h2⟩ := hall j q hji hq
      refine ⟨h1, fun hf => ?_⟩
      rw [List.getElem?_append_left (by omega)]
      exact h2 hf
    · have : j = i := by omega
      subst this
      rw [hp] at hq
      cases hq
      refine ⟨hok, fun hf => ?_⟩
      rw [List.getElem?_append_right (by omega), hx, Nat.sub_self, hxx hf]
      rfl
  · rw [hz, List.take_add_one, hp, Option.toList_some, List.all_append]
    simp
  · have : numsL (xs ++ [x]) = numsL xs ++ [.int .i64 x] := by unfold numsL; rw [List.map_append]; rfl
    rw [this]
    exact o
theorem nums_cell {T : TypeId} {g n c : Nat} {xs : List Int} (o : Own w (slc T 1 (some ⟨g, 0, none⟩) n c (numsL xs) :: R)) {j : Nat} {x : Int} (h : xs[j]? = some x) : w.cell? ⟨g, j, none⟩ = some (.int .i64 x) := by
  have hl := (o.slc_len).1
  have hj := (List.getElem?_eq_some_iff.1 h).1
  have hl2 : (numsL xs).length = xs.length := List.length_map _
  obtain ⟨g', hg, hc, _⟩ := o.slc_cell (by omega)
  cases hg
  refine hc j _ ?_
  unfold numsL
  rw [List.getElem?_map, h]; rfl
theorem five_of {xs : List Int} (h : xs.length = 5) : ∃ a b c d e, xs = [a, b, c, d, e] := by
  match xs, h with
  | [a, b, c, d, e], _ => exact ⟨a, b, c, d, e, rfl⟩
set_option maxHeartbeats 12800000 in
set_option maxRecDepth 100000 in
theorem recParse_main (s : ByteArray) (hs : s.size ≤ 1000000) (hm : MaxV W) (he : ErrW W) (hT : TabsR W) (o : Own w (old W :: R)) (a k b c d e : List UInt8) (hL : spl 32 s.data.toList = [a, k, b, c, d, e]) (h0 : kindOf k ≠ 0) :
    Calls Tryz.prog 26 #[.string s] w (Ret (prL (parseL s.data.toList)) (old W :: R) w) := by
  have o1 := o.alloc (.cells (recC rec0).toArray 39)
  have hS := split6_spec hL (by omega) hm o1.swap _ o1
  have hP := parseL_words hL
  have hl : s.data.toList.length = s.size := (Lib.size_eq s).symm
  have hsz := spl_len 32 s.data.toList
  rw [hL] at hsz
  have HSZ := Lib.hid fun (j : Nat) (p : List UInt8) (h : ([a, b, c, d, e] : List (List UInt8))[j]? = some p) => show p.length ≤ 1000000 by
    have hm := List.mem_of_getElem? h
    have := hsz p (by simp only [List.mem_cons] at hm ⊢; rcases hm with h | h | h | h | h | h <;> simp [h])
    omega
  have HNO := Lib.hid fun (j : Nat) (p : List UInt8) (h : ([a, b, c, d, e] : List (List UInt8))[j]? = some p) (hp : nlOK p = false) => (show parseL s.data.toList = (rec0, 8) by rw [hP, form_no h hp]; rfl)
  have HYES := Lib.hid fun (h : ∀ j p, j < 5 → ([a, b, c, d, e] : List (List UInt8))[j]? = some p → nlOK p = true) => (show parseL s.data.toList = if RecOk (recOf a k b c d e) then (recOf a k b c d e, 0) else (rec0, 1) by rw [hP, form_yes h0 h]; rfl)
  have hI := Lib.hid fun (w1 : World) (R1 : List SP) (o1 : Own w1 (old W :: R1)) => index_spec k hT o1
  have HE := Lib.hid he
  have hz : (recC rec0).length = 6 := rfl
  have hk0 : 0 < kindOf k := by omega
  have hk10 := (word_kind h0).2
  have HR := Lib.hid (show recOf a k b c d e = ⟨nlV a, (kindOf k : Nat), nlV b, nlV c, nlV d, nlV e⟩ from rfl)
  clear hL h0 hP hsz hl he hm hT
  generalize hK : kindOf k = K at *
  go_enter Tryz.func26, Tryz.ntmps26
  go_wp2_with fail
  refine hS.mono ?_
  rintro e1 w1 ⟨g, cp, rfl, o2, k2⟩
  obtain ⟨g', hg, hcell, hfr, hblt⟩ := o2.slc_cell (by decide)
  cases hg
  have s1 := hcell 1 (.string (mkB k)) rfl
  clear hcell hfr hS o1
  generalize mkB k = KB at *
  have kA := k2.al
  generalize w.heap.size = bx at *
  go_wp2
  refine wp_region_tail 4 (by kernel_rfl) (by kernel_rfl) ?_
  simp only [List.take_succ_cons, List.take_zero, List.drop_succ_cons, List.drop_zero]
  repeat still_step
  refine wpStill_nil ?_
  go_wp2_with fail
  refine (hI.out _ _ (o2.up 2).drew).mono ?_
  rintro e2 w2 ⟨rfl, rfl⟩
  have hdel := delete_spec o2.drew
  clear s1
  go_wp2_with fail
  refine hdel.mono ?_
  rintro e3 w3 ⟨rfl, o3, k3⟩
  have hT1 : PsRel [a, b, c, d, e] W w R bx g cp (.int .i64 0) (.slice none 0 0) (.bool true) w3 := ⟨0, [], none, 0, rfl, by omega, rfl, rfl, fun j p h => by omega, rfl, Own.slc_nil o3, kA.trans ⟨k3.os, k3.tape, k3.output⟩⟩
  clear o2 o3 k2 k3 kA hdel
  go_wp2
  go_loopw [31, 6, 7] (fun vi vn vf wr => PsRel [a, b, c, d, e] W w R bx g cp vi vn vf wr) (fun v _ _ _ => 5 - viN v)
  case atStart => exact hT1
  case round =>
    clear hT1
    obtain ⟨i, xs, a', c', rfl, hi, rfl, hxl, hall, rfl, oR, kR⟩ := hrel
    by_cases hlt : i < 5
    · have dl : decide (i < 5) = true := decide_eq_true hlt
      obtain ⟨p, hp⟩ : ∃ p, ([a, b, c, d, e] : List (List UInt8))[i]? = some p := ⟨_, List.getElem?_eq_getElem (by simpa using hlt)⟩
      obtain ⟨g', hg, hcell, hfr, hblt⟩ := (oR.up 1).slc_cell (by decide)
      cases hg
      have s1 := hcell i (.string (mkB p)) (strs_get hp)
      have hpl := HSZ.out i p hp
      have hN := numeral_spec (mkB p) (by rw [mkB_size]; exact hpl) oR
      have hPI := fun (h : nlOK p = true) (w1 : World) (R1 R2 : List SP) (oo : Own w1 (old W :: R1)) (o1 : Own w1 R2) => (show Calls Tryz.prog 38 #[.string (mkB p), .int .i64 10, .int .i64 64] w1 (PiPost p R2 w1) from parseInt_spec (mkB p) (by rw [mkB_size]; exact hpl) h HE.out oo o1)
      rw [mkB_data] at hN
      have HNX := Lib.hid fun (hok : nlOK p = true) (x : Int) (hxx : fitN p = true → x = nlV p) (z : Bool) (hz : z = (([a, b, c, d, e].take i).all fitN && fitN p)) (a2 : Option Addr) (c2 : Nat) (w2 : World) (vi : Value) (hvi : vi = .int .i64 ((i + 1 : Nat) : Int)) o k =>
        PsRel.next (W := W) (w := w) (R := R) (b := bx) (g := g) (cp := cp) (a' := a2) (c' := c2) (wr := w2) hvi (show i + 1 ≤ 5 by omega) hxl hp hok hall hxx hz o k
      have HB := Lib.hid (HNO.out i p hp)
      have HPI := Lib.hid hPI
      clear hall hp hcell hpl hPI hxl
      generalize ([a, b, c, d, e].take i).all fitN = z at *
      generalize strs [a, b, c, d, e] = SL at *
      generalize mkB p = PB at *
      go_wp2_with fail
      refine hN.mono ?_
      rintro e4 w4 ⟨rfl, o4, k4⟩
      have K4 := kR.trans k4
      clear k4 hN s1
      cases hok : nlOK p with
      | false =>
        have HV := Lib.hid (HB.out hok)
        have o5 := o4.up 2
        have r0 := Own.cell (T := 39) o5 0
        have r1 := Own.cell (T := 39) o5 1
        have r2 := Own.cell (T := 39) o5 2
        have r3 := Own.cell (T := 39) o5 3
        have r4 := Own.cell (T := 39) o5 4
        have r5 := Own.cell (T := 39) o5 5
        have rf := Own.frozen (T := 39) o5
        have rl := Own.celLt (T := 39) o5
        go_wp2
        have oZ := own_zero6 hz o5
        refine bodyPost_ret (v := prL (rec0, 8)) ?_ rfl ?_
        · refine res_rec (b := bx) (r := rec0) (e := 8) Tryz.results26 ?_ ?_ oZ rfl
          · rfl
          · rfl
        · exact ⟨by rw [HV.out], oZ.drop.drop.drop, calm_zero6 K4⟩
      | true =>
        have hPI := HPI.out hok
        have HNX := Lib.hid (HNX.out hok)
        clear HPI HB hok
        go_wp2_with fail
        refine (hPI _ _ _ (o4.up 3) o4).mono ?_
        rintro e5 w5 ⟨x, ev, rfl, hx, o5, k5⟩
        have K5 := K4.trans k5
        clear hPI o4 k5 K4
        rcases hx with ⟨rfl, rfl, hr1⟩ | ⟨⟨t, q, rfl⟩, hr1⟩
        · have hf : fitN p = true := decide_eq_true hr1
          have oA := (o5.alloc (.cells #[.int .i64 (nlV p)] 2)).up 1
          clear hr1
          generalize nlV p = x at *
          cases z
          · go_wp2_with (at_builtin; refine wpList_append_slc rfl _ _ rfl Tryz.elemI64 rfl oA ⟨w5.heap.size, 0, none⟩ 1 1 [.int .i64 x] rfl rfl ?c1 ?c2 ?c3 ?c4 ?c5)
            case c1 => exact Own.news (T := 2) (o5.alloc _)
            case c2 => intro u hu; simp at hu; rcases hu with rfl; rfl
            case c3 => unfold maxLen; omega
            case c4 => omega
            case c5 =>
              intro a4 c4 w6 o6 k6
              go_wp2
              go_roundw
              case rel => exact HNX.out x (fun _ => rfl) false (by first | rfl | (rw [hf]; rfl) | (rw [hf]; simp)) _ _ _ _ (by go_num) ((o6.up 1).drop) (K5.trans k6.al)
              case measure => simp [viN]; omega
          · go_wp2_with (at_builtin; refine wpList_append_slc rfl _ _ rfl Tryz.elemI64 rfl oA ⟨w5.heap.size, 0, none⟩ 1 1 [.int .i64 x] rfl rfl ?c1 ?c2 ?c3 ?c4 ?c5)
            case c1 => exact Own.news (T := 2) (o5.alloc _)
            case c2 => intro u hu; simp at hu; rcases hu with rfl; rfl
            case c3 => unfold maxLen; omega
            case c4 => omega
            case c5 =>
              intro a4 c4 w6 o6 k6
              go_wp2
              go_roundw
              case rel => exact HNX.out x (fun _ => rfl) true (by first | rfl | (rw [hf]; rfl) | (rw [hf]; simp)) _ _ _ _ (by go_num) ((o6.up 1).drop) (K5.trans k6.al)
              case measure => simp [viN]; omega
        · have hf : fitN p = false := decide_eq_false hr1
          have oA := (o5.alloc (.cells #[.int .i64 x] 2)).up 1
          clear hr1
          cases z
          · go_wp2_with (at_builtin; refine wpList_append_slc rfl _ _ rfl Tryz.elemI64 rfl oA ⟨w5.heap.size, 0, none⟩ 1 1 [.int .i64 x] rfl rfl ?c1 ?c2 ?c3 ?c4 ?c5)
            case c1 => exact Own.news (T := 2) (o5.alloc _)
            case c2 => intro u hu; simp at hu; rcases hu with rfl; rfl
            case c3 => unfold maxLen; omega
            case c4 => omega
            case c5 =>
              intro a4 c4 w6 o6 k6
              go_wp2
              go_roundw
              case rel => exact HNX.out x (fun h => by rw [hf] at h; cases h) false (by first | rfl | (rw [hf]; rfl) | (rw [hf]; simp)) _ _ _ _ (by go_num) ((o6.up 1).drop) (K5.trans k6.al)
              case measure => simp [viN]; omega
          · go_wp2_with (at_builtin; refine wpList_append_slc rfl _ _ rfl Tryz.elemI64 rfl oA ⟨w5.heap.size, 0, none⟩ 1 1 [.int .i64 x] rfl rfl ?c1 ?c2 ?c3 ?c4 ?c5)
            case c1 => exact Own.news (T := 2) (o5.alloc _)
            case c2 => intro u hu; simp at hu; rcases hu with rfl; rfl
            case c3 => unfold maxLen; omega
            case c4 => omega
            case c5 =>
              intro a4 c4 w6 o6 k6
              go_wp2
              go_roundw
              case rel => exact HNX.out x (fun h => by rw [hf] at h; cases h) false (by first | rfl | (rw [hf]; rfl) | (rw [hf]; simp)) _ _ _ _ (by go_num) ((o6.up 1).drop) (K5.trans k6.al)
              case measure => simp [viN]; omega
    · have hi5 : i = 5 := by omega
      subst hi5
      obtain ⟨x0, x1, x2, x3, x4, rfl⟩ := five_of hxl
      have HV := Lib.hid (HYES.out fun j p hj hp => (hall j p hj hp).1)
      obtain ⟨g2, rfl, hcell, hfr, hblt⟩ := oR.slc_cell (by decide)
      have hzf : ([a, b, c, d, e].take 5).all fitN = [a, b, c, d, e].all fitN := rfl
      rw [hzf]
      clear hcell hzf
      generalize hzz : [a, b, c, d, e].all fitN = z at *
      generalize hSL : strs [a, b, c, d, e] = SL at *
      clear hSL
      have HZZ := Lib.hid hzz
      have HALL := Lib.hid hall
      clear hzz hall HYES
      go_wp2
--R18
      refine wp_region_draws (fun L v wc => Own wc (Pb (L 17) (L 18) (v 17) 39 [.int .i64 0, .int .i64 0, .int .i64 0, .int .i64 0, .int .i64 0, .int .i64 0] [.int .i64 x0, .int .i64 (K : Int), .int .i64 x1, .int .i64 x2, .int .i64 x3, .int .i64 x4] :: slc 2 1 (some ⟨g2, 0, none⟩) 5 c' (numsL [x0, x1, x2, x3, x4]) :: slc 9 1 (some ⟨g, 0, none⟩) 5 cp SL :: cel bx 39 (recC rec0) :: old W :: R) ∧ Calm w wc ∧ OVals (fun i => ([some (.slice (some ⟨g2, 0, none⟩) 5 c'), some (.pointer (some ⟨g2, 0, none⟩)), some (.int .i64 x0), some (.int .i64 (K : Int)), some (.slice (some ⟨g2, 0, none⟩) 5 c'), some (.pointer (some ⟨g2, 1, none⟩)), some (.int .i64 x1), some (.slice (some ⟨g2, 0, none⟩) 5 c'), some (.pointer (some ⟨g2, 2, none⟩)), some (.int .i64 x2), some (.slice (some ⟨g2, 0, none⟩) 5 c'), some (.pointer (some ⟨g2, 3, none⟩)), some (.int .i64 x3), some (.slice (some ⟨g2, 0, none⟩) 5 c'), some (.pointer (some ⟨g2, 4, none⟩)), some (.int .i64 x4), some (.agg #[.int .i64 x0, .int .i64 (K : Int), .int .i64 x1, .int .i64 x2, .int .i64 x3, .int .i64 x4]), none, none] : List (Option Value)).getD i none) L v) (by kernel_rfl) (by kernel_rfl) (by kernel_rfl) ?h0 ?step ?fin
      case h0 => exact ⟨Pb.no oR.drew, ⟨kR.os, kR.tape, kR.output⟩, OVals.no⟩
      case step =>
        refine ⟨DrawStep.mk rfl ?_, DrawStep.mk rfl ?_, DrawStep.mk rfl ?_, DrawStep.mk rfl ?_, DrawStep.mk rfl ?_, DrawStep.mk rfl ?_, DrawStep.mk rfl ?_, DrawStep.mk rfl ?_, DrawStep.mk rfl ?_, DrawStep.mk rfl ?_, DrawStep.mk rfl ?_, DrawStep.mk rfl ?_, DrawStep.mk rfl ?_, DrawStep.mk rfl ?_, DrawStep.mk rfl ?_, DrawStep.mk rfl ?_, DrawStep.mk rfl ?_, DrawStep.mk rfl ?_, DrawStep.mk rfl ?_, trivial⟩
        all_goals intro L v actZ wc hL hd hA hI K' hK
        all_goals obtain ⟨oD, kD, hv⟩ := hI
        all_goals simp [Region.binds] at hd
        all_goals have HV := Lib.hid hv
        all_goals clear hv
        · have c6_ := hA.base 6 (by rfl)
          simp only [List.getElem?_toArray, List.getElem?_cons_zero, List.getElem?_cons_succ, Option.getD_some] at c6_
          go_simp
          exact hK.out (.slice (some ⟨g2, 0, none⟩) 5 c') _ ⟨oD, kD, HV.out.put 0 (fun _ h => some_eq h)⟩
        · have h0_ : L 0 = true := by simp [hd]
          have c54_ : actZ.tmps[54]?.getD undef = .slice (some ⟨g2, 0, none⟩) 5 c' := (hA.get 0 h0_).trans (HV.out 0 _ rfl h0_)
          go_simp
          exact hK.out (.pointer (some ⟨g2, 0, none⟩)) _ ⟨oD, kD, HV.out.put 1 (fun _ h => some_eq h)⟩
        · have h1_ : L 1 = true := by simp [hd]
          have c55_ : actZ.tmps[55]?.getD undef = .pointer (some ⟨g2, 0, none⟩) := (hA.get 1 h1_).trans (HV.out 1 _ rfl h1_)
          have u_ := nums_cell (oD.up 1) (j := 0) (x := x0) rfl
          go_simp
          exact hK.out (.int .i64 x0) _ ⟨oD, kD, HV.out.put 2 (fun _ h => some_eq h)⟩
        · have c5_ := hA.base 5 (by rfl)
          simp only [List.getElem?_toArray, List.getElem?_cons_zero, List.getElem?_cons_succ, Option.getD_some] at c5_
          go_simp
          exact hK.out (.int .i64 (K : Int)) _ ⟨oD, kD, HV.out.put 3 (fun _ h => some_eq h)⟩
        · have c6_ := hA.base 6 (by rfl)
          simp only [List.getElem?_toArray, List.getElem?_cons_zero, List.getElem?_cons_succ, Option.getD_some] at c6_
          go_simp
          exact hK.out (.slice (some ⟨g2, 0, none⟩) 5 c') _ ⟨oD, kD, HV.out.put 4 (fun _ h => some_eq h)⟩
        · have h4_ : L 4 = true := by simp [hd]
          have c58_ : actZ.tmps[58]?.getD undef = .slice (some ⟨g2, 0, none⟩) 5 c' := (hA.get 4 h4_).trans (HV.out 4 _ rfl h4_)
          go_simp
          exact hK.out (.pointer (some ⟨g2, 1, none⟩)) _ ⟨oD, kD, HV.out.put 5 (fun _ h => some_eq h)⟩
        · have h5_ : L 5 = true := by simp [hd]
          have c59_ : actZ.tmps[59]?.getD undef = .pointer (some ⟨g2, 1, none⟩) := (hA.get 5 h5_).trans (HV.out 5 _ rfl h5_)
          have u_ := nums_cell (oD.up 1) (j := 1) (x := x1) rfl
          go_simp
          exact hK.out (.int .i64 x1) _ ⟨oD, kD, HV.out.put 6 (fun _ h => some_eq h)⟩
        · have c6_ := hA.base 6 (by rfl)
          simp only [List.getElem?_toArray, List.getElem?_cons_zero, List.getElem?_cons_succ, Option.getD_some] at c6_
          go_simp
          exact hK.out (.slice (some ⟨g2, 0, none⟩) 5 c') _ ⟨oD, kD, HV.out.put 7 (fun _ h => some_eq h)⟩
        · have h7_ : L 7 = true := by simp [hd]
          have c61_ : actZ.tmps[61]?.getD undef = .slice (some ⟨g2, 0, none⟩) 5 c' := (hA.get 7 h7_).trans (HV.out 7 _ rfl h7_)
          go_simp
          exact hK.out (.pointer (some ⟨g2, 2, none⟩)) _ ⟨oD, kD, HV.out.put 8 (fun _ h => some_eq h)⟩
        · have h8_ : L 8 = true := by simp [hd]
          have c62_ : actZ.tmps[62]?.getD undef = .pointer (some ⟨g2, 2, none⟩) := (hA.get 8 h8_).trans (HV.out 8 _ rfl h8_)
          have u_ := nums_cell (oD.up 1) (j := 2) (x := x2) rfl
          go_simp
          exact hK.out (.int .i64 x2) _ ⟨oD, kD, HV.out.put 9 (fun _ h => some_eq h)⟩
        · have c6_ := hA.base 6 (by rfl)
          simp only [List.getElem?_toArray, List.getElem?_cons_zero, List.getElem?_cons_succ, Option.getD_some] at c6_
          go_simp
          exact hK.out (.slice (some ⟨g2, 0, none⟩) 5 c') _ ⟨oD, kD, HV.out.put 10 (fun _ h => some_eq h)⟩
        · have h10_ : L 10 = true := by simp [hd]
          have c64_ : actZ.tmps[64]?.getD undef = .slice (some ⟨g2, 0, none⟩) 5 c' := (hA.get 10 h10_).trans (HV.out 10 _ rfl h10_)
          go_simp
          exact hK.out (.pointer (some ⟨g2, 3, none⟩)) _ ⟨oD, kD, HV.out.put 11 (fun _ h => some_eq h)⟩
        · have h11_ : L 11 = true := by simp [hd]
          have c65_ : actZ.tmps[65]?.getD undef = .pointer (some ⟨g2, 3, none⟩) := (hA.get 11 h11_).trans (HV.out 11 _ rfl h11_)
          have u_ := nums_cell (oD.up 1) (j := 3) (x := x3) rfl
          go_simp
          exact hK.out (.int .i64 x3) _ ⟨oD, kD, HV.out.put 12 (fun _ h => some_eq h)⟩
        · have c6_ := hA.base 6 (by rfl)
          simp only [List.getElem?_toArray, List.getElem?_cons_zero, List.getElem?_cons_succ, Option.getD_some] at c6_
          go_simp
          exact hK.out (.slice (some ⟨g2, 0, none⟩) 5 c') _ ⟨oD, kD, HV.out.put 13 (fun _ h => some_eq h)⟩
        · have h13_ : L 13 = true := by simp [hd]
          have c67_ : actZ.tmps[67]?.getD undef = .slice (some ⟨g2, 0, none⟩) 5 c' := (hA.get 13 h13_).trans (HV.out 13 _ rfl h13_)
          go_simp
          exact hK.out (.pointer (some ⟨g2, 4, none⟩)) _ ⟨oD, kD, HV.out.put 14 (fun _ h => some_eq h)⟩
        · have h14_ : L 14 = true := by simp [hd]
          have c68_ : actZ.tmps[68]?.getD undef = .pointer (some ⟨g2, 4, none⟩) := (hA.get 14 h14_).trans (HV.out 14 _ rfl h14_)
          have u_ := nums_cell (oD.up 1) (j := 4) (x := x4) rfl
          go_simp
          exact hK.out (.int .i64 x4) _ ⟨oD, kD, HV.out.put 15 (fun _ h => some_eq h)⟩
        · have h2_ : L 2 = true := by simp [hd]
          have c56_ : actZ.tmps[56]?.getD undef = .int .i64 x0 := (hA.get 2 h2_).trans (HV.out 2 _ rfl h2_)
          have h3_ : L 3 = true := by simp [hd]
          have c57_ : actZ.tmps[57]?.getD undef = .int .i64 (K : Int) := (hA.get 3 h3_).trans (HV.out 3 _ rfl h3_)
          have h6_ : L 6 = true := by simp [hd]
          have c60_ : actZ.tmps[60]?.getD undef = .int .i64 x1 := (hA.get 6 h6_).trans (HV.out 6 _ rfl h6_)
          have h9_ : L 9 = true := by simp [hd]
          have c63_ : actZ.tmps[63]?.getD undef = .int .i64 x2 := (hA.get 9 h9_).trans (HV.out 9 _ rfl h9_)
          have h12_ : L 12 = true := by simp [hd]
          have c66_ : actZ.tmps[66]?.getD undef = .int .i64 x3 := (hA.get 12 h12_).trans (HV.out 12 _ rfl h12_)
          have h15_ : L 15 = true := by simp [hd]
          have c69_ : actZ.tmps[69]?.getD undef = .int .i64 x4 := (hA.get 15 h15_).trans (HV.out 15 _ rfl h15_)
          go_simp
          exact hK.out (.agg #[.int .i64 x0, .int .i64 (K : Int), .int .i64 x1, .int .i64 x2, .int .i64 x3, .int .i64 x4]) _ ⟨oD, kD, HV.out.put 16 (fun _ h => some_eq h)⟩
        · rw [hL] at oD
          go_simp
          exact hK.out _ _ ⟨Pb.new oD, ⟨kD.os, kD.tape, kD.output⟩, HV.out.put 17 (fun _ h => by cases h)⟩
        · have h17_ : L 17 = true := by simp [hd]
          have c12_ := hA.get 17 h17_
          have h16_ : L 16 = true := by simp [hd]
          have c70_ : actZ.tmps[70]?.getD undef = .agg #[.int .i64 x0, .int .i64 (K : Int), .int .i64 x1, .int .i64 x2, .int .i64 x3, .int .i64 x4] := (hA.get 16 h16_).trans (HV.out 16 _ rfl h16_)
          rw [h17_, hL] at oD
          obtain ⟨gN, hgN, oN⟩ := Pb.val oD
          rw [hgN] at c12_
          have hgN := Lib.hid hgN
          have n0_ := oN.cell 0
          have n1_ := oN.cell 1
          have n2_ := oN.cell 2
          have n3_ := oN.cell 3
          have n4_ := oN.cell 4
          have n5_ := oN.cell 5
          have nf_ := oN.frozen
          have nl_ := oN.celLt
          go_simp
          have oY := (((((oN.setCell 0 (.int .i64 x0)).setCell 1 (.int .i64 (K : Int))).setCell 2 (.int .i64 x1)).setCell 3 (.int .i64 x2)).setCell 4 (.int .i64 x3)).setCell 5 (.int .i64 x4)
          have oQ := Pb.put (l := L 17) (v := v 17) (zs := [.int .i64 0, .int .i64 0, .int .i64 0, .int .i64 0, .int .i64 0, .int .i64 0]) oY h17_ hgN.out
          exact hK.out undef _ ⟨oQ, rcalm_set (rcalm_set (rcalm_set (rcalm_set (rcalm_set (rcalm_set kD))))), HV.out.put 18 (fun _ h => by cases h)⟩
      case fin =>
        rintro L v wc hall ⟨oD, kD, hv⟩
        rw [hall 17 (by decide), hall 18 (by decide)] at oD
        obtain ⟨gN, hgN, oN⟩ := Pb.got oD
        clear hv hall oD oR kR
        simp only [putAll, Act.put, List.setIfInBounds_toArray, List.set_cons_zero, List.set_cons_succ]
        cases z with
        | false =>
          have hno : ¬ RecOk (recOf a k b c d e) := fun h => by have h1 := fits_of_ok h; rw [HZZ.out] at h1; cases h1
          have HV2 := Lib.hid (HV.out.trans (if_neg hno))
          clear hno
          have o5 := (oN.up 3)
          have r0 := Own.cell (T := 39) o5 0
          have r1 := Own.cell (T := 39) o5 1
          have r2 := Own.cell (T := 39) o5 2
          have r3 := Own.cell (T := 39) o5 3
          have r4 := Own.cell (T := 39) o5 4
          have r5 := Own.cell (T := 39) o5 5
          have rf := Own.frozen (T := 39) o5
          have rl := Own.celLt (T := 39) o5
          go_wp2
          have oZ := own_zero6 hz o5
          refine bodyPost_ret (v := prL (rec0, 1)) ?_ rfl ?_
          · refine res_rec (b := bx) (r := rec0) (e := 1) Tryz.results26 ?_ ?_ oZ rfl
            · rfl
            · rfl
          · exact ⟨by rw [HV2.out], oZ.drop.drop.drop.drop, calm_zero6 kD⟩
        | true =>
          have hall := HALL.out
          have hzz := HZZ.out
          simp only [List.all_cons, List.all_nil, Bool.and_true, Bool.and_eq_true] at hzz
          have q0 : x0 = nlV a := Option.some.inj ((hall 0 a (by omega) rfl).2 hzz.1)
          have q1 : x1 = nlV b := Option.some.inj ((hall 1 b (by omega) rfl).2 hzz.2.1)
          have q2 : x2 = nlV c := Option.some.inj ((hall 2 c (by omega) rfl).2 hzz.2.2.1)
          have q3 : x3 = nlV d := Option.some.inj ((hall 3 d (by omega) rfl).2 hzz.2.2.2.1)
          have q4 : x4 = nlV e := Option.some.inj ((hall 4 e (by omega) rfl).2 hzz.2.2.2.2)
          have HRR := Lib.hid (show recOf a k b c d e = ⟨x0, (K : Int), x1, x2, x3, x4⟩ by rw [HR.out, q0, q1, q2, q3, q4])
          rw [HRR.out] at HV
          clear q0 q1 q2 q3 q4 hzz hall HR
          have hvd := recValid_spec ⟨x0, (K : Int), x1, x2, x3, x4⟩ oN
          unfold recV at hvd
          dsimp only at hvd
          have n0_ := oN.cell 0
          have n1_ := oN.cell 1
          have n2_ := oN.cell 2
          have n3_ := oN.cell 3
          have n4_ := oN.cell 4
          have n5_ := oN.cell 5
          by_cases hok : RecOk ⟨x0, (K : Int), x1, x2, x3, x4⟩
          · rw [decide_eq_true hok] at hvd
            have HV2 := Lib.hid (HV.out.trans (if_pos hok))
            clear HV hok
            go_wp2_with fail
            refine hvd.mono ?_
            rintro e4 w4 ⟨rfl, o4, k4⟩
            have m0_ := o4.cell 0
            have m1_ := o4.cell 1
            have m2_ := o4.cell 2
            have m3_ := o4.cell 3
            have m4_ := o4.cell 4
            have m5_ := o4.cell 5
            clear n0_ n1_ n2_ n3_ n4_ n5_
            have o5 := (o4.up 3)
            have r0 := Own.cell (T := 39) o5 0
            have r1 := Own.cell (T := 39) o5 1
            have r2 := Own.cell (T := 39) o5 2
            have r3 := Own.cell (T := 39) o5 3
            have r4 := Own.cell (T := 39) o5 4
            have r5 := Own.cell (T := 39) o5 5
            have rf := Own.frozen (T := 39) o5
            have rl := Own.celLt (T := 39) o5
            go_wp2
            have oZ := (((((o5.setCell 0 (.int .i64 x0)).setCell 1 (.int .i64 (K : Int))).setCell 2 (.int .i64 x1)).setCell 3 (.int .i64 x2)).setCell 4 (.int .i64 x3)).setCell 5 (.int .i64 x4)
            refine bodyPost_ret (v := prL (⟨x0, (K : Int), x1, x2, x3, x4⟩, 0)) ?_ rfl ?_
            · refine res_rec (b := bx) (r := ⟨x0, (K : Int), x1, x2, x3, x4⟩) (e := 0) Tryz.results26 ?_ ?_ oZ rfl
              · rfl
              · rfl
            · exact ⟨by rw [HV2.out], oZ.drop.drop.drop.drop, rcalm_set (rcalm_set (rcalm_set (rcalm_set (rcalm_set (rcalm_set (kD.trans k4))))))⟩
          · rw [decide_eq_false hok] at hvd
            have HV2 := Lib.hid (HV.out.trans (if_neg hok))
            clear HV hok
            go_wp2_with fail
            refine hvd.mono ?_
            rintro e4 w4 ⟨rfl, o4, k4⟩
            have o5 := (o4.up 3)
            have r0 := Own.cell (T := 39) o5 0
            have r1 := Own.cell (T := 39) o5 1
            have r2 := Own.cell (T := 39) o5 2
            have r3 := Own.cell (T := 39) o5 3
            have r4 := Own.cell (T := 39) o5 4
            have r5 := Own.cell (T := 39) o5 5
            have rf := Own.frozen (T := 39) o5
            have rl := Own.celLt (T := 39) o5
            go_wp2
            have oZ := own_zero6 hz o5
            refine bodyPost_ret (v := prL (rec0, 1)) ?_ rfl ?_
            · refine res_rec (b := bx) (r := rec0) (e := 1) Tryz.results26 ?_ ?_ oZ rfl
              · rfl
              · rfl
            · exact ⟨by rw [HV2.out], oZ.drop.drop.drop.drop, calm_zero6 (kD.trans k4)⟩
end
end Go.Proofs.YtlccalkikjfimaaGreatDoor
