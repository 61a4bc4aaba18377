/- Shares by weights: shares.Split. -/
import Derived.Test.YtalkmeclkjnjnaaLagM
import Derived.Test.YtalkmeclkjnjnaaPt
import Derived.Laws.MakeOwn
namespace Go.Proofs.Ytalkmeclkjnjnaa
open Go.RowKit
open SP
section
variable {w w' : World} {R : List SP}

/-- A list of flows with weights. -/
structure PtOk (l : List (Int × Int)) : Prop where
  asc : l.Pairwise (fun a b => a.1 < b.1)
  rng : ∀ p ∈ l, 0 ≤ p.1 ∧ p.1 < 32 ∧ 1 ≤ p.2 ∧ p.2 ≤ 16
  len : l.length ≤ 32
def pws (l : List (Int × Int)) : List Int := l.map (·.2)

def SvRel (l : List (Int × Int)) (Sp : SP) (R : List SP) (w : World) (v3 v8 : Value) (wr : World) : Prop :=
  ∃ (i : Nat) (last : Int), v8 = .int .i64 (i : Int) ∧ v3 = .int .i64 last ∧ i ≤ l.length ∧ (∀ t, l[i]? = some t → last < t.1) ∧ Own wr (Sp :: R) ∧ Calm w wr
set_option maxHeartbeats 3200000 in
set_option maxRecDepth 100000 in
theorem shValid_spec {Sp : SP} {l : List (Int × Int)} {a : Option Addr} {n c : Nat} (hS : PartsAt Sp a l) (hok : PtOk l) (hn : n = l.length) (o : Own w (Sp :: R)) :
    Calls Try.prog 42 #[.slice a n c] w (Ret (.bool true) (Sp :: R) w) := by
  have hT : SvRel l Sp R w (.int .i64 (-1)) (.int .i64 0) w := ⟨0, -1, rfl, rfl, by omega, fun t ht => by have := hok.rng t (List.mem_of_getElem? ht); omega, o, Calm.refl w⟩
  have hl := hok.len
  have hn2 : n ≤ 32 := by omega
  have hn64 : decide ((n : Int) ≤ 64) = true := decide_eq_true (by omega)
  have Hn := Lib.hid hn
  clear hn
  go_enter Try.func42, Try.ntmps42
  go_wp2
  go_loopw [3, 8] (fun v3 v8 wr => SvRel l Sp R w v3 v8 wr) (fun _ v8 _ => n - (ivOf v8).toNat)
  case atStart => exact hT
  case round =>
    clear hT
    obtain ⟨i, last, rfl, rfl, hi, hlast, oR, kR⟩ := hrel
    by_cases hlt : i < n
    · obtain ⟨t, ht⟩ : ∃ t, l[i]? = some t := ⟨_, List.getElem?_eq_getElem (by have := Hn.out; omega)⟩
      obtain ⟨g, so, rfl, d0, d1⟩ := hS _ _ oR i _ ht
      have h1 := hlast t ht
      have h2 := hok.rng t (List.mem_of_getElem? ht)
      have hnext : ∀ u, l[i + 1]? = some u → t.1 < u.1 := fun u hu => by
        have := List.pairwise_iff_getElem.1 hok.asc i (i + 1) (List.getElem?_eq_some_iff.1 ht).1 (List.getElem?_eq_some_iff.1 hu).1 (by omega)
        rw [(List.getElem?_eq_some_iff.1 ht).2, (List.getElem?_eq_some_iff.1 hu).2] at this
        exact this
      have HN := Lib.hid hnext
      obtain ⟨x, y⟩ := t
      dsimp only at d0 d1 h1 h2 HN
      clear ht hlast hnext
      obtain ⟨h2, h3, h4, h5⟩ := h2
      have f1 : decide (x ≤ last) = false := decide_eq_false (by omega)
      have f2 : decide (y < 1) = false := decide_eq_false (by omega)
      have f3 : decide (2147483648 < y) = false := decide_eq_false (by omega)
      have oA := oR.alloc (.cells #[.int .i64 x, .int .i64 y] 34)
      go_wp2
      go_roundw
      case rel => exact ⟨i + 1, x, by go_num, rfl, by have := Hn.out; omega, HN.out, oA.drop, ⟨kR.os, kR.tape, kR.output⟩⟩
      case measure => simp [ivOf]; omega
    · go_wp2
      go_ret
      exact ⟨rfl, oR, kR⟩
theorem trunc_eq (x b c : Nat) (neg : Bool) : ((if neg then -(x : Int) else (x : Int)) * (b : Int)).tdiv (c : Int) = if neg then -((x * b / c : Nat) : Int) else ((x * b / c : Nat) : Int) := by
  cases neg
  · show ((x : Int) * (b : Int)).tdiv (c : Int) = _
    rw [← Int.natCast_mul]; rfl
  · show (-(x : Int) * (b : Int)).tdiv (c : Int) = -_
    rw [Int.neg_mul, Int.neg_tdiv, ← Int.natCast_mul]; rfl
theorem magn (a : Int) : ∃ (x : Nat) (neg : Bool), (a = if neg then -(x : Int) else (x : Int)) ∧ (neg = true → 0 < x) ∧ neg = decide (a < 0) ∧ (x : Int) = ab a := by
  by_cases h : a < 0
  · exact ⟨(-a).toNat, true, by simp; omega, fun _ => by omega, by simp [h], by unfold ab; omega⟩
  · exact ⟨a.toNat, false, by simp; omega, fun h => by simp at h, by simp [h], by unfold ab; omega⟩
theorem magn_mul (x b : Nat) (hx : x ≤ 36028797018963968) (hb : b ≤ 16) : x * b < 9223372036854775808 := by
  have := Nat.mul_le_mul hx hb
  omega
theorem mulDivI_spec (a wt T : Int) (ha : ab a ≤ 36028797018963968) (h1 : 1 ≤ wt) (h2 : wt ≤ 16) (h3 : 1 ≤ T) (h4 : T ≤ 1000000) (o : Own w R) :
    Calls Try.prog 43 #[.int .i64 a, .int .i64 wt, .int .i64 T, .int .i64 (if a < 0 then 1 else 0)] w (Ret (.tuple #[.int .i64 ((a * wt).tdiv T), .int .i64 0]) R w) := by
  obtain ⟨x, neg, e, hn, hd, hx⟩ := magn a
  obtain ⟨b, rfl⟩ : ∃ b : Nat, wt = (b : Int) := ⟨wt.toNat, by omega⟩
  obtain ⟨c, rfl⟩ : ∃ c : Nat, T = (c : Int) := ⟨T.toNat, by omega⟩
  have := mulDiv_spec x b c neg hn (by omega) (by omega) (magn_mul x b (by omega) (by omega)) (by omega) (by omega) o
  rw [← trunc_eq, ← e] at this
  have e2 : (if a < 0 then (1 : Int) else 0) = if neg then 1 else 0 := by rw [hd]; by_cases h : a < 0 <;> simp [h]
  rw [e2]; exact this
theorem refMulDivI_spec (a wt T : Int) (ha : ab a ≤ 36028797018963968) (h1 : 1 ≤ wt) (h2 : wt ≤ 16) (h3 : 1 ≤ T) (h4 : T ≤ 1000000) (o : Own w R) :
    Calls Try.prog 35 #[.int .i64 a, .int .i64 wt, .int .i64 T, .int .i64 (if a < 0 then 1 else 0)] w (Ret (.tuple #[.int .i64 ((a * wt).tdiv T), .int .i64 0]) R w) := by
  obtain ⟨x, neg, e, hn, hd, hx⟩ := magn a
  obtain ⟨b, rfl⟩ : ∃ b : Nat, wt = (b : Int) := ⟨wt.toNat, by omega⟩
  obtain ⟨c, rfl⟩ : ∃ c : Nat, T = (c : Int) := ⟨T.toNat, by omega⟩
  have := refMulDiv_spec x b c neg hn (by omega) (by omega) (magn_mul x b (by omega) (by omega)) (by omega) (by omega) o
  rw [← trunc_eq, ← e] at this
  have e2 : (if a < 0 then (1 : Int) else 0) = if neg then 1 else 0 := by rw [hd]; by_cases h : a < 0 <;> simp [h]
  rw [e2]; exact this

def i64s (l : List Int) : List Value := l.map (Value.int .i64)
theorem madeZeros (n : Nat) : madeCells (Value.int .i64 0).cells n = (List.replicate n (Value.int .i64 0)).toArray := by
  apply Array.ext'
  unfold madeCells
  simp only [Array.toList_map, Array.toList_range]
  refine List.ext_getElem (by simp) fun i h1 h2 => ?_
  simp only [List.getElem_map, List.getElem_range, List.getElem_replicate]
  show (#[Value.int .i64 0] : Array Value)[i % 1]! = _
  rw [Nat.mod_one]; rfl
theorem makeI_run (n : Nat) (hn : n ≤ 1000000) (W : World) :
    (Instr.makeSlice 38 (.int .i64 (n : Int)) (.int .i64 (n : Int))).run Try.prog W = .ok (.slice (some ⟨W.heap.size, 0, none⟩) n n) (W.alloc (.cells (List.replicate n (Value.int .i64 0)).toArray 2)) := by
  have hh : (Try.prog.info? 2).map (fun i => (i.zero, i.size, i.bytes)) = some (some (.int .i64 0), 1, 8) := by kernel_rfl
  obtain ⟨i, hi, he⟩ := Option.map_eq_some_iff.1 hh
  simp only [Prod.mk.injEq] at he
  obtain ⟨hz, hs, hb⟩ := he
  have := run_make (P := Try.prog) W 38 2 i (.int .i64 0) Try.underlying38 hi hz .i64 .i64 (n : Int) (n : Int) (by omega) (Int.le_refl _) (by rw [hb]; omega) (by omega)
  rw [hs, Int.toNat_natCast, Nat.mul_one, madeZeros] at this
  exact this

theorem pws_pos {l : List (Int × Int)} (h : PtOk l) : ∀ x ∈ pws l, 1 ≤ x := by
  intro x hx
  obtain ⟨p, hp, rfl⟩ := List.mem_map.1 hx
  exact (h.rng p hp).2.2.1
theorem sumI_le : ∀ (l : List Int), (∀ x ∈ l, x ≤ 16) → sumI l ≤ 16 * (l.length : Int)
  | [], _ => by show (0 : Int) ≤ _; simp
  | x :: l, h => by
    have := sumI_le l fun y hy => h y (by simp [hy])
    have := h x (by simp)
    rw [sumI_cons, List.length_cons]; omega
theorem sumI_nonneg : ∀ (l : List Int), (∀ x ∈ l, 0 ≤ x) → 0 ≤ sumI l
  | [], _ => Int.le_refl _
  | x :: l, h => by
    have := sumI_nonneg l fun y hy => h y (by simp [hy])
    have := h x (by simp)
    rw [sumI_cons]; omega
def SpRel1 (l : List (Int × Int)) (Sp : SP) (R : List SP) (w : World) (v6 v24 : Value) (wr : World) : Prop :=
  ∃ (i : Nat) (s : Int), v24 = .int .i64 (i : Int) ∧ v6 = .int .i64 s ∧ i ≤ l.length ∧ 0 ≤ s ∧ s + sumI (pws (l.drop i)) = sumI (pws l) ∧ Own wr (Sp :: R) ∧ Calm w wr
def SpRel2 (a T : Int) (l : List (Int × Int)) (g : Nat) (Sp : SP) (R : List SP) (w : World) (v11 v41 : Value) (wr : World) : Prop :=
  ∃ (i : Nat) (s : Int), v41 = .int .i64 (i : Int) ∧ v11 = .int .i64 (a - s) ∧ i ≤ l.length ∧ s = sumI ((truncs a T (pws l)).take i) ∧ ab s ≤ (i : Int) * 36028797018963968 ∧
    Own wr (cel g 2 (i64s ((truncs a T (pws l)).take i) ++ List.replicate (l.length - i) (.int .i64 0)) :: Sp :: R) ∧ Calm w wr
def ShPost (a : Int) (l : List (Int × Int)) (Sp : SP) (R : List SP) (w : World) (e : Ending) (w' : World) : Prop :=
  ∃ g c, e = .returned (.tuple #[.slice g l.length c, .int .i64 (if l = [] then 5 else 0)]) ∧ Own w' (slc 2 1 g l.length c (i64s (lagSplit a (pws l))) :: Sp :: R) ∧ Calm w w'
theorem pws_drop {l : List (Int × Int)} {i : Nat} {p : Int × Int} (h : l[i]? = some p) : sumI (pws (l.drop i)) = p.2 + sumI (pws (l.drop (i + 1))) := by
  rw [drop_cons h]; rfl
theorem truncs_get {l : List (Int × Int)} {i : Nat} {p : Int × Int} (a T : Int) (h : l[i]? = some p) : (truncs a T (pws l))[i]? = some ((a * p.2).tdiv T) := by
  unfold truncs pws
  rw [List.getElem?_map, List.getElem?_map, h]; rfl
theorem take_next {l : List Int} {i : Nat} {x : Int} (h : l[i]? = some x) : l.take (i + 1) = l.take i ++ [x] := by rw [List.take_add_one, h]; rfl
theorem sumI_snoc (l : List Int) (x : Int) : sumI (l ++ [x]) = sumI l + x := by
  rw [sumI_append]; show _ + (x + 0) = _; omega
theorem truncs_len (a T : Int) (W : List Int) : (truncs a T W).length = W.length := by unfold truncs; rw [List.length_map]
/-- One more of the row's numbers stored. -/
theorem zeros_set {ds : List Int} {i n : Nat} {x : Int} (hx : ds[i]? = some x) (hi : i < n) :
    (i64s (ds.take i) ++ List.replicate (n - i) (Value.int .i64 0)).set i (.int .i64 x) = i64s (ds.take (i + 1)) ++ List.replicate (n - (i + 1)) (Value.int .i64 0) := by
  have hl : (i64s (ds.take i)).length = i := by
    unfold i64s; rw [List.length_map, List.length_take]; have := (List.getElem?_eq_some_iff.1 hx).1; omega
  rw [List.set_append_right _ _ (by omega), hl, Nat.sub_self, take_next hx]
  obtain ⟨k, hk⟩ : ∃ k, n - i = k + 1 := ⟨n - i - 1, by omega⟩
  rw [hk, List.replicate_succ, List.set_cons_zero, show n - (i + 1) = k by omega]
  unfold i64s
  rw [List.map_append, List.append_assoc]; rfl

theorem trunc_abs (a y s : Int) (h0 : 0 ≤ y) (h1 : y ≤ s) (hs : 1 ≤ s) : ab ((a * y).tdiv s) ≤ ab a := by
  have h : ((a * y).tdiv s).natAbs ≤ a.natAbs := by
    rw [Int.natAbs_tdiv, Int.natAbs_mul]
    have hys : y.natAbs ≤ s.natAbs := by omega
    have : a.natAbs * y.natAbs ≤ a.natAbs * s.natAbs := Nat.mul_le_mul_left _ hys
    calc a.natAbs * y.natAbs / s.natAbs ≤ a.natAbs * s.natAbs / s.natAbs := Nat.div_le_div_right this
      _ = a.natAbs := Nat.mul_div_cancel _ (by omega)
  unfold ab
  omega
theorem mem_le_sumI : ∀ {l : List Int}, (∀ x ∈ l, 0 ≤ x) → ∀ {y : Int}, y ∈ l → y ≤ sumI l
  | x :: l, h, y, hy => by
    have h1 := sumI_nonneg l fun z hz => h z (by simp [hz])
    rw [sumI_cons]
    rcases List.mem_cons.1 hy with rfl | hy
    · omega
    · have := mem_le_sumI (fun z hz => h z (by simp [hz])) hy
      have := h x (by simp)
      omega
theorem zeros_at {ds : List Int} {j n : Nat} (hl : ds.length = n) (hj : j < n) :
    (i64s (ds.take j) ++ List.replicate (n - j) (Value.int .i64 0))[j]? = some (.int .i64 0) := by
  have h : (i64s (ds.take j)).length = j := by unfold i64s; rw [List.length_map, List.length_take]; omega
  rw [List.getElem?_append_right (by omega), h, Nat.sub_self, List.getElem?_replicate, if_pos (by omega)]
theorem zeros_end {ds : List Int} {n : Nat} (hl : ds.length = n) : i64s (ds.take n) ++ List.replicate (n - n) (Value.int .i64 0) = i64s ds := by
  rw [Nat.sub_self, List.replicate_zero, List.append_nil, List.take_of_length_le (by omega)]
theorem sh_end {a : Int} {l : List (Int × Int)} {Sp : SP} {R : List SP} {w w1 : World} {g : Nat} {q0 : Int} {ds : List Int} (hd : truncs a (sumI (pws l)) (pws l) = q0 :: ds) (hl : l.length ≤ 32)
    (o : Own w1 (cel g 2 ((i64s (q0 :: ds)).set 0 (.int .i64 (q0 + (a - sumI (q0 :: ds))))) :: Sp :: R)) (k : Calm w w1) (hne : l ≠ []) :
    ShPost a l Sp R w (.returned (.tuple #[.slice (some ⟨g, 0, none⟩) l.length l.length, .int .i64 0])) w1 := by
  have hlen : (q0 :: ds).length = l.length := by rw [← hd, truncs_len]; unfold pws; rw [List.length_map]
  refine ⟨some ⟨g, 0, none⟩, l.length, by rw [if_neg hne], Own.slc.2 (.inr ⟨g, [], rfl, by omega, by unfold maxLen; omega, ?_, by simp, ?_⟩), k⟩
  · unfold i64s lagSplit; rw [List.length_map, addHd_len, hd, hlen, Nat.mul_one]
  · rw [List.append_nil]
    unfold lagSplit
    rw [hd]
    exact o
set_option maxHeartbeats 3200000 in
set_option maxRecDepth 100000 in
theorem shSplit_spec {Sp : SP} {l : List (Int × Int)} {ar : Option Addr} {n c : Nat} (a : Int) (ha : ab a ≤ 36028797018963968) (hS : PartsAt Sp ar l) (hok : PtOk l) (hn : n = l.length) (o : Own w (Sp :: R)) :
    Calls Try.prog 33 #[.int .i64 a, .slice ar n c] w (ShPost a l Sp R w) := by
  have hv := shValid_spec (c := c) hS hok hn o
  have hl := hok.len
  have hn2 : n ≤ 32 := by omega
  by_cases h0 : l = []
  · subst h0
    have : n = 0 := hn
    subst this
    clear hn hl hn2 hok hS
    go_enter Try.func33, Try.ntmps33
    go_wp2_with fail
    refine hv.mono ?_
    rintro e1 w1 ⟨rfl, o1, k1⟩
    go_wp2
    go_ret2
    exact ⟨none, 0, rfl, o1.slc_nil, k1⟩
  · have hpos : 0 < n := by rw [hn]; exact List.length_pos_iff.2 h0
    have hn0 : ((n : Int) == 0) = false := by simp; omega
    have hrest : ∀ p ∈ l, 1 ≤ p.2 ∧ p.2 ≤ 16 := fun p hp => ⟨(hok.rng p hp).2.2.1, (hok.rng p hp).2.2.2⟩
    have hTpos : 0 < sumI (pws l) := sumI_pos (by unfold pws; simpa using h0) (pws_pos hok)
    have hTle : sumI (pws l) ≤ 16 * (l.length : Int) := by
      have := sumI_le (pws l) fun x hx => by
        obtain ⟨p, hp, rfl⟩ := List.mem_map.1 hx
        exact (hrest p hp).2
      unfold pws at this; rw [List.length_map] at this; exact this
    have hdrop : ∀ i, 0 ≤ sumI (pws (l.drop i)) := fun i => sumI_nonneg _ fun x hx => by
      obtain ⟨p, hp, rfl⟩ := List.mem_map.1 hx
      have := hrest p (List.mem_of_mem_drop hp); omega
    have HTl := Lib.hid (show sumI (pws l) ≤ 512 by omega)
    have HTp := Lib.hid hTpos
    have HN := Lib.hid hn
    have HDr := Lib.hid hdrop
    have HRest := Lib.hid hrest
    have H0 := Lib.hid h0
    have hmk := makeI_run n (by omega)
    clear hn hTpos hTle hdrop hrest hl h0
    go_enter Try.func33, Try.ntmps33
    go_wp2_with fail
    refine hv.mono ?_
    rintro e1 w1 ⟨rfl, o1, k1⟩
    clear hv
    go_wp2
    go_loopw [6, 24] (fun v6 v24 wr => SpRel1 l Sp R w v6 v24 wr) (fun _ v _ => n - (ivOf v).toNat)
    case atStart => exact ⟨0, 0, rfl, rfl, by omega, by omega, by rw [List.drop_zero]; omega, o1, k1⟩
    case round =>
      obtain ⟨i, s, rfl, rfl, hi, hs0, hs, oR, kR⟩ := hrel
      by_cases hlt : i < n
      · obtain ⟨t, ht⟩ : ∃ t, l[i]? = some t := ⟨_, List.getElem?_eq_getElem (by have := HN.out; omega)⟩
        obtain ⟨g, so, rfl, d0, d1⟩ := hS _ _ oR i _ ht
        have h2 := HRest.out t (List.mem_of_getElem? ht)
        have hs2 := hs
        rw [pws_drop ht] at hs2
        have hdn := HDr.out (i + 1)
        have hTl := HTl.out
        obtain ⟨x, y⟩ := t
        dsimp only at d0 d1 h2 hs2
        have hw : IntKind.i64.wrap (s + y) = s + y := by rw [IntKind.wrap_i64]; omega
        have hlen := HN.out
        have HS := Lib.hid hs2
        have HL := Lib.hid hlen
        clear hs2 hdn hTl hs ht hlen
        go_wp2
        go_roundw
        case rel => exact ⟨i + 1, s + y, by go_num, rfl, by have := HL.out; omega, by omega, by have := HS.out; omega, (oR.alloc _).drop, ⟨kR.os, kR.tape, kR.output⟩⟩
        case measure => simp [ivOf]; omega
      · have hil : i = l.length := by have := HN.out; omega
        have hsT : s = sumI (pws l) := by
          rw [hil, List.drop_length] at hs
          have : sumI (pws ([] : List (Int × Int))) = 0 := rfl
          omega
        have HT1 := Lib.hid hsT
        have hT1 : 1 ≤ s ∧ s ≤ 512 := by have := HTl.out; have := HTp.out; omega
        clear hsT hs hil hs0
        have hMD : ∀ (x : Int) (W : World) (R' : List SP), 1 ≤ x → x ≤ 16 → Own W R' → Calls Try.prog 43 #[.int .i64 a, .int .i64 x, .int .i64 s, .int .i64 (if a < 0 then 1 else 0)] W (Ret (.tuple #[.int .i64 ((a * x).tdiv s), .int .i64 0]) R' W) :=
          fun x W R' h1 h2 o' => mulDivI_spec a x s ha h1 h2 (by omega) (by omega) o'
        have HMD := Lib.hid hMD
        clear hMD
        by_cases hneg : a < 0
        · have f1 : decide (a < 0) = true := decide_eq_true hneg
          have hrd : (if a < 0 then (1 : Int) else 0) = 1 := if_pos hneg
          rw [hrd] at HMD
          have HA := Lib.hid ha
          have HNEG := Lib.hid hneg
          clear hneg ha hrd hT1
          go_wp2
          have oZ := oR.alloc (.cells (List.replicate n (Value.int .i64 0)).toArray 2)
          generalize hg : wr.heap.size = g at *
          have HG := Lib.hid hg
          clear hg
          go_loopw [11, 41] (fun v11 v41 wr' => SpRel2 a s l g Sp R w v11 v41 wr') (fun _ v _ => n - (ivOf v).toNat)
          case atStart => exact ⟨0, 0, rfl, by rw [Int.sub_zero], by omega, rfl, by decide, by rw [List.take_zero, Nat.sub_zero, ← HN.out]; exact oZ, ⟨kR.os, kR.tape, kR.output⟩⟩
          case round =>
            obtain ⟨j, sm, rfl, rfl, hj, hsm, hsb, oQ, kQ⟩ := hrel
            by_cases hlt2 : j < n
            · obtain ⟨t, ht⟩ : ∃ t, l[j]? = some t := ⟨_, List.getElem?_eq_getElem (by have := HN.out; omega)⟩
              obtain ⟨g2, so, rfl, d0, d1⟩ := hS _ _ (oQ.up 1) j _ ht
              have h2 := HRest.out t (List.mem_of_getElem? ht)
              have hget := truncs_get a s ht
              obtain ⟨x, y⟩ := t
              dsimp only at d0 d1 h2 hget
              obtain ⟨q, hq⟩ : ∃ q, (a * y).tdiv s = q := ⟨_, rfl⟩
              have hcall : ∀ (W : World) (R' : List SP), Own W R' → Calls Try.prog 43 #[.int .i64 a, .int .i64 y, .int .i64 s, .int .i64 1] W (Ret (.tuple #[.int .i64 q, .int .i64 0]) R' W) := fun W R' o' => by
                have := HMD.out y W R' h2.1 h2.2 o'
                rw [hq] at this; exact this
              have hy : y ≤ s := by rw [HT1.out]; exact mem_le_sumI (fun z hz => by
                obtain ⟨p, hp, rfl⟩ := List.mem_map.1 hz
                have := HRest.out p hp; omega) (List.mem_map.2 ⟨(x, y), List.mem_of_getElem? ht, rfl⟩)
              have hqa : ab q ≤ 36028797018963968 := by
                rw [← hq]
                exact Int.le_trans (trunc_abs a y s (by omega) hy (by omega)) HA.out
              have hla : (truncs a s (pws l)).length = l.length := by rw [truncs_len]; unfold pws; rw [List.length_map]
              have hA2 := HA.out
              have hj2 : (j : Int) ≤ 31 := by omega
              have hw : IntKind.i64.wrap (a - sm - q) = a - (sm + q) := by unfold ab at hsb hqa hA2; rw [IntKind.wrap_i64]; omega
              have hsb2 : ab (sm + q) ≤ ((j + 1 : Nat) : Int) * 36028797018963968 := by unfold ab at hsb hqa ⊢; omega
              rw [hq] at hget
              have HC := Lib.hid hcall
              have HB2 := Lib.hid hsb2
              have HNL := HN.out
              have c0z := zeros_at (j := j) hla (by omega)
              have hzs := zeros_set (n := l.length) hget (by omega)
              have hsm2 : sm + q = sumI ((truncs a s (pws l)).take (j + 1)) := by rw [take_next hget, sumI_snoc, ← hsm]
              have HS2 := Lib.hid hsm2
              have HZS := Lib.hid hzs
              have HZ := Lib.hid c0z
              have HNL2 := Lib.hid HNL
              clear hcall hq hy hqa hla hA2 hsb2 hsb hget c0z hzs hsm2 hsm HNL ht
              have oA := oQ.alloc (.cells #[.int .i64 x, .int .i64 y] 34)
              go_wp2_with fail
              refine (HC.out _ _ oA).mono ?_
              rintro e3 w3 ⟨rfl, o3, k3⟩
              have c1 := (o3.up 1).cell j HZ.out
              have hf := (o3.up 1).frozen
              have hlt3 := (o3.up 1).celLt
              have oS := (o3.up 1).setCell j (.int .i64 q)
              rw [HZS.out] at oS
              go_wp2
              go_roundw
              case rel => exact ⟨j + 1, sm + q, by go_num, rfl, by have := HNL2.out; omega, HS2.out, HB2.out, (oS.up 1).drop, ⟨k3.os.trans kQ.os, k3.tape.trans kQ.tape, k3.output.trans kQ.output⟩⟩
              case measure => simp [ivOf]; omega
            · have hjl : j = l.length := by have := HN.out; omega
              subst hjl
              have hla : (truncs a s (pws l)).length = l.length := by rw [truncs_len]; unfold pws; rw [List.length_map]
              rw [zeros_end hla] at oQ
              rw [List.take_of_length_le (by omega)] at hsm
              obtain ⟨q0, ds, hds⟩ : ∃ q0 ds, truncs a s (pws l) = q0 :: ds := by
                cases hT : truncs a s (pws l) with
                | nil => rw [hT] at hla; have := H0.out; simp at hla; exact absurd (List.eq_nil_of_length_eq_zero hla.symm) this
                | cons q0 ds => exact ⟨_, _, rfl⟩
              rw [hds] at oQ hsm
              have c1 := oQ.cell 0
              have hf := oQ.frozen
              have hlt3 := oQ.celLt
              obtain ⟨p0, hp0⟩ : ∃ p, l[0]? = some p := ⟨_, List.getElem?_eq_getElem (by have := HN.out; omega)⟩
              have hq0 : ab q0 ≤ 36028797018963968 := by
                have h1 := truncs_get a s hp0
                rw [hds] at h1
                have h2 := HRest.out p0 (List.mem_of_getElem? hp0)
                have e : q0 = (a * p0.2).tdiv s := by simpa using h1
                rw [e]
                refine Int.le_trans (trunc_abs a p0.2 s (by omega) ?_ (by have := HT1.out; have := HTp.out; omega)) HA.out
                rw [HT1.out]; exact mem_le_sumI (fun z hz => by
                obtain ⟨p, hp, rfl⟩ := List.mem_map.1 hz
                have := HRest.out p hp; omega) (List.mem_map.2 ⟨p0, List.mem_of_getElem? hp0, rfl⟩)
              have hA2 := HA.out
              have hw : IntKind.i64.wrap (q0 + (a - sm)) = q0 + (a - sm) := by have := HN.out; unfold ab at hsb hq0 hA2; rw [IntKind.wrap_i64]; omega
              have oS := oQ.setCell 0 (.int .i64 (q0 + (a - sm)))
              have HDS := Lib.hid hds
              have HSM := Lib.hid hsm
              have HNL2 := Lib.hid HN.out
              clear hds hsm hsb hq0 hA2 hp0 hla
              go_wp2
              go_ret2
              have hne := H0.out
              have hds := HDS.out
              rw [HT1.out] at hds
              have hsm := HSM.out
              rw [hsm] at oS
              have := sh_end hds (by have := HNL2.out; omega) oS (Calm.trans kQ ⟨rfl, rfl, rfl⟩) hne
              rw [← HNL2.out, ← hsm] at this
              exact this
        · have f1 : decide (a < 0) = false := decide_eq_false hneg
          have hrd : (if a < 0 then (1 : Int) else 0) = 0 := if_neg hneg
          rw [hrd] at HMD
          have HA := Lib.hid ha
          have HNEG := Lib.hid hneg
          clear hneg ha hrd hT1
          go_wp2
          have oZ := oR.alloc (.cells (List.replicate n (Value.int .i64 0)).toArray 2)
          generalize hg : wr.heap.size = g at *
          have HG := Lib.hid hg
          clear hg
          go_loopw [11, 41] (fun v11 v41 wr' => SpRel2 a s l g Sp R w v11 v41 wr') (fun _ v _ => n - (ivOf v).toNat)
          case atStart => exact ⟨0, 0, rfl, by rw [Int.sub_zero], by omega, rfl, by decide, by rw [List.take_zero, Nat.sub_zero, ← HN.out]; exact oZ, ⟨kR.os, kR.tape, kR.output⟩⟩
          case round =>
            obtain ⟨j, sm, rfl, rfl, hj, hsm, hsb, oQ, kQ⟩ := hrel
            by_cases hlt2 : j < n
            · obtain ⟨t, ht⟩ : ∃ t, l[j]? = some t := ⟨_, List.getElem?_eq_getElem (by have := HN.out; omega)⟩
              obtain ⟨g2, so, rfl, d0, d1⟩ := hS _ _ (oQ.up 1) j _ ht
              have h2 := HRest.out t (List.mem_of_getElem? ht)
              have hget := truncs_get a s ht
              obtain ⟨x, y⟩ := t
              dsimp only at d0 d1 h2 hget
              obtain ⟨q, hq⟩ : ∃ q, (a * y).tdiv s = q := ⟨_, rfl⟩
              have hcall : ∀ (W : World) (R' : List SP), Own W R' → Calls Try.prog 43 #[.int .i64 a, .int .i64 y, .int .i64 s, .int .i64 0] W (Ret (.tuple #[.int .i64 q, .int .i64 0]) R' W) := fun W R' o' => by
                have := HMD.out y W R' h2.1 h2.2 o'
                rw [hq] at this; exact this
              have hy : y ≤ s := by rw [HT1.out]; exact mem_le_sumI (fun z hz => by
                obtain ⟨p, hp, rfl⟩ := List.mem_map.1 hz
                have := HRest.out p hp; omega) (List.mem_map.2 ⟨(x, y), List.mem_of_getElem? ht, rfl⟩)
              have hqa : ab q ≤ 36028797018963968 := by
                rw [← hq]
                exact Int.le_trans (trunc_abs a y s (by omega) hy (by omega)) HA.out
              have hla : (truncs a s (pws l)).length = l.length := by rw [truncs_len]; unfold pws; rw [List.length_map]
              have hA2 := HA.out
              have hj2 : (j : Int) ≤ 31 := by omega
              have hw : IntKind.i64.wrap (a - sm - q) = a - (sm + q) := by unfold ab at hsb hqa hA2; rw [IntKind.wrap_i64]; omega
              have hsb2 : ab (sm + q) ≤ ((j + 1 : Nat) : Int) * 36028797018963968 := by unfold ab at hsb hqa ⊢; omega
              rw [hq] at hget
              have HC := Lib.hid hcall
              have HB2 := Lib.hid hsb2
              have HNL := HN.out
              have c0z := zeros_at (j := j) hla (by omega)
              have hzs := zeros_set (n := l.length) hget (by omega)
              have hsm2 : sm + q = sumI ((truncs a s (pws l)).take (j + 1)) := by rw [take_next hget, sumI_snoc, ← hsm]
              have HS2 := Lib.hid hsm2
              have HZS := Lib.hid hzs
              have HZ := Lib.hid c0z
              have HNL2 := Lib.hid HNL
              clear hcall hq hy hqa hla hA2 hsb2 hsb hget c0z hzs hsm2 hsm HNL ht
              have oA := oQ.alloc (.cells #[.int .i64 x, .int .i64 y] 34)
              go_wp2_with fail
              refine (HC.out _ _ oA).mono ?_
              rintro e3 w3 ⟨rfl, o3, k3⟩
              have c1 := (o3.up 1).cell j HZ.out
              have hf := (o3.up 1).frozen
              have hlt3 := (o3.up 1).celLt
              have oS := (o3.up 1).setCell j (.int .i64 q)
              rw [HZS.out] at oS
              go_wp2
              go_roundw
              case rel => exact ⟨j + 1, sm + q, by go_num, rfl, by have := HNL2.out; omega, HS2.out, HB2.out, (oS.up 1).drop, ⟨k3.os.trans kQ.os, k3.tape.trans kQ.tape, k3.output.trans kQ.output⟩⟩
              case measure => simp [ivOf]; omega
            · have hjl : j = l.length := by have := HN.out; omega
              subst hjl
              have hla : (truncs a s (pws l)).length = l.length := by rw [truncs_len]; unfold pws; rw [List.length_map]
              rw [zeros_end hla] at oQ
              rw [List.take_of_length_le (by omega)] at hsm
              obtain ⟨q0, ds, hds⟩ : ∃ q0 ds, truncs a s (pws l) = q0 :: ds := by
                cases hT : truncs a s (pws l) with
                | nil => rw [hT] at hla; have := H0.out; simp at hla; exact absurd (List.eq_nil_of_length_eq_zero hla.symm) this
                | cons q0 ds => exact ⟨_, _, rfl⟩
              rw [hds] at oQ hsm
              have c1 := oQ.cell 0
              have hf := oQ.frozen
              have hlt3 := oQ.celLt
              obtain ⟨p0, hp0⟩ : ∃ p, l[0]? = some p := ⟨_, List.getElem?_eq_getElem (by have := HN.out; omega)⟩
              have hq0 : ab q0 ≤ 36028797018963968 := by
                have h1 := truncs_get a s hp0
                rw [hds] at h1
                have h2 := HRest.out p0 (List.mem_of_getElem? hp0)
                have e : q0 = (a * p0.2).tdiv s := by simpa using h1
                rw [e]
                refine Int.le_trans (trunc_abs a p0.2 s (by omega) ?_ (by have := HT1.out; have := HTp.out; omega)) HA.out
                rw [HT1.out]; exact mem_le_sumI (fun z hz => by
                obtain ⟨p, hp, rfl⟩ := List.mem_map.1 hz
                have := HRest.out p hp; omega) (List.mem_map.2 ⟨p0, List.mem_of_getElem? hp0, rfl⟩)
              have hA2 := HA.out
              have hw : IntKind.i64.wrap (q0 + (a - sm)) = q0 + (a - sm) := by have := HN.out; unfold ab at hsb hq0 hA2; rw [IntKind.wrap_i64]; omega
              have oS := oQ.setCell 0 (.int .i64 (q0 + (a - sm)))
              have HDS := Lib.hid hds
              have HSM := Lib.hid hsm
              have HNL2 := Lib.hid HN.out
              clear hds hsm hsb hq0 hA2 hp0 hla
              go_wp2
              go_ret2
              have hne := H0.out
              have hds := HDS.out
              rw [HT1.out] at hds
              have hsm := HSM.out
              rw [hsm] at oS
              have := sh_end hds (by have := HNL2.out; omega) oS (Calm.trans kQ ⟨rfl, rfl, rfl⟩) hne
              rw [← HNL2.out, ← hsm] at this
              exact this
end
end Go.Proofs.Ytalkmeclkjnjnaa
