/- The laws of chapter 10: FlowsNames. -/
import Derived.Test.YtladamlfbdbdgaaDoorFlK
namespace Go.Proofs.YtladamlfbdbdgaaDoor
open Go.RowKit
open SP
section
variable {W w w' : World} {R : List SP} {b : Nat}
/-- The table behind the first name. -/
def tab1 (a : ByteArray) : Tab := staT ⟨10, 1, [], []⟩ a 1 0
def tab2 (a c : ByteArray) : Tab := staT (tab1 a) c 1 0
theorem err1 (a : ByteArray) : staErr ⟨10, 1, [], []⟩ a 1 0 = if nameB a.data.toList = true then 0 else 1 := by
  unfold staErr
  cases h : nameB a.data.toList with
  | false => rw [if_pos (.inl rfl)]; rfl
  | true =>
    rw [if_neg (by unfold badW; simp), if_pos rfl]
    unfold findT
    rw [if_pos h]; rfl
theorem tab1_no {a : ByteArray} (h : nameB a.data.toList = false) : tab1 a = ⟨10, 1, [], []⟩ := by
  unfold tab1 staT
  rw [err1, h]; rfl
theorem tab1_ok {a : ByteArray} (h : nameB a.data.toList = true) : tab1 a = ⟨10, 1, [⟨0, a, 1, 0⟩], []⟩ := by
  unfold tab1 staT
  rw [err1, h]; rfl
theorem k1Ok (a : ByteArray) : (tab1 a).Ok := (Tab.Ok.new 10 1 (by omega) (by omega)).staT a 1 0
theorem k2Ok (a c : ByteArray) : (tab2 a c).Ok := (k1Ok a).staT c 1 0
/-- The second answer, where both are names. -/
theorem err2 {a c : ByteArray} (ha : nameB a.data.toList = true) (hc : nameB c.data.toList = true) : staErr (tab1 a) c 1 0 = if foldR a.data.toList = foldR c.data.toList then 7 else 0 := by
  rw [tab1_ok ha]
  unfold staErr
  rw [if_neg (by rw [hc]; unfold badW; simp)]
  unfold findT
  rw [if_pos hc]
  unfold findG
  split
  · rfl
  · rfl
/-- What is found where the first is no name: number 0. -/
theorem find_no {a c s : ByteArray} (ha : nameB a.data.toList = false) {id : Int} (h : findT (tab2 a c).S s = some id) : id = 0 := by
  have h1 : (tab2 a c).S = [] ∨ (tab2 a c).S = [⟨0, c, 1, 0⟩] := by
    unfold tab2
    rw [tab1_no ha]
    unfold staT
    split
    · exact .inr rfl
    · exact .inl rfl
  unfold findT at h
  split at h
  · rcases h1 with h1 | h1 <;> rw [h1] at h
    · cases h
    · unfold findG at h
      split at h
      · simp at h; exact h.symm
      · cases h
  · cases h
theorem find_ok {a c s : ByteArray} (ha : nameB a.data.toList = true) {id : Int} (h : findT (tab2 a c).S s = some id) : (id = 0 ∧ cmpS s a = 0) ∨ (id = 1 ∧ cmpS s c = 0) := by
  unfold findT at h
  split at h
  · rename_i hs
    have h1 : (tab2 a c).S = [⟨0, a, 1, 0⟩] ∨ ((tab2 a c).S = [⟨0, a, 1, 0⟩, ⟨1, c, 1, 0⟩] ∧ nameB c.data.toList = true) := by
      unfold tab2
      have hE : staErr (tab1 a) c 1 0 = 0 → nameB c.data.toList = true := by
        intro h0
        unfold staErr at h0
        split at h0
        · omega
        · rename_i hb
          cases hc : nameB c.data.toList with
          | true => rfl
          | false => exact absurd (.inl hc) hb
      unfold staT
      split
      · rename_i h0
        refine .inr ⟨?_, hE h0⟩
        rw [tab1_ok ha]; rfl
      · rw [tab1_ok ha]; exact .inl rfl
    have hsame : ∀ x : ByteArray, nameB x.data.toList = true → foldR x.data.toList = foldR s.data.toList → cmpS s x = 0 := by
      intro x hx hq
      unfold cmpS
      rw [if_pos hs, if_pos hx, hq]
      exact (cmpN_eq _ _).2 rfl
    rcases h1 with h1 | ⟨h1, hc⟩
    · rw [h1] at h
      unfold findG at h
      split at h
      · rename_i hq
        simp at h
        exact .inl ⟨h.symm, hsame a ha hq⟩
      · cases h
    · rw [h1] at h
      unfold findG at h
      split at h
      · rename_i hq
        simp at h
        exact .inl ⟨h.symm, hsame a ha hq⟩
      · unfold findG at h
        split at h
        · rename_i hq
          simp at h
          exact .inr ⟨h.symm, hsame c hc hq⟩
        · cases h
  · cases h
theorem find_self {a c : ByteArray} (ha : nameB a.data.toList = true) : findT (tab2 a c).S a = some 0 := by
  have h1 : ∃ l, (tab2 a c).S = ⟨0, a, 1, 0⟩ :: l := by
    unfold tab2 staT
    rw [tab1_ok ha]
    split
    · exact ⟨_, rfl⟩
    · exact ⟨_, rfl⟩
  obtain ⟨l, h1⟩ := h1
  unfold findT
  rw [if_pos ha, h1]
  unfold findG
  rw [if_pos rfl]

theorem flowsNames_big (a0 : Option Addr) (len0 cap0 : Nat) (z0 : List Int) (s : ByteArray) (hs : 100 < s.size) (hs2 : s.size ≤ 9223372036854775807) (w : World) (w0 : IsRow .i64 w a0 len0 cap0 z0) :
    Calls Tryd.prog 4 #[.slice a0 len0 cap0, .string s] w fun e w' => e = .returned (.bool true) ∧ Below w.heap.size w w' := by
  have oW := Own.start w
  have g1 : decide (100 < (s.size : Int)) = true := decide_eq_true (by omega)
  go_enter Tryd.func4, Tryd.ntmps4
  go_wp2_with fail
  refine (genNew_spec a0 len0 cap0 z0 w0 oW).mono ?_
  rintro e1 v1 ⟨cb, rfl, o1, k1⟩
  go_wp2_with fail
  refine (flNew_spec 10 1 (by omega) (by omega) o1).mono ?_
  rintro e3 v3 ⟨b, rfl, o3, k3⟩
  go_wp2
  go_ret
  exact ⟨rfl, (o3.re [2]).below (k1.trans k3)⟩

set_option maxHeartbeats 6400000 in
set_option maxRecDepth 100000 in
theorem flowsNames_small (a0 : Option Addr) (len0 cap0 : Nat) (z0 : List Int) (s : ByteArray) (hs : s.size ≤ 100) (w : World) (w0 : IsRow .i64 w a0 len0 cap0 z0) (hW : TabsW w) :
    Calls Tryd.prog 4 #[.slice a0 len0 cap0, .string s] w fun e w' => e = .returned (.bool true) ∧ Below w.heap.size w w' := by
  have oW := Own.start w
  have g1 : decide (100 < (s.size : Int)) = false := decide_eq_false (by omega)
  go_enter Tryd.func4, Tryd.ntmps4
  go_wp2_with fail
  refine (genNew_spec a0 len0 cap0 z0 w0 oW).mono ?_
  rintro e1 v1 ⟨cb, rfl, o1, k1⟩
  go_wp2_with fail
  refine (flNew_spec 10 1 (by omega) (by omega) o1).mono ?_
  rintro e3 v3 ⟨b, rfl, o3, k3⟩
  go_wp2_with fail
  refine (genName_spec (W := w) (b := cb) 0 (by omega) (o3.re [1, 2, 0])).mono ?_
  rintro e4 v4 ⟨a, ha, rfl, o4, k4⟩
  go_wp2_with fail
  refine (genName_spec (W := w) (b := cb) (0 + 1) (by omega) o4).mono ?_
  rintro e5 v5 ⟨c, hc, rfl, o5, k5⟩
  have K5 := k1.trans (k3.trans (k4.trans k5))
  clear o1 o3 o4 k1 k3 k4 k5
  go_wp2_with fail
  refine (addStation_spec (b := b) a 1 0 (Tab.Ok.new 10 1 (by omega) (by omega)) (by omega) hW (o5.re [2, 1, 0])).mono ?_
  rintro e6 v6 ⟨rfl, o6, k6⟩
  obtain ⟨er1, hE1⟩ : ∃ er1, staErr ⟨10, 1, [], []⟩ a 1 0 = er1 := ⟨_, rfl⟩
  rw [hE1]
  have HE1 := Lib.hid hE1
  clear hE1
  generalize hid1 : staId ⟨10, 1, [], []⟩ a 1 0 = id1
  clear hid1
  have o6' : Own v6 (FlowP b (tab1 a) :: old w :: [Ch w cb (0 + 1 + 1)]) := o6
  go_wp2_with fail
  refine (addStation_spec (b := b) c 1 0 (k1Ok a) (by omega) hW o6').mono ?_
  rintro e7 v7 ⟨rfl, o7, k7⟩
  have o7' : Own v7 (FlowP b (tab2 a c) :: old w :: [Ch w cb (0 + 1 + 1)]) := o7
  have K7 := K5.trans (k6.trans k7)
  have hok := k2Ok a c
  clear o5 o6 o6' o7 k6 k7 K5
  cases hna : nameB a.data.toList with
  | false =>
    have HNO := Lib.hid (fun id (h : findT (tab2 a c).S s = some id) => find_no hna h)
    have HNA := Lib.hid hna
    have hE1 : er1 = 1 := by rw [← HE1.out, err1, hna]; rfl
    subst hE1
    generalize staErr (tab1 a) c 1 0 = er2
    generalize staId (tab1 a) c 1 0 = id2
    generalize tab2 a c = T2 at *
    clear hna
    have hva := validName_spec a (by omega) o7'
    rw [HNA.out] at hva
    go_wp2_with fail
    refine hva.mono ?_
    rintro e8 v8 ⟨rfl, o8, k8⟩
    clear hva
    go_wp2_with fail
    refine (find_spec (b := b) s hok (by omega) hW o8).mono ?_
    rintro e9 v9 ⟨rfl, o9, k9⟩
    have hfa := find_spec (b := b) a hok (by omega) hW o9
    have hfa0 : findT T2.S a = none := by unfold findT; rw [HNA.out]; rfl
    rw [hfa0] at hfa
    clear hfa0
    cases hX : findT T2.S s with
    | none =>
      clear hX
      unfold findV
      go_wp2_with fail
      refine hfa.mono ?_
      rintro e10 v10 ⟨rfl, o10, k10⟩
      clear hfa
      unfold findV
      go_wp2_with fail
      refine (awake10_spec hW (o10.re [1, 0])).mono ?_
      rintro e11 v11 ⟨rfl, o11, k11⟩
      go_wp2
      go_ret
      exact ⟨rfl, o11.below (K7.trans (k8.trans (k9.trans (k10.trans k11))))⟩
    | some id =>
      have hid := HNO.out id hX
      subst hid
      clear hX
      have hcm := fun (w1 : World) (o : Own w1 [FlowP b T2, old w, Ch w cb (0 + 1 + 1)]) => compareR_spec s a (by omega) (by omega) o
      have HCM := Lib.hid hcm
      clear hcm
      obtain ⟨z, hz⟩ : ∃ z, cmpS s a = z := ⟨_, rfl⟩
      rw [hz] at HCM
      clear hz
      unfold findV
      go_wp2_with fail
      refine hfa.mono ?_
      rintro e10 v10 ⟨rfl, o10, k10⟩
      clear hfa
      unfold findV
      go_wp2_with fail
      refine (HCM.out _ o10).mono ?_
      rintro e11 v11 ⟨rfl, o11, k11⟩
      by_cases hz : z = 0
      · subst hz
        go_wp2_with fail
        refine (awake10_spec hW (o11.re [1, 0])).mono ?_
        rintro e12 v12 ⟨rfl, o12, k12⟩
        go_wp2
        go_ret
        exact ⟨rfl, o12.below (K7.trans (k8.trans (k9.trans (k10.trans (k11.trans k12)))))⟩
      · have hz' : (z != 0) = true := by simpa using hz
        go_wp2_with fail
        refine (awake10_spec hW (o11.re [1, 0])).mono ?_
        rintro e12 v12 ⟨rfl, o12, k12⟩
        go_wp2
        go_ret
        exact ⟨rfl, o12.below (K7.trans (k8.trans (k9.trans (k10.trans (k11.trans k12)))))⟩
  | true =>
    have HOK := Lib.hid (fun id (h : findT (tab2 a c).S s = some id) => find_ok hna h)
    have hE1 : er1 = 0 := by rw [← HE1.out, err1, hna]; rfl
    subst hE1
    have hself := find_self (c := c) hna
    have HNA := Lib.hid hna
    have hva := validName_spec a (by omega) o7'
    rw [hna] at hva
    obtain ⟨er2, hE2⟩ : ∃ er2, staErr (tab1 a) c 1 0 = er2 := ⟨_, rfl⟩
    rw [hE2]
    have HE2 := Lib.hid hE2
    generalize staId (tab1 a) c 1 0 = id2
    generalize tab2 a c = T2 at *
    clear hna hE2
    go_wp2_with fail
    refine hva.mono ?_
    rintro e8 v8 ⟨rfl, o8, k8⟩
    clear hva
    -- what follows the first test, for either second name
    have hvc := validName_spec c (by omega) o8
    obtain ⟨nc, hnc⟩ : ∃ nc, nameB c.data.toList = nc := ⟨_, rfl⟩
    rw [hnc] at hvc
    have HNC := Lib.hid hnc
    clear hnc
    cases nc with
    | false =>
      go_wp2_with fail
      refine hvc.mono ?_
      rintro e8b v8b ⟨rfl, o8b, k8b⟩
      clear hvc
      go_wp2_with fail
      refine (find_spec (b := b) s hok (by omega) hW o8b).mono ?_
      rintro e9 v9 ⟨rfl, o9, k9⟩
      have hfa := find_spec (b := b) a hok (by omega) hW o9
      rw [hself] at hfa
      cases hX : findT T2.S s with
      | none =>
        clear hX
        unfold findV
        go_wp2_with fail
        refine hfa.mono ?_
        rintro e10 v10 ⟨rfl, o10, k10⟩
        clear hfa
        unfold findV
        go_wp2_with fail
        refine (awake10_spec hW (o10.re [1, 0])).mono ?_
        rintro e11 v11 ⟨rfl, o11, k11⟩
        go_wp2
        go_ret
        exact ⟨rfl, o11.below ((K7.trans (k8.trans k8b)).trans (k9.trans (k10.trans k11)))⟩
      | some id =>
        have hid := HOK.out id hX
        clear hX
        rcases hid with ⟨rfl, hz⟩ | ⟨rfl, hz⟩
        · have hcm := fun (w1 : World) (o : Own w1 [FlowP b T2, old w, Ch w cb (0 + 1 + 1)]) => compareR_spec s a (by omega) (by omega) o
          rw [hz] at hcm
          have HCM := Lib.hid hcm
          clear hcm hz
          unfold findV
          go_wp2_with fail
          refine hfa.mono ?_
          rintro e10 v10 ⟨rfl, o10, k10⟩
          clear hfa
          unfold findV
          go_wp2_with fail
          refine (HCM.out _ o10).mono ?_
          rintro e11 v11 ⟨rfl, o11, k11⟩
          go_wp2_with fail
          refine (awake10_spec hW (o11.re [1, 0])).mono ?_
          rintro e12 v12 ⟨rfl, o12, k12⟩
          go_wp2
          go_ret
          exact ⟨rfl, o12.below ((K7.trans (k8.trans k8b)).trans (k9.trans (k10.trans (k11.trans k12))))⟩
        · have hcm := fun (w1 : World) (o : Own w1 [FlowP b T2, old w, Ch w cb (0 + 1 + 1)]) => compareR_spec s c (by omega) (by omega) o
          rw [hz] at hcm
          have HCM := Lib.hid hcm
          clear hcm hz
          unfold findV
          go_wp2_with fail
          refine hfa.mono ?_
          rintro e10 v10 ⟨rfl, o10, k10⟩
          clear hfa
          unfold findV
          go_wp2_with fail
          refine (HCM.out _ o10).mono ?_
          rintro e11 v11 ⟨rfl, o11, k11⟩
          go_wp2_with fail
          refine (awake10_spec hW (o11.re [1, 0])).mono ?_
          rintro e12 v12 ⟨rfl, o12, k12⟩
          go_wp2
          go_ret
          exact ⟨rfl, o12.below ((K7.trans (k8.trans k8b)).trans (k9.trans (k10.trans (k11.trans k12))))⟩
    | true =>
      go_wp2_with fail
      refine hvc.mono ?_
      rintro e8b v8b ⟨rfl, o8b, k8b⟩
      clear hvc
      have hac := compareR_spec a c (by omega) (by omega) o8b
      have hcs : cmpS a c = cmpN (foldR a.data.toList) (foldR c.data.toList) := by unfold cmpS; rw [if_pos HNA.out, if_pos HNC.out]
      rw [hcs] at hac
      have he2 := err2 HNA.out HNC.out
      rw [HE2.out] at he2
      by_cases hq : foldR a.data.toList = foldR c.data.toList
      · rw [if_pos hq] at he2
        rw [(cmpN_eq _ _).2 hq] at hac
        subst he2
        clear hq hcs
        go_wp2_with fail
        refine hac.mono ?_
        rintro e8c v8c ⟨rfl, o8c, k8c⟩
        clear hac
        go_wp2_with fail
        refine (find_spec (b := b) s hok (by omega) hW o8c).mono ?_
        rintro e9 v9 ⟨rfl, o9, k9⟩
        have hfa := find_spec (b := b) a hok (by omega) hW o9
        rw [hself] at hfa
        cases hX : findT T2.S s with
        | none =>
          clear hX
          unfold findV
          go_wp2_with fail
          refine hfa.mono ?_
          rintro e10 v10 ⟨rfl, o10, k10⟩
          clear hfa
          unfold findV
          go_wp2_with fail
          refine (awake10_spec hW (o10.re [1, 0])).mono ?_
          rintro e11 v11 ⟨rfl, o11, k11⟩
          go_wp2
          go_ret
          exact ⟨rfl, o11.below ((K7.trans (k8.trans (k8b.trans k8c))).trans (k9.trans (k10.trans k11)))⟩
        | some id =>
          have hid := HOK.out id hX
          clear hX
          rcases hid with ⟨rfl, hz⟩ | ⟨rfl, hz⟩
          · have hcm := fun (w1 : World) (o : Own w1 [FlowP b T2, old w, Ch w cb (0 + 1 + 1)]) => compareR_spec s a (by omega) (by omega) o
            rw [hz] at hcm
            have HCM := Lib.hid hcm
            clear hcm hz
            unfold findV
            go_wp2_with fail
            refine hfa.mono ?_
            rintro e10 v10 ⟨rfl, o10, k10⟩
            clear hfa
            unfold findV
            go_wp2_with fail
            refine (HCM.out _ o10).mono ?_
            rintro e11 v11 ⟨rfl, o11, k11⟩
            go_wp2_with fail
            refine (awake10_spec hW (o11.re [1, 0])).mono ?_
            rintro e12 v12 ⟨rfl, o12, k12⟩
            go_wp2
            go_ret
            exact ⟨rfl, o12.below ((K7.trans (k8.trans (k8b.trans k8c))).trans (k9.trans (k10.trans (k11.trans k12))))⟩
          · have hcm := fun (w1 : World) (o : Own w1 [FlowP b T2, old w, Ch w cb (0 + 1 + 1)]) => compareR_spec s c (by omega) (by omega) o
            rw [hz] at hcm
            have HCM := Lib.hid hcm
            clear hcm hz
            unfold findV
            go_wp2_with fail
            refine hfa.mono ?_
            rintro e10 v10 ⟨rfl, o10, k10⟩
            clear hfa
            unfold findV
            go_wp2_with fail
            refine (HCM.out _ o10).mono ?_
            rintro e11 v11 ⟨rfl, o11, k11⟩
            go_wp2_with fail
            refine (awake10_spec hW (o11.re [1, 0])).mono ?_
            rintro e12 v12 ⟨rfl, o12, k12⟩
            go_wp2
            go_ret
            exact ⟨rfl, o12.below ((K7.trans (k8.trans (k8b.trans k8c))).trans (k9.trans (k10.trans (k11.trans k12))))⟩
      · rw [if_neg hq] at he2
        have hne : cmpN (foldR a.data.toList) (foldR c.data.toList) ≠ 0 := fun h => hq ((cmpN_eq _ _).1 h)
        obtain ⟨z, hz⟩ : ∃ z, cmpN (foldR a.data.toList) (foldR c.data.toList) = z := ⟨_, rfl⟩
        rw [hz] at hac hne
        have hz0 : (z == 0) = false := by simpa using hne
        subst he2
        clear hq hcs hne hz
        go_wp2_with fail
        refine hac.mono ?_
        rintro e8c v8c ⟨rfl, o8c, k8c⟩
        clear hac
        go_wp2_with fail
        refine (find_spec (b := b) s hok (by omega) hW o8c).mono ?_
        rintro e9 v9 ⟨rfl, o9, k9⟩
        have hfa := find_spec (b := b) a hok (by omega) hW o9
        rw [hself] at hfa
        cases hX : findT T2.S s with
        | none =>
          clear hX
          unfold findV
          go_wp2_with fail
          refine hfa.mono ?_
          rintro e10 v10 ⟨rfl, o10, k10⟩
          clear hfa
          unfold findV
          go_wp2_with fail
          refine (awake10_spec hW (o10.re [1, 0])).mono ?_
          rintro e11 v11 ⟨rfl, o11, k11⟩
          go_wp2
          go_ret
          exact ⟨rfl, o11.below ((K7.trans (k8.trans (k8b.trans k8c))).trans (k9.trans (k10.trans k11)))⟩
        | some id =>
          have hid := HOK.out id hX
          clear hX
          rcases hid with ⟨rfl, hz⟩ | ⟨rfl, hz⟩
          · have hcm := fun (w1 : World) (o : Own w1 [FlowP b T2, old w, Ch w cb (0 + 1 + 1)]) => compareR_spec s a (by omega) (by omega) o
            rw [hz] at hcm
            have HCM := Lib.hid hcm
            clear hcm hz
            unfold findV
            go_wp2_with fail
            refine hfa.mono ?_
            rintro e10 v10 ⟨rfl, o10, k10⟩
            clear hfa
            unfold findV
            go_wp2_with fail
            refine (HCM.out _ o10).mono ?_
            rintro e11 v11 ⟨rfl, o11, k11⟩
            go_wp2_with fail
            refine (awake10_spec hW (o11.re [1, 0])).mono ?_
            rintro e12 v12 ⟨rfl, o12, k12⟩
            go_wp2
            go_ret
            exact ⟨rfl, o12.below ((K7.trans (k8.trans (k8b.trans k8c))).trans (k9.trans (k10.trans (k11.trans k12))))⟩
          · have hcm := fun (w1 : World) (o : Own w1 [FlowP b T2, old w, Ch w cb (0 + 1 + 1)]) => compareR_spec s c (by omega) (by omega) o
            rw [hz] at hcm
            have HCM := Lib.hid hcm
            clear hcm hz
            unfold findV
            go_wp2_with fail
            refine hfa.mono ?_
            rintro e10 v10 ⟨rfl, o10, k10⟩
            clear hfa
            unfold findV
            go_wp2_with fail
            refine (HCM.out _ o10).mono ?_
            rintro e11 v11 ⟨rfl, o11, k11⟩
            go_wp2_with fail
            refine (awake10_spec hW (o11.re [1, 0])).mono ?_
            rintro e12 v12 ⟨rfl, o12, k12⟩
            go_wp2
            go_ret
            exact ⟨rfl, o12.below ((K7.trans (k8.trans (k8b.trans k8c))).trans (k9.trans (k10.trans (k11.trans k12))))⟩

theorem flowsNames_walk (a0 : Option Addr) (len0 cap0 : Nat) (z0 : List Int) (s : ByteArray) (w : World) (w0 : IsRow .i64 w a0 len0 cap0 z0) (w1 : s.size ≤ maxLen) (hW : TabsW w) :
    Calls Tryd.prog 4 #[.slice a0 len0 cap0, .string s] w fun e w' => e = .returned (.bool true) ∧ Below w.heap.size w w' := by
  by_cases hs : s.size ≤ 100
  · exact flowsNames_small a0 len0 cap0 z0 s hs w w0 hW
  · exact flowsNames_big a0 len0 cap0 z0 s (by omega) (by unfold maxLen at w1; omega) w w0
end
end Go.Proofs.YtladamlfbdbdgaaDoor
