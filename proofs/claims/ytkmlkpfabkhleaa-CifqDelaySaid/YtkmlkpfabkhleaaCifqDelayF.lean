/- Texts that the law rests on, put together by a program. -/
import Derived.Test.YtkmlkpfabkhleaaCifqDelayE
/- CifqSteady, walked. -/
namespace Go.Proofs.Ytkmlkpfabkhleaa
open Go.RowKit
open SP
section
variable {W w w' : World} {R : List SP} {b N cb K : Nat} {num den reb : Int} {s : Cq} {Sp : SP}

theorem headC_good (h : Head) (H : List Head) : (flat headC (h :: H)).set 2 (.bool true) = flat headC ({ h with good := true } :: H) := rfl
theorem wt_rng {ws : List Int} (h : WtOk ws) : ∀ w ∈ ws, 1 ≤ w ∧ w ≤ 16 := fun w hw => by rcases h w hw with h | h | h <;> omega
theorem stW_flows (ws : List Int) : (stW ws).R.L.map (·.f) = idI ws.length := by
  show (lw ws).map (·.f) = _
  unfold lw idI
  rw [List.map_map]; rfl
theorem below_of {l : List SP} (o : Own w' (old w :: l)) (k : Calm w w') : Below w.heap.size w w' := o.below k

/-- A slot of the laws: heads are drawn, maybe turned, and the slot is done. -/
def SlRel (W : World) (b cb M n : Nat) (nu de : Nat) (reb : Int) (a1 : Option Addr) (c1 : Nat) (k0 B : Nat) (w : World) (v : Value) (wr : World) : Prop :=
  ∃ (i : Nat) (s : Cq), v = .int .i64 (i : Int) ∧ i ≤ B ∧ CqInv (k0 + i) (k0 + i) (k0 + i) s ∧ s.R.L.map (·.f) = idI n ∧
    Own wr (CqF b (nu : Int) (de : Int) reb (k0 + i) s :: slc 3 1 a1 n c1 ((idI n).map (Value.int .i64)) :: Ch W cb (M + 10 * i) :: old W :: []) ∧ Calm w wr

set_option maxHeartbeats 6400000 in
set_option maxRecDepth 100000 in
theorem cifqSteady_walk (a0 : Option Addr) (len0 cap0 : Nat) (z0 : List Int) (w : World) (w0 : IsRow .i64 w a0 len0 cap0 z0) :
    Calls Try.prog 3 #[.slice a0 len0 cap0] w fun e w' => e = .returned (.bool true) ∧ Below w.heap.size w w' := by
  have oW := Own.start w
  go_enter Try.func3, Try.ntmps3
  go_wp2_with fail
  refine (genNew_spec a0 len0 cap0 z0 w0 oW).mono ?_
  rintro e1 v1 ⟨cb, rfl, o1, k1⟩
  go_wp2_with fail
  refine (next_spec w cb 0 3 _ _ (by omega) (by omega) (by omega) o1).mono ?_
  rintro e2 v2 ⟨x, hx0, hx1, rfl, o2, k2⟩
  have hwr := IntWalk.i64_in (2 + x) (by omega)
  go_wp2_with fail
  refine (alpha_spec (by omega) o2).mono ?_
  rintro e3 v3 ⟨nu, de, hA, rfl, o3, k3⟩
  obtain ⟨n, hn⟩ : ∃ n : Nat, 2 + x = (n : Int) := ⟨(2 + x).toNat, by omega⟩
  have hn5 : n ≤ 5 := by omega
  have hn2 : 2 ≤ n := by omega
  have hst := start_spec hA hn5 (by omega) o3
  rw [← hn] at hst
  clear hn
  go_wp2_with fail
  refine hst.mono ?_
  rintro e4 v4 ⟨b, reb, ws, a1, a2, c1, c2, hreb, hws, hwt, rfl, o4, k4⟩
  have K4 := k1.trans (k2.trans (k3.trans k4))
  clear hst hwr k1 k2 k3 k4 o1 o2 o3 oW
  have hI0 := stW_inv n ws hws (by omega) (wt_rng hwt)
  have hfl := stW_flows ws
  rw [hws] at hfl
  have hT : SlRel w b cb (0 + 1 + 1 + 1 + n) n nu de reb a1 c1 0 20 w (.int .i64 0) v4 := ⟨0, stW ws, rfl, by omega, hI0, hfl, o4.re [1, 2, 0] 1, K4⟩
  clear o4 K4 hI0 hfl
  go_wp2
  go_loopw [8] (fun v wr => SlRel w b cb (0 + 1 + 1 + 1 + n) n nu de reb a1 c1 0 20 w v wr) (fun v _ => 20 - (Lib.intOf v).toNat)
  case atStart => exact hT
  case round =>
    clear hT
    obtain ⟨i, s, rfl, hi, hI, hfl, oR, kR⟩ := hrel
    rw [Nat.zero_add] at hI oR
    by_cases hlt : i < 20
    · go_wp2_with fail
      refine (heads_spec (sz := 0) (.inl rfl) (intsAt_slc a1 n c1 (idI n) (idI_len n).symm) (c := c1) (idI_len n).symm (by omega) (by omega) (oR.re [2, 3, 1])).mono ?_
      rintro e5 v5 ⟨a5, c5, H, hH, rfl, o5, k5⟩
      have hHl : H.length = n := by rw [← idI_len n, ← hH.1, List.length_map]
      have hne : H ≠ [] := fun e => by rw [e] at hHl; simp at hHl; omega
      have hft := fits_of hfl hH.1 fun h hh => ⟨(hH.2 h hh).1, (hH.2 h hh).2.1⟩
      have hnx := hI.next (by omega) (by omega) (nu : Int) (de : Int) reb hft hne
      have hpt := ptsOf_flows (hI.next_pts (num := (nu : Int)) (den := (de : Int)) (reb := reb) (by omega) (by omega) hft hne)
      rw [idI_len] at o5 ⊢
      have hst := cqStep_ok (reb := reb) hI (by omega) (by omega) (by omega) hA (c := c5) (headsAt_slc (T := 41) a5 n c5 H hHl.symm) hHl.symm hft hne (o5.re [4, 0])
      go_wp2_with fail
      refine hst.mono ?_
      rintro e6 v6 ⟨rfl, o6, k6⟩
      clear hst
      have oF := Ch.upto (M := 0 + 1 + 1 + 1 + n + 10 * (i + 1)) ((o6.re [1] 1).re [1]) (by omega)
      go_wp2
      go_roundw
      case rel => exact ⟨i + 1, _, by go_num, by omega, by rw [Nat.zero_add]; exact hnx.2, by rw [hpt]; exact hfl, by rw [Nat.zero_add]; exact oF.re [1, 3, 0, 2], kR.trans (k5.trans k6)⟩
      case measure => simp [Lib.intOf]; omega
    · have hT : SlRel w b cb (0 + 1 + 1 + 1 + n + 10 * i) n nu de reb a1 c1 20 40 w (.int .i64 0) wr := by
        have : i = 20 := by omega
        subst this
        exact ⟨0, s, rfl, by omega, hI, hfl, oR, kR⟩
      clear oR kR hI hfl
      go_wp2
      go_loopw [9] (fun v wr => SlRel w b cb (0 + 1 + 1 + 1 + n + 10 * i) n nu de reb a1 c1 20 40 w v wr) (fun v _ => 40 - (Lib.intOf v).toNat)
      case atStart => exact hT
      case round =>
        clear hT
        obtain ⟨q, s, rfl, hq, hI, hfl, oR, kR⟩ := hrel
        by_cases hlt2 : q < 40
        · go_wp2_with fail
          refine (lagOf_spec hI 0 oR).mono ?_
          rintro e4 v4 ⟨rfl, o4, k4⟩
          go_wp2_with fail
          refine (heads_spec (sz := 0) (.inl rfl) (intsAt_slc a1 n c1 (idI n) (idI_len n).symm) (c := c1) (idI_len n).symm (by omega) (by omega) (o4.re [2, 3, 1])).mono ?_
          rintro e5 v5 ⟨a5, c5, H, hH, rfl, o5, k5⟩
          have hHl : H.length = n := by rw [← idI_len n, ← hH.1, List.length_map]
          rw [idI_len] at o5 ⊢
          obtain ⟨h0, tl, rfl⟩ : ∃ h0 tl, H = h0 :: tl := by
            cases H with
            | nil => simp at hHl; omega
            | cons h0 tl => exact ⟨h0, tl, rfl⟩
          have hf0 : h0.f = 0 := by
            have := hH.1
            obtain ⟨n', rfl⟩ : ∃ n', n = n' + 1 := ⟨n - 1, by omega⟩
            unfold idI at this
            rw [List.range_succ_eq_map] at this
            simp at this
            exact this.1
          obtain ⟨g, rfl, hc, hfz, hgl⟩ := o5.slc_cell (by omega)
          have d2 := hc 2 (.bool h0.good) rfl
          have hf2 := hfz 2
          have oS := o5.slc_set 2 (.bool true) (by rw [flat_length headC_len, List.length_cons]; omega)
          rw [headC_good] at oS
          have hft : fitsH s.R.L ({ h0 with good := true } :: tl) = true := fits_of hfl (by rw [← hH.1]; rfl) fun h hh => by
            rcases List.mem_cons.1 hh with rfl | hh
            · exact ⟨(hH.2 h0 (by simp)).1, (hH.2 h0 (by simp)).2.1⟩
            · exact ⟨(hH.2 h (by simp [hh])).1, (hH.2 h (by simp [hh])).2.1⟩
          have hne : ({ h0 with good := true } :: tl : List Head) ≠ [] := by simp
          have hgd : (headOf ({ h0 with good := true } :: tl) 0).good = true := by
            unfold headOf
            rw [List.find?_cons_of_pos (by simpa using hf0)]; rfl
          have hnx := hI.next (by omega) (by omega) (nu : Int) (de : Int) reb hft hne
          have hpt := ptsOf_flows (hI.next_pts (num := (nu : Int)) (den := (de : Int)) (reb := reb) (by omega) (by omega) hft hne)
          have hle := fun hz => hI.steady (num := (nu : Int)) (den := (de : Int)) (reb := reb) (by omega) (by omega) hft hne (f := 0) hgd hz
          have hst := cqStep_ok (reb := reb) hI (by omega) (by omega) (by omega) hA (c := c5) (headsAt_slc (T := 41) (some ⟨g, 0, none⟩) n c5 ({ h0 with good := true } :: tl) hHl.symm) hHl.symm hft hne (oS.re [4, 0])
          have HNX := Lib.hid hnx
          have HPT := Lib.hid hpt
          have HLE := Lib.hid hle
          clear hc hfz hnx hpt hle hgd hf0 hft
          obtain ⟨S', hS'⟩ : ∃ S', stepC (nu : Int) (de : Int) reb s ({ h0 with good := true } :: tl) = S' := ⟨_, rfl⟩
          rw [hS'] at hst
          have HS' := Lib.hid hS'
          clear hS'
          generalize lagO s.D 0 = L0 at *
          unfold chV at hst
          go_wp2_with fail
          refine hst.mono ?_
          rintro e6 v6 ⟨rfl, o6, k6⟩
          clear hst d2 hf2
          have oT := o6.alloc (.cells #[.int .i64 S'.1.ch, .int .i64 S'.1.sv, .int .i64 S'.1.why] 33)
          have hnx := HNX.out
          have hpt := HPT.out
          have hle := HLE.out
          rw [HS'.out] at hnx hpt hle
          have KT := kR.trans (k4.trans (k5.trans ((qcalm_set (Calm.refl v5)).trans (k6.trans (qcalm_alloc (x := .cells #[.int .i64 S'.1.ch, .int .i64 S'.1.sv, .int .i64 S'.1.why] 33) (Calm.refl v6))))))
          have oF := (oT.re [0, 2] 2).re [0, 3, 1, 2]
          clear HNX HPT HLE HS' oT o6 k6 oS o5 k5 o4 k4 kR oR
          by_cases hz : 0 ≤ L0
          · have hle := hle hz
            have hd : decide (0 ≤ L0) = true := by simpa using hz
            have hcall := lagOf_spec hnx.2 0 oF
            obtain ⟨A0, hA0⟩ : ∃ A0, lagO S'.2.2.D 0 = A0 := ⟨_, rfl⟩
            rw [hA0] at hcall hle
            have hd2 : decide (L0 < A0) = false := by simpa using hle
            have HNX := Lib.hid hnx
            have HPT := Lib.hid hpt
            clear hA0 hz hle hnx hpt
            go_wp2_with fail
            refine hcall.mono ?_
            rintro e7 v7 ⟨rfl, o7, k7⟩
            have oG := Ch.upto (M := 0 + 1 + 1 + 1 + n + 10 * i + 10 * (q + 1)) (o7.re [2]) (by omega)
            go_wp2
            go_roundw
            case rel => exact ⟨q + 1, _, by go_num, by omega, HNX.out.2, by rw [HPT.out]; exact hfl, oG.re [1, 2, 0, 3], KT.trans k7⟩
            case measure => simp [Lib.intOf]; omega
          · have hd : decide (0 ≤ L0) = false := by simpa using hz
            have HNX := Lib.hid hnx
            have HPT := Lib.hid hpt
            clear hz hle hnx hpt
            have oG := Ch.upto (M := 0 + 1 + 1 + 1 + n + 10 * i + 10 * (q + 1)) (oF.re [2]) (by omega)
            go_wp2
            go_roundw
            case rel => exact ⟨q + 1, _, by go_num, by omega, HNX.out.2, by rw [HPT.out]; exact hfl, oG.re [1, 2, 0, 3], KT⟩
            case measure => simp [Lib.intOf]; omega
        · go_wp2_with fail
          refine (awake24_spec oR).mono ?_
          rintro e8 v8 ⟨rfl, o8, k8⟩
          go_wp2
          go_ret
          exact ⟨rfl, below_of (o8.re [3]) (kR.trans k8)⟩
end
end Go.Proofs.Ytkmlkpfabkhleaa

/- CifqDelay, walked. -/
namespace Go.Proofs.Ytkmlkpfabkhleaa
open Go.RowKit
open SP
section
variable {W w w' : World} {R : List SP} {b N cb K : Nat} {num den reb : Int} {s : Cq} {Sp : SP}

def Dl1 (W : World) (b cb M n : Nat) (nu de : Nat) (reb sz : Int) (ws : List Int) (a1 a2 : Option Addr) (c1 c2 ab : Nat) (B : Nat) (w : World) (v : Value) (wr : World) : Prop :=
  ∃ (k : Nat) (s : Cq), v = .int .i64 (k : Int) ∧ k ≤ B ∧ CqInv 2 k k s ∧ CqLow s ∧ DInv sz (wP ws) (nu : Int) (de : Int) s ∧ s.R.L.map (·.f) = idI n ∧
    Own wr (CqF b (nu : Int) (de : Int) reb k s :: slc 3 1 a1 n c1 ((idI n).map (Value.int .i64)) :: slc 3 1 a2 n c2 (ws.map (Value.int .i64)) :: cel ab 30 [.int .i64 (nu : Int), .int .i64 (de : Int)] :: Ch W cb (M + 20 * k) :: old W :: []) ∧ Calm w wr
theorem al4At {x : Int} (h0 : 0 ≤ x) (h1 : x < 4) : ∃ j nu de : Nat, x = (j : Int) ∧ j < 4 ∧ AlOk nu de ∧ keepK (nu : Int) (de : Int) ≤ 4 ∧ ∀ (w' : World) (g : Nat) (R' : List SP), Own w' (cel g 30 [.int .i64 1, .int .i64 2, .int .i64 1, .int .i64 10, .int .i64 2, .int .i64 3, .int .i64 3, .int .i64 4] :: R') →
    w'.cell? ⟨g, j * 2, none⟩ = some (.int .i64 (nu : Int)) ∧ w'.cell? ⟨g, j * 2 + 1, none⟩ = some (.int .i64 (de : Int)) := by
  have : x = 0 ∨ x = 1 ∨ x = 2 ∨ x = 3 := by omega
  rcases this with rfl | rfl | rfl | rfl
  · exact ⟨0, 1, 2, rfl, by omega, ⟨by decide, by decide, by decide⟩, by decide, fun w' g R' o => ⟨o.cell 0, o.cell 1⟩⟩
  · exact ⟨1, 1, 10, rfl, by omega, ⟨by decide, by decide, by decide⟩, by decide, fun w' g R' o => ⟨o.cell 2, o.cell 3⟩⟩
  · exact ⟨2, 2, 3, rfl, by omega, ⟨by decide, by decide, by decide⟩, by decide, fun w' g R' o => ⟨o.cell 4, o.cell 5⟩⟩
  · exact ⟨3, 3, 4, rfl, by omega, ⟨by decide, by decide, by decide⟩, by decide, fun w' g R' o => ⟨o.cell 6, o.cell 7⟩⟩

def Dl2 (W : World) (b cb M n k0 : Nat) (nu de : Nat) (reb sz : Int) (P : List (Int × Int)) (f : Nat) (wf Mx d : Int) (a1 : Option Addr) (c1 : Nat) (w : World) (v : Value) (wr : World) : Prop :=
  ∃ (q : Nat) (s : Cq), v = .int .i64 (q : Int) ∧ (q : Int) ≤ d ∧ CqInv 2 (k0 + q) (k0 + q) s ∧ CqLow s ∧ DInv sz P (nu : Int) (de : Int) s ∧ s.R.L.map (·.f) = idI n ∧ Pot sz P (nu : Int) (de : Int) (f : Int) wf Mx s (d - q) ∧
    Own wr (CqF b (nu : Int) (de : Int) reb (k0 + q) s :: slc 3 1 a1 n c1 ((idI n).map (Value.int .i64)) :: Ch W cb (M + 20 * q) :: old W :: []) ∧ Calm w wr

set_option maxHeartbeats 12800000 in
set_option maxRecDepth 100000 in
theorem cifqDelay_walk (a0 : Option Addr) (len0 cap0 : Nat) (z0 : List Int) (nn : Int) (w : World) (w0 : IsRow .i64 w a0 len0 cap0 z0) (w1 : (Lit.int .u16 nn).wf = true) :
    Calls Try.prog 4 #[.slice a0 len0 cap0, .int .u16 nn] w fun e w' => e = .returned (.bool true) ∧ Below w.heap.size w w' := by
  have oW := Own.start w
  have hnn : 0 ≤ nn ∧ nn ≤ 65535 := by
    simp only [Lit.wf, Bool.and_eq_true, decide_eq_true_eq] at w1
    rw [show IntKind.u16.min = 0 from by decide, show IntKind.u16.max = 65535 from by decide] at w1
    exact w1
  obtain ⟨rz, hrz⟩ : ∃ rz, nn % 4096 = rz := ⟨_, rfl⟩
  have htm : Int.tmod nn 4096 = rz := by rw [Int.tmod_eq_emod_of_nonneg hnn.1]; exact hrz
  have hrz0 : 0 ≤ rz := by omega
  have hrz1 : rz < 4096 := by omega
  clear hrz w1
  go_enter Try.func4, Try.ntmps4
  go_wp2_with fail
  refine (genNew_spec a0 len0 cap0 z0 w0 oW).mono ?_
  rintro e1 v1 ⟨cb, rfl, o1, k1⟩
  have oA := o1.alloc (.cells #[.int .i64 1, .int .i64 2, .int .i64 1, .int .i64 10, .int .i64 2, .int .i64 3, .int .i64 3, .int .i64 4] 30)
  go_wp2_with fail
  refine (next_spec w cb 0 4 _ _ (by omega) (by omega) (by omega) (oA.re [1, 2, 0])).mono ?_
  rintro e2 v2 ⟨x, hx0, hx1, rfl, o2, k2⟩
  obtain ⟨ja, nu, de, rfl, hja, hA, hK4, hcell⟩ := al4At hx0 hx1
  obtain ⟨d0, d1⟩ := hcell _ _ _ (o2.up 2)
  have oB := (o2.re [2] 1).alloc (.cells #[.int .i64 (nu : Int), .int .i64 (de : Int)] 30)
  have K2 : Calm w v2 := k1.trans ((qcalm_alloc (Calm.refl v1)).trans k2)
  have q0 := Own.cell (T := 30) (vs := [.int .i64 (nu : Int), .int .i64 (de : Int)]) oB 0
  have q1 := Own.cell (T := 30) (vs := [.int .i64 (nu : Int), .int .i64 (de : Int)]) oB 1
  have oBd := oB.drew.re [1, 2, 0]
  go_wp2
  go_region_held3 (fun w' => w'.cell? ⟨v2.heap.size, 0, none⟩ = some (.int .i64 (nu : Int)) ∧ w'.cell? ⟨v2.heap.size, 1, none⟩ = some (.int .i64 (de : Int))) (go_keep) (first
    | (go_at_call 10; (with_reducible refine (next_spec w cb (0 + 1) 2 _ _ (by omega) (by omega) (by omega) oBd).mono ?_); rintro e3 v3 ⟨y, hy0, hy1, rfl, o3, k3⟩; have r0 := Own.cell (T := 30) (vs := [.int .i64 (nu : Int), .int .i64 (de : Int)]) (o3.up 2) 0; have r1 := Own.cell (T := 30) (vs := [.int .i64 (nu : Int), .int .i64 (de : Int)]) (o3.up 2) 1; obtain ⟨n, hn⟩ : ∃ n : Nat, 2 + y = (n : Int) := ⟨(2 + y).toNat, by omega⟩; have hn5 : n ≤ 3 := (by omega); have hn2 : 2 ≤ n := (by omega); have hst := fun (u : World) (R : List SP) (o : Own u (Ch w cb (0 + 1 + 1) :: old w :: R)) => start_spec (n := n) hA (by omega) (by omega) o; have hwr := IntWalk.i64_in (n : Int) (by omega))
    | (go_at_call 9; (with_reducible refine (hst _ _ o3).mono ?_); rintro e4 v4 ⟨b, reb, ws, a1, a2, c1, c2, hreb, hws, hwt, rfl, o4, k4⟩; have s0 := Own.cell (T := 30) (vs := [.int .i64 (nu : Int), .int .i64 (de : Int)]) (o4.up 5) 0; have s1 := Own.cell (T := 30) (vs := [.int .i64 (nu : Int), .int .i64 (de : Int)]) (o4.up 5) 1))
  have K4 : Calm w v4 := K2.trans ((qcalm_drew (qcalm_alloc (Calm.refl v2))).trans (k3.trans k4))
  clear hst hwr hn r0 r1 s0 s1 q0 q1 oBd oB d0 d1 hcell k1 k2 k3 k4 K2 o1 o2 o3 oA oW
  generalize v2.heap.size = ab at *
  have hwr1 := wt_rng hwt
  have hdi := stW_dinv (sz := 1 + rz) (num := (nu : Int)) (den := (de : Int)) hwr1 (by omega) (by omega) (by have := hA.pos; omega)
  have hI0 := (stW_inv n ws hws (by omega) hwr1).le (j := 2) (k := 0) (M := 0) (by omega) (by omega) (by omega)
  have hfl := stW_flows ws
  rw [hws] at hfl
  have v5 := IntWalk.i64_in (1 + rz) (by omega)
  have v6 := IntWalk.i64_in rz (by omega)
  obtain ⟨sz, hsz⟩ : ∃ sz, 1 + rz = sz := ⟨_, rfl⟩
  rw [hsz] at hdi
  have hs1 : 1 ≤ sz := by omega
  have hs2 : sz ≤ 4096 := by omega
  go_wp2_with fail
  refine (next_spec w cb (0 + 1 + 1 + 1 + n) (n : Int) _ _ (by omega) (by omega) (by omega) (o4.re [3, 4])).mono ?_
  rintro e5 v7 ⟨fi, hfi0, hfi1, rfl, o5, k5⟩
  obtain ⟨f, rfl⟩ : ∃ f : Nat, fi = (f : Int) := ⟨fi.toNat, by omega⟩
  have hfn : f < n := by omega
  have hT : Dl1 w b cb (0 + 1 + 1 + 1 + n + 1) n nu de reb sz ws a1 a2 c1 c2 ab 16 w (.int .i64 0) v7 := ⟨0, stW ws, rfl, by omega, hI0, stW_low ws, hdi, hfl, o5.re [4, 2, 3, 5, 0, 1], K4.trans k5⟩
  clear o4 o5 K4 k5 hI0 hdi hfl v5 v6 hsz htm hfi0 hfi1
  go_wp2
  go_loopw [13] (fun v wr => Dl1 w b cb (0 + 1 + 1 + 1 + n + 1) n nu de reb sz ws a1 a2 c1 c2 ab 16 w v wr) (fun v _ => 16 - (Lib.intOf v).toNat)
  case atStart => exact hT
  case round =>
    clear hT
    obtain ⟨k, s, rfl, hk, hI, hlow, hD, hfl, oR, kR⟩ := hrel
    go_wp2_with fail
    refine (next_spec w cb (0 + 1 + 1 + 1 + n + 1 + 20 * k) 10 _ _ (by omega) (by omega) (by omega) (oR.re [4, 5])).mono ?_
    rintro e6 v6 ⟨y, hy0, hy1, rfl, o6, k6⟩
    have K6 := kR.trans k6
    clear oR kR k6
    by_cases hlt : (k : Int) < 6 + y
    · have hdlt : decide ((k : Int) < 6 + y) = true := by simpa using hlt
      have hk16 : k ≤ 15 := by omega
      have hwy := IntWalk.i64_in (6 + y) (by omega)
      go_wp2_with fail
      refine (heads_spec (sz := sz) (.inr ⟨hs1, hs2⟩) (intsAt_slc a1 n c1 (idI n) (idI_len n).symm) (c := c1) (idI_len n).symm (by omega) (by omega) (o6.re [0, 1, 3])).mono ?_
      rintro e7 v7 ⟨a5, c5, H, hH, rfl, o7, k7⟩
      clear hwy
      rw [idI_len] at o7 ⊢
      have hHl : H.length = n := by rw [← idI_len n, ← hH.1, List.length_map]
      obtain ⟨h, hh⟩ : ∃ h, H[f]? = some h := ⟨_, List.getElem?_eq_getElem (by omega)⟩
      obtain ⟨g, rfl, hc, hfz, hgl⟩ := o7.slc_cell (by omega)
      have d2 := hc (f * 3 + 2) (.bool h.good) (flat_get headC_len H f 2 h hh (by omega))
      have hf2 := hfz (f * 3 + 2)
      have hset := fun (z : Bool) => (set_good hH.1 hh z).2.2
      have hfll : f * 3 + 2 < (flat headC H).length := by rw [flat_length headC_len]; omega
      have HHl := Lib.hid hHl
      have HH := Lib.hid hh
      have HSET := Lib.hid hset
      clear hc hfz hHl hh hset
      have K7 := K6.trans k7
      clear k7 K6 o6
      go_upto_region 12 with fail
      go_cut [15] (fun _ wc => ∃ z : Bool, Own wc (slc 41 3 (some ⟨g, 0, none⟩) n c5 (flat headC (H.set f { h with good := z })) :: Ch w cb (0 + 1 + 1 + 1 + n + 1 + 20 * k + 1 + 2 * n + 1) :: old w :: slc 3 1 a1 n c1 ((idI n).map (Value.int .i64)) :: CqF b (nu : Int) (de : Int) reb k s :: slc 3 1 a2 n c2 (ws.map (Value.int .i64)) :: cel ab 30 [.int .i64 (nu : Int), .int .i64 (de : Int)] :: []) ∧ Calm w wc)
      case first =>
        obtain ⟨gd, hgd⟩ : ∃ gd, h.good = gd := ⟨_, rfl⟩
        rw [hgd] at d2
        clear hgd
        cases gd with
        | false =>
          have oS := o7.slc_set (f * 3 + 2) (.bool false) hfll
          rw [← HSET.out] at oS
          go_wp2
          go_meet
          exact ⟨false, (Ch.upto (oS.re [1]) (by omega)).re [1, 0], K7.trans (qcalm_set (Calm.refl v7))⟩
        | true =>
          go_wp2_with fail
          refine (next_spec w cb (0 + 1 + 1 + 1 + n + 1 + 20 * k + 1 + 2 * n) 4 _ _ (by omega) (by omega) (by omega) (o7.re [1, 2])).mono ?_
          rintro e8 v8 ⟨q, hq0, hq1, rfl, o8, k8⟩
          obtain ⟨g8, hg8, hc8, hf8, hl8⟩ := (o8.up 2).slc_cell (by omega)
          cases hg8
          have d8 := hc8 (f * 3 + 2) (.bool h.good) (flat_get headC_len H f 2 h HH.out (by omega))
          have hz8 := hf8 (f * 3 + 2)
          have oS := (o8.up 2).slc_set (f * 3 + 2) (.bool (q == 0)) hfll
          rw [← HSET.out] at oS
          clear hc8 hf8
          go_wp2
          go_meet
          exact ⟨_, oS.re [0, 1, 2], K7.trans (k8.trans (qcalm_set (Calm.refl v8)))⟩
      case rest =>
        obtain ⟨z, oS, kS⟩ := hcut
        clear o7 K7 d2 hf2 hgl hfll
        obtain ⟨g1, g2, _⟩ := set_good hH.1 HH.out z
        have hsz : ∀ x ∈ H.set f { h with good := z }, x.len = sz := fun x hx => by
          rcases List.mem_or_eq_of_mem_set hx with hx | rfl
          · exact (hH.2 x hx).2.2 (by omega)
          · exact (hH.2 h (List.mem_of_getElem? HH.out)).2.2 (by omega)
        have hft := fits_of hfl g1 fun x hx => by rw [hsz x hx]; omega
        have hlen : (H.set f { h with good := z }).length = n := by rw [List.length_set]; exact HHl.out
        have hne : H.set f { h with good := z } ≠ [] := fun e => by rw [e] at hlen; simp at hlen; omega
        generalize H.set f { h with good := z } = H2 at *
        have hnx := hI.next (by omega) (by omega) (nu : Int) (de : Int) reb hft hne
        have hpt := ptsOf_flows (hI.next_pts (num := (nu : Int)) (den := (de : Int)) (reb := reb) (by omega) (by omega) hft hne)
        have hlw := hI.next_low (num := (nu : Int)) (den := (de : Int)) (reb := reb) (by omega) (by omega) hft hne (by omega) hlow
        have hPk : PtOk (wP ws) := wP_ok hwr1 (by omega)
        have hdn := hD.next (reb := reb) hI (by omega) (by omega) hft hne hsz hPk hs1 (by have := hA.pos; omega) (by have := hA.lt; omega)
        have hst := cqStep_ok (reb := reb) hI (by omega) (by omega) (by omega) hA (c := c5) (headsAt_slc (T := 41) (some ⟨g, 0, none⟩) n c5 H2 hlen.symm) hlen.symm hft hne (oS.re [4, 0])
        have hinv := (hnx.2.down hlw)
        have HINV := Lib.hid hinv
        have HPT := Lib.hid hpt
        have HLW := Lib.hid hlw
        have HDN := Lib.hid hdn
        obtain ⟨S', hS'⟩ : ∃ S', stepC (nu : Int) (de : Int) reb s H2 = S' := ⟨_, rfl⟩
        rw [hS'] at hst HINV HPT HLW HDN
        clear hinv hpt hlw hdn hnx hS' hft hsz g1 g2
        have HLEN := Lib.hid hlen
        clear hlen
        unfold chV at hst
        go_wp2_with fail
        refine hst.mono ?_
        rintro e9 v9 ⟨rfl, o9, k9⟩
        clear hst
        have oT := o9.alloc (.cells #[.int .i64 S'.1.ch, .int .i64 S'.1.sv, .int .i64 S'.1.why] 33)
        have KT := kS.trans (k9.trans (qcalm_alloc (x := .cells #[.int .i64 S'.1.ch, .int .i64 S'.1.sv, .int .i64 S'.1.why] 33) (Calm.refl v9)))
        have oF := Ch.upto (M := 0 + 1 + 1 + 1 + n + 1 + 20 * (k + 1)) ((oT.re [0, 2] 2).re [1]) (by omega)
        go_wp2
        go_roundw
        case rel => exact ⟨k + 1, S'.2.2, by go_num, by omega, HINV.out, HLW.out, HDN.out, by rw [HPT.out]; exact hfl, oF.re [1, 3, 4, 5, 0, 2], KT⟩
        case measure => simp [Lib.intOf]; omega
    · have hdlt : decide ((k : Int) < 6 + y) = false := by simpa using hlt
      have hwy := IntWalk.i64_in (6 + y) (by omega)
      have hlr := lag_rng hI (f : Int)
      obtain ⟨q, hq⟩ := hD.dv (f : Int)
      have hcl := lagOf_spec hI (f : Int) (o6.re [2])
      obtain ⟨L0, hL0⟩ : ∃ L0, lagO s.D (f : Int) = L0 := ⟨_, rfl⟩
      rw [hL0] at hcl hlr hq
      have HL0 := Lib.hid hL0
      have HQ := Lib.hid hq
      have hk16 : (k : Int) ≤ 16 := by omega
      have ht := tdiv_rng (a := L0 + sz - 1) (B := 200000) hs1 (by omega) (by omega)
      obtain ⟨pk, hpk⟩ : ∃ pk, Int.tdiv (L0 + sz - 1) sz = pk := ⟨_, rfl⟩
      rw [hpk] at ht
      have HPK := Lib.hid hpk
      have x1 := IntWalk.i64_in (L0 + sz) (by omega)
      have x2 := IntWalk.i64_in (L0 + sz - 1) (by omega)
      have x3 := IntWalk.i64_in pk (by omega)
      have x4 : sz ≠ 0 := by omega
      clear hL0 hq
      by_cases hLn : L0 ≤ 0
      · have hd1 : decide (L0 ≤ 0) = true := by simpa using hLn
        go_wp2_with fail
        refine hcl.mono ?_
        rintro e7 v7 ⟨rfl, o7, k7⟩
        clear hwy
        go_wp2_with fail
        refine (awake24_spec o7).mono ?_
        rintro e8 v8 ⟨rfl, o8, k8⟩
        go_wp2
        go_ret
        exact ⟨rfl, below_of (o8.re [2]) (K6.trans (k7.trans k8))⟩
      · have hd1 : decide (L0 ≤ 0) = false := by simpa using hLn
        by_cases hp4 : 4 < pk
        · have hd2 : decide (4 < pk) = true := by simpa using hp4
          go_wp2_with fail
          refine hcl.mono ?_
          rintro e7 v7 ⟨rfl, o7, k7⟩
          clear hwy
          go_wp2_with fail
          refine (awake24_spec o7).mono ?_
          rintro e8 v8 ⟨rfl, o8, k8⟩
          go_wp2
          go_ret
          exact ⟨rfl, below_of (o8.re [2]) (K6.trans (k7.trans k8))⟩
        · have hd2 : decide (4 < pk) = false := by simpa using hp4
          have hq1 : 1 ≤ q := by
            have h9 := HQ.out
            by_cases hq0 : q ≤ 0
            · have := Int.mul_nonneg (show 0 ≤ -q by omega) (show 0 ≤ sz by omega)
              rw [Int.neg_mul] at this
              omega
            · omega
          have hpq : pk = q := by rw [← HPK.out, HQ.out]; exact pk_of hs1 hq1
          have HPQ := Lib.hid hpq
          have hPk : PtOk (wP ws) := wP_ok hwr1 (by omega)
          have hfl3 : f < ws.length := by omega
          have hfP : ((f : Int), ws.getD f 0) ∈ wP ws := List.mem_of_getElem? (wP_get hfl3)
          have hpr : 0 ≤ pk ∧ pk ≤ 4 := by omega
          have hdc := fun (w : World) (R : List SP) (o : Own w (slc 3 1 a2 n c2 (ws.map (Value.int .i64)) :: R)) => delay_spec (c := c2) (p := pk) (intsAt_slc a2 n c2 ws hws.symm) hws.symm hwr1 hfn (by omega) hA hpr o
          have HDC := Lib.hid hdc
          clear hdc hpq hp4 hLn ht
          go_wp2_with fail
          refine hcl.mono ?_
          rintro e7 v7 ⟨rfl, o7, k7⟩
          clear hwy hcl
          have b0 := Own.cell (T := 30) (vs := [.int .i64 (nu : Int), .int .i64 (de : Int)]) (o7.up 5) 0
          have b1 := Own.cell (T := 30) (vs := [.int .i64 (nu : Int), .int .i64 (de : Int)]) (o7.up 5) 1
          go_wp2_with fail
          refine (HDC.out _ _ (o7.re [4])).mono ?_
          rintro e8 v8 ⟨Mx, hMx, hMx1, hMx2, rfl, o8, k8⟩
          have htw := turnW_bound hwr1 hfl3 (by omega)
          have m1 := mul_rng (show 0 ≤ keepK (nu : Int) (de : Int) + 1 by have := (keepK_bound hA).1; omega) (show keepK (nu : Int) (de : Int) + 1 ≤ 5 by omega) (show 0 ≤ Mx by omega) hMx2
          have m2 := mul_rng (show 0 ≤ turnW ws f by omega) htw.2 m1.1 m1.2
          have m3 := mul_rng hpr.1 hpr.2 m2.1 m2.2
          have hpot := pot_start (M := Mx) hD hI hPk hs1 (by have := hA.pos; omega) (by have := hA.lt; omega) (fun p hp => by obtain ⟨j, hj, rfl⟩ := wP_mem hp; exact hMx j hj) hfP (p := pk) (by rw [HL0.out, HQ.out, HPQ.out]) (by have := HPQ.out; omega)
          change Pot sz (wP ws) (nu : Int) (de : Int) (f : Int) (ws.getD f 0) Mx s (pk * (turnW ws f * ((keepK (nu : Int) (de : Int) + 1) * Mx))) at hpot
          obtain ⟨d, hd⟩ : ∃ d, pk * (turnW ws f * ((keepK (nu : Int) (de : Int) + 1) * Mx)) = d := ⟨_, rfl⟩
          rw [hd] at hpot m3 ⊢
          have hd0 : 0 ≤ d := m3.1
          have hd9 : d ≤ 147920 := by have := m3.2; omega
          have hMX : ∀ p ∈ wP ws, turnT (wP ws) p.1 p.2 ≤ Mx := fun p hp => by obtain ⟨j, hj, rfl⟩ := wP_mem hp; exact hMx j hj
          have HMX := Lib.hid hMX
          have hT2 : Dl2 w b cb (0 + 1 + 1 + 1 + n + 1 + 20 * k + 1) n k nu de reb sz (wP ws) f (ws.getD f 0) Mx d a1 c1 w (.int .i64 0) v8 := ⟨0, s, rfl, hd0, hI, hlow, hD, hfl, by rw [show d - ((0 : Nat) : Int) = d by omega]; exact hpot, (o8.re [0, 5] 2).re [0, 3, 1, 2], K6.trans (k7.trans k8)⟩
          clear m1 m2 m3 hpot hd b0 b1 o7 o8 k7 k8 K6 o6 hMx hMX x1 x2 x3
          go_wp2
          go_loopw [21] (fun v wr => Dl2 w b cb (0 + 1 + 1 + 1 + n + 1 + 20 * k + 1) n k nu de reb sz (wP ws) f (ws.getD f 0) Mx d a1 c1 w v wr) (fun v _ => (d - Lib.intOf v).toNat)
          case atStart => exact hT2
          case round =>
            clear hT2 hI hlow hD hfl
            obtain ⟨r, s, rfl, hr, hI, hlow, hD, hfl, hpot, oR, kR⟩ := hrel
            have hPk : PtOk (wP ws) := wP_ok hwr1 (by omega)
            by_cases hrd : (r : Int) < d
            · have hd3 : decide ((r : Int) < d) = true := by simpa using hrd
              go_wp2_with fail
              refine (heads_spec (sz := sz) (.inr ⟨hs1, hs2⟩) (intsAt_slc a1 n c1 (idI n) (idI_len n).symm) (c := c1) (idI_len n).symm (by omega) (by omega) (oR.re [2, 3, 1])).mono ?_
              rintro e7 v7 ⟨a5, c5, H, hH, rfl, o7, k7⟩
              rw [idI_len] at o7 ⊢
              have hHl : H.length = n := by rw [← idI_len n, ← hH.1, List.length_map]
              obtain ⟨h, hh⟩ : ∃ h, H[f]? = some h := ⟨_, List.getElem?_eq_getElem (by omega)⟩
              obtain ⟨g, rfl, hc, hfz, hgl⟩ := o7.slc_cell (by omega)
              have d2 := hc (f * 3 + 2) (.bool h.good) (flat_get headC_len H f 2 h hh (by omega))
              have hf2 := hfz (f * 3 + 2)
              obtain ⟨g1, g2, g3⟩ := set_good hH.1 hh true
              have oS := o7.slc_set (f * 3 + 2) (.bool true) (by rw [flat_length headC_len]; omega)
              rw [← g3] at oS
              have K7 := kR.trans (k7.trans (qcalm_set (x := ⟨g, f * 3 + 2, none⟩) (v := .bool true) (Calm.refl v7)))
              have hsz : ∀ x ∈ H.set f { h with good := true }, x.len = sz := fun x hx => by
                rcases List.mem_or_eq_of_mem_set hx with hx | rfl
                · exact (hH.2 x hx).2.2 (by omega)
                · exact (hH.2 h (List.mem_of_getElem? hh)).2.2 (by omega)
              have hgd : (headOf (H.set f { h with good := true }) (f : Int)).good = true := by rw [headOf_at g1 g2]
              have hft := fits_of hfl g1 fun x hx => by rw [hsz x hx]; omega
              have hlen : (H.set f { h with good := true }).length = n := by rw [List.length_set]; exact hHl
              have hne : H.set f { h with good := true } ≠ [] := fun e => by rw [e] at hlen; simp at hlen; omega
              clear g3 hc hfz k7 o7 kR oR
              generalize H.set f { h with good := true } = H2 at *
              have hnx := hI.next (by omega) (by omega) (nu : Int) (de : Int) reb hft hne
              have hpt := ptsOf_flows (hI.next_pts (num := (nu : Int)) (den := (de : Int)) (reb := reb) (by omega) (by omega) hft hne)
              have hlw := hI.next_low (num := (nu : Int)) (den := (de : Int)) (reb := reb) (by omega) (by omega) hft hne (by omega) hlow
              have hdn := hD.next (reb := reb) hI (by omega) (by omega) hft hne hsz hPk hs1 (by have := hA.pos; omega) (by have := hA.lt; omega)
              have hps := Pot.step (reb := reb) hpot hD hI (by omega) (by omega) hft hne hsz hPk hs1 (by have := hA.pos; omega) (by have := hA.lt; omega) HMX.out hfP hgd
              have hst := cqStep_ok (reb := reb) hI (by omega) (by omega) (by omega) hA (c := c5) (headsAt_slc (T := 41) (some ⟨g, 0, none⟩) n c5 H2 hlen.symm) hlen.symm hft hne (oS.re [4, 0])
              have HINV := Lib.hid (hnx.2.down hlw)
              have HPT := Lib.hid hpt
              have HLW := Lib.hid hlw
              have HDN := Lib.hid hdn
              have HPS := Lib.hid hps
              obtain ⟨S', hS'⟩ : ∃ S', stepC (nu : Int) (de : Int) reb s H2 = S' := ⟨_, rfl⟩
              rw [hS'] at hst HINV HPT HLW HDN HPS
              clear hpt hlw hdn hnx hps hS' hft hsz g1 g2 hgd hlen hHl hh
              unfold chV at hst
              go_wp2_with fail
              refine hst.mono ?_
              rintro e9 v9 ⟨rfl, o9, k9⟩
              clear hst d2 hf2
              have oT := o9.alloc (.cells #[.int .i64 S'.1.ch, .int .i64 S'.1.sv, .int .i64 S'.1.why] 33)
              have KT := K7.trans (k9.trans (qcalm_alloc (x := .cells #[.int .i64 S'.1.ch, .int .i64 S'.1.sv, .int .i64 S'.1.why] 33) (Calm.refl v9)))
              have hcl := lagOf_spec HINV.out (f : Int) (oT.re [1])
              obtain ⟨L1, hL1⟩ : ∃ L1, lagO S'.2.2.D (f : Int) = L1 := ⟨_, rfl⟩
              rw [hL1] at hcl
              have HL1 := Lib.hid hL1
              clear hL1
              by_cases hLn : L1 ≤ 0
              · have hd4 : decide (L1 ≤ 0) = true := by simpa using hLn
                go_wp2_with fail
                refine hcl.mono ?_
                rintro e10 v10 ⟨rfl, o10, k10⟩
                go_wp2_with fail
                refine (awake24_spec o10).mono ?_
                rintro e11 v11 ⟨rfl, o11, k11⟩
                go_wp2
                go_ret
                exact ⟨rfl, below_of (o11.re [4]) (KT.trans (k10.trans k11))⟩
              · have hd4 : decide (L1 ≤ 0) = false := by simpa using hLn
                have hpn := HPS.out
                rw [HL1.out] at hpn
                have hpot2 := hpn.resolve_left hLn
                have HP2 := Lib.hid hpot2
                clear hpn hpot2 hLn
                go_wp2_with fail
                refine hcl.mono ?_
                rintro e10 v10 ⟨rfl, o10, k10⟩
                have oF := Ch.upto (M := 0 + 1 + 1 + 1 + n + 1 + 20 * k + 1 + 20 * (r + 1)) ((o10.re [1, 2] 2).re [1]) (by omega)
                go_wp2
                go_roundw
                case rel => exact ⟨r + 1, S'.2.2, by go_num, by omega, HINV.out, HLW.out, HDN.out, by rw [HPT.out]; exact hfl, by rw [show d - ((r + 1 : Nat) : Int) = d - (r : Int) - 1 by omega]; exact HP2.out, oF.re [1, 3, 0, 2], KT.trans k10⟩
                case measure => simp [Lib.intOf]; omega
            · exfalso
              have := hpot.pos hPk hs1 (by have := hA.pos; omega) (by have := hA.lt; omega) (by omega) (by have := (hPk.rng _ hfP).2.2.1; exact this)
              omega
end
end Go.Proofs.Ytkmlkpfabkhleaa
