/- The laws of chapter 10: FlowsFull. -/
import Derived.Test.YtladamlfbdbdgaaDoorFlK
import Derived.Laws.IdiomStrings
namespace Go.Proofs.YtladamlfbdbdgaaDoor
open Go.RowKit
open SP
section
variable {W w w' : World} {R : List SP} {b : Nat}
def nmI (i : Nat) : ByteArray := ⟨#[115, UInt8.ofNat (97 + i)]⟩
def tabI (i : Nat) : Tab := ⟨512, 1, (List.range i).map (fun (j : Nat) => (⟨(j : Int), nmI j, 1, 0⟩ : Sta)), []⟩
theorem errI : ∀ i : Fin 16, staErr (tabI i) (nmI i) 1 0 = 0 := by decide +kernel
theorem errT : staErr (tabI 16) ⟨#[116]⟩ 1 0 = 4 := by decide +kernel
theorem byteI (i : Nat) (h : i < 16) (w : World) : (convert 43 9 (.slice (some ⟨w.heap.size, 0, none⟩) 1 1)).run Tryd.prog (w.alloc (.cells #[.int .u8 (97 + (i : Int))] 5)) = .ok (.string ⟨#[UInt8.ofNat (97 + i)]⟩) (w.alloc (.cells #[.int .u8 (97 + (i : Int))] 5)) := by
  have h1 := run_convert_bytes_back (w.alloc (.cells #[.int .u8 (97 + (i : Int))] 5)) 43 9 5 ⟨w.heap.size, 0, none⟩ 1 [UInt8.ofNat (97 + i)] Tryd.underlying43 Tryd.underlying5 Tryd.underlying9 (by
    intro j hj
    have hj0 : j = 0 := by simp at hj; omega
    subst hj0
    have o := Own.nil w |>.alloc (.cells #[.int .u8 (97 + (i : Int))] 5)
    have c := Own.cell (T := 5) (vs := [.int .u8 (97 + (i : Int))]) o 0
    rw [show (⟨w.heap.size, 0, none⟩ : Addr).add 0 = ⟨w.heap.size, 0, none⟩ from rfl, c]
    simp only [List.getElem_cons_zero, Option.some.injEq, Value.int.injEq, true_and]
    rw [UInt8.toNat_ofNat']
    omega)
  exact h1
theorem tabI_step (i : Nat) (h : i < 16) : staErr (tabI i) (nmI i) 1 0 = 0 ∧ staId (tabI i) (nmI i) 1 0 = (i : Int) ∧ staT (tabI i) (nmI i) 1 0 = tabI (i + 1) := by
  have h0 := errI ⟨i, h⟩
  dsimp only at h0
  refine ⟨h0, ?_, ?_⟩
  · unfold staId
    rw [h0, if_pos rfl]
    simp [tabI]
  · unfold staT
    rw [h0, if_pos rfl]
    unfold tabI
    rw [List.range_succ, List.map_append]
    simp
def Ful2 (W : World) (b : Nat) (v : Value) (wr : World) : Prop :=
  ∃ (i : Nat) (T : Tab), v = .int .i64 (i : Int) ∧ i ≤ 32 ∧ T.Ok ∧ T.cap = 512 ∧ T.S.length = 16 ∧ T.F.length = i ∧ (∀ p ∈ T.F, p.2 = false) ∧ Own wr [FlowP b T, old W] ∧ Calm W wr
theorem totF_gone : ∀ (F : List (Flo × Bool)), (∀ p ∈ F, p.2 = false) → totF F = 0
  | [], _ => rfl
  | (f, c) :: F, h => by
    have h0 := h (f, c) (by simp)
    dsimp only at h0
    unfold totF
    rw [h0, totF_gone F (fun p hp => h p (by simp [hp]))]; rfl
theorem liveF_gone (F : List (Flo × Bool)) (h : ∀ p ∈ F, p.2 = false) : liveF F = [] := by
  unfold liveF
  rw [List.filter_eq_nil_iff.2 (fun p hp => by rw [h p hp]; decide)]; rfl
def FulRel (W : World) (b : Nat) (v : Value) (wr : World) : Prop :=
  ∃ i : Nat, v = .int .i64 (i : Int) ∧ i ≤ 16 ∧ (tabI i).Ok ∧ Own wr [FlowP b (tabI i), old W] ∧ Calm W wr
set_option maxHeartbeats 3200000 in
set_option maxRecDepth 100000 in
theorem flowsFull_walk (x : Int) (hx : (Lit.int .u8 x).wf = true) (w : World) (hW : TabsW w) :
    Calls Tryd.prog 5 #[.int .u8 x] w fun e w' => e = .returned (.bool true) ∧ Below w.heap.size w w' := by
  have oW := Own.start w
  have hk0 := Tab.Ok.new 512 1 (by omega) (by omega)
  go_enter Tryd.func5, Tryd.ntmps5
  go_wp2_with fail
  refine (flNew_spec 512 1 (by omega) (by omega) oW).mono ?_
  rintro e3 v3 ⟨b, rfl, o3, k3⟩
  have hrel0 : FulRel w b (.int .i64 0) v3 := ⟨0, rfl, by omega, hk0, o3, k3⟩
  clear o3 k3
  go_wp2
  go_loopw [5] (fun v wr => FulRel w b v wr) (fun v _ => 16 - (intOf v).toNat)
  case atStart => exact hrel0
  case round =>
    clear hrel0
    obtain ⟨i, rfl, hi, hT, oR, kR⟩ := hrel
    by_cases hlt : i < 16
    · obtain ⟨e1, e2, e3⟩ := tabI_step i hlt
      have hT2 := hT.staT (nmI i) 1 0
      rw [e3] at hT2
      have hcv := byteI i hlt wr
      have o2 := oR.more (.cells #[.int .u8 (97 + (i : Int))] 5)
      have hs := addStation_spec (b := b) (nmI i) 1 0 hT (by show 2 ≤ 2000000; omega) hW o2
      rw [e1, e2, e3] at hs
      have hcat : (⟨#[115]⟩ : ByteArray) ++ ⟨#[UInt8.ofNat (97 + i)]⟩ = nmI i := rfl
      have hli : (i : Int) < 16 := by omega
      clear e1 e2 e3
      generalize UInt8.ofNat (97 + i) = bt at hcv hcat
      generalize nmI i = nn at hcat hs
      go_wp2_with fail
      refine hs.mono ?_
      rintro e6 w6 ⟨rfl, o6, k6⟩
      clear hs
      go_wp2
      go_roundw
      case rel => exact ⟨i + 1, by go_num, by omega, hT2, o6, kR.trans k6.al⟩
      case measure => simp [intOf]; omega
    · have hie : i = 16 := by omega
      subst hie
      have hs := addStation_spec (b := b) ⟨#[116]⟩ 1 0 hT (by decide) hW oR
      have e2 : staId (tabI 16) ⟨#[116]⟩ 1 0 = 0 := by unfold staId; rw [errT]; rfl
      have e3 : staT (tabI 16) ⟨#[116]⟩ 1 0 = tabI 16 := by unfold staT; rw [errT]; rfl
      rw [errT, e2, e3] at hs
      clear e2 e3
      go_wp2_with fail
      refine hs.mono ?_
      rintro e6 w6 ⟨rfl, o6, k6⟩
      clear hs
      have hrel2 : Ful2 w b (.int .i64 0) w6 := ⟨0, tabI 16, rfl, by omega, hT, rfl, by simp [tabI], rfl, by intro p hp; simp [tabI] at hp, o6, kR.trans k6⟩
      clear hT oR kR o6 k6 hlt
      have hx2 : 0 ≤ x ∧ x ≤ 255 := by simpa [Lit.wf, IntKind.min, IntKind.max, IntKind.signed, IntKind.bits] using hx
      have HX := Lib.hid hx2
      clear hx hx2
      go_wp2
      go_loopw [10] (fun v wr => Ful2 w b v wr) (fun v _ => 32 - (intOf v).toNat)
      case atStart => exact hrel2
      case round =>
        clear hrel2
        obtain ⟨i, T, rfl, hi, hT, hcap, hS, hF, hg, oR, kR⟩ := hrel
        have hx2 := HX.out
        by_cases hlt : i < 32
        · obtain ⟨q, hq⟩ : ∃ q, (i : Int) % 16 = q := ⟨_, rfl⟩
          obtain ⟨y, hy⟩ : ∃ y, 1 + x % 16 = y := ⟨_, rfl⟩
          have hq2 : 0 ≤ q ∧ q < 16 := by omega
          have hy2 : 1 ≤ y ∧ y ≤ 16 := by omega
          have ht0 := totF_gone T.F hg
          have hE : floErr T q y = 0 := by
            unfold floErr
            rw [if_neg (by omega), if_neg (by unfold badW; omega), if_neg (by omega), if_neg (by omega)]
          have e2 : floId T q y = (i : Int) := by unfold floId; rw [hE, if_pos rfl, hF]
          have e3 : floT T q y = { T with F := T.F ++ [(newF T q y, true)] } := by unfold floT; rw [hE, if_pos rfl]
          have hfs := addFlow_spec q y hT oR
          have hT2 := hT.floT q y
          rw [hE, e2, e3] at hfs
          rw [e3] at hT2
          have hget : getF (T.F ++ [(newF T q y, true)]) (i : Int) = some (newF T q y) := by
            unfold getF
            rw [if_neg (by omega), Int.toNat_natCast, ← hF, List.getElem?_append_right (by omega), Nat.sub_self]; rfl
          have e4 : rmErr { T with F := T.F ++ [(newF T q y, true)] } (i : Int) = 0 := by unfold rmErr; dsimp only; rw [hget]
          have e5 : rmT { T with F := T.F ++ [(newF T q y, true)] } (i : Int) = { T with F := T.F ++ [(newF T q y, false)] } := by
            unfold rmT; dsimp only; rw [hget]; dsimp only
            rw [Int.toNat_natCast, ← hF, List.set_append_right _ _ (by omega), Nat.sub_self]; rfl
          have hT3 := hT2.rmT (i : Int)
          rw [e5] at hT3
          have hrs := fun (w1 : World) (o : Own w1 [FlowP b { T with F := T.F ++ [(newF T q y, true)] }, old w]) => remove_spec (i : Int) hT2 o
          rw [e4, e5] at hrs
          have HRS := Lib.hid hrs
          have HQ := Lib.hid hq
          have HY := Lib.hid hy
          clear hE e2 e3 e4 e5 hget hrs
          go_wp2_with fail
          refine hfs.mono ?_
          rintro e7 w7 ⟨rfl, o7, k7⟩
          clear hfs
          go_wp2_with fail
          refine (HRS.out _ o7).mono ?_
          rintro e8 w8 ⟨rfl, o8, k8⟩
          go_wp2
          go_roundw
          case rel =>
            refine ⟨i + 1, _, by go_num, by omega, hT3, hcap, hS, by simp; omega, ?_, o8, kR.trans (k7.trans k8)⟩
            intro p hp
            rcases List.mem_append.1 hp with hp | hp
            · exact hg p hp
            · simp at hp; subst hp; rfl
          case measure => simp [intOf]; omega
        · have hie : i = 32 := by omega
          subst hie
          have hE : floErr T 0 1 = 4 := by
            unfold floErr
            rw [if_neg (by omega), if_neg (by unfold badW; omega), if_pos hF]
          obtain ⟨e2, e3⟩ := addFlow_err hE (by omega)
          have hfs := addFlow_spec 0 1 hT oR
          rw [hE, e2, e3] at hfs
          have hfl := fun (w1 : World) (o : Own w1 [FlowP b T, old w]) => flows_spec hT o
          rw [liveF_gone T.F hg] at hfl
          have HFL := Lib.hid hfl
          clear hE e2 e3 hfl hF hcap hS
          go_wp2_with fail
          refine hfs.mono ?_
          rintro e7 w7 ⟨rfl, o7, k7⟩
          clear hfs
          go_wp2_with fail
          refine (HFL.out _ o7).mono ?_
          rintro e8 w8 ⟨a8, c8, rfl, o8, k8⟩
          go_wp2_with fail
          refine (awake10_spec hW (o8.re [2, 0, 1])).mono ?_
          rintro e9 w9 ⟨rfl, o9, k9⟩
          go_wp2
          go_ret
          exact ⟨rfl, o9.below (kR.trans (k7.trans (k8.trans k9)))⟩
end
end Go.Proofs.YtladamlfbdbdgaaDoor
