/- Texts that the law rests on, put together by a program. -/
import Derived.Test.YtjpahfkchhnpoaaGreatCifqScriptE
import Derived.Test.YtjpahfkchhnpoaaGreatCifqScriptI
import Derived.Test.YtjpahfkchhnpoaaGreatCifqScriptD
import Derived.Test.YtjpahfkchhnpoaaGreatCifqScriptJ
import Derived.Test.YtjpahfkchhnpoaaGreatCifqScriptK
/- Heads that are drawn. -/
namespace Go.Proofs.YtjpahfkchhnpoaaGreat
open Go.RowKit
open SP
section
variable {W w w' : World} {R : List SP} {b N : Nat} {Sp : SP}

def IntsAt (Sp : SP) (a : Option Addr) (F : List Int) : Prop := ∀ (w : World) (R : List SP), Own w (Sp :: R) → ∀ (i : Nat) (x : Int), F[i]? = some x → ∃ g, a = some ⟨g, 0, none⟩ ∧ w.cell? ⟨g, i, none⟩ = some (.int .i64 x)
theorem intsAt_slc {T : TypeId} (a : Option Addr) (n c : Nat) (F : List Int) (hn : n = F.length) : IntsAt (slc T 1 a n c (F.map (Value.int .i64))) a F := by
  intro w R o i x h
  have := (List.getElem?_eq_some_iff.1 h).1
  obtain ⟨g, h1, hc, _, _⟩ := o.slc_cell (by omega)
  exact ⟨g, h1, hc i _ (by rw [List.getElem?_map, h]; rfl)⟩
theorem Tryz.headT : ElemT Tryz.prog 83 87 3 24 := ElemT.mk' (z := .agg #[.int .i64 0, .int .i64 0, .bool false]) Tryz.underlying83 (by kernel_rfl) rfl (by decide)

def HdOk (sz : Int) (F : List Int) (H : List Head) : Prop := H.map (·.f) = F ∧ ∀ h ∈ H, 1 ≤ h.len ∧ h.len ≤ 4096 ∧ (sz ≠ 0 → h.len = sz)
def HdRel (W : World) (b N : Nat) (sz : Int) (F : List Int) (Sp : SP) (R : List SP) (w : World) (v7 v8 : Value) (wr : World) : Prop :=
  ∃ (i : Nat) (a' : Option Addr) (c' : Nat) (H : List Head), v8 = .int .i64 (i : Int) ∧ i ≤ F.length ∧ v7 = .slice a' i c' ∧ HdOk sz (F.take i) H ∧
    Own wr (slc 87 3 a' i c' (flat headC H) :: Ch W b (N + 2 * i) :: old W :: Sp :: R) ∧ Calm w wr
def HeadsPost (W : World) (b N : Nat) (sz : Int) (F : List Int) (Sp : SP) (R : List SP) (w : World) (e : Ending) (w' : World) : Prop :=
  ∃ (a : Option Addr) (c : Nat) (H : List Head), HdOk sz F H ∧ Ret (.slice a F.length c) (slc 87 3 a F.length c (flat headC H) :: Ch W b (N + 2 * F.length) :: old W :: Sp :: R) w e w'

set_option maxHeartbeats 3200000 in
set_option maxRecDepth 100000 in
theorem heads_spec {sz : Int} (hsz : sz = 0 ∨ 1 ≤ sz ∧ sz ≤ 4096) {F : List Int} {a : Option Addr} {n c : Nat} (hF : IntsAt Sp a F) (hn : n = F.length) (hl : n ≤ 32) (hN : N ≤ 800000000) (o : Own w (Ch W b N :: old W :: Sp :: R)) :
    Calls Tryz.prog 30 #[.pointer (some ⟨b, 0, none⟩), .slice a n c, .int .i64 sz] w (HeadsPost W b N sz F Sp R w) := by
  have Hn := Lib.hid hn
  have hT : HdRel W b N sz F Sp R w (.slice none 0 0) (.int .i64 0) w := ⟨0, none, 0, [], rfl, by omega, rfl, ⟨rfl, by simp⟩, Own.slc_nil o, Calm.refl w⟩
  clear o hn
  go_enter Tryz.func30, Tryz.ntmps30
  go_wp2
  go_loopw [7, 8] (fun v7 v8 wr => HdRel W b N sz F Sp R w v7 v8 wr) (fun _ v _ => n - (Lib.intOf v).toNat)
  case atStart => exact hT
  case round =>
    clear hT
    obtain ⟨i, a', c', H, rfl, hi, rfl, hH, oR, kR⟩ := hrel
    by_cases hlt : i < n
    · obtain ⟨x, hx⟩ : ∃ x, F[i]? = some x := ⟨_, List.getElem?_eq_getElem (by have := Hn.out; omega)⟩
      have hiN : N + 2 * i ≤ 800000100 := by omega
      have HX := Lib.hid hx
      clear hx
      obtain ⟨Z, hZ⟩ : ∃ Z, (sz == 0) = Z := ⟨_, rfl⟩
      go_upto_if 18 with fail
      go_cut [9] (fun v wc => ∃ l : Int, 1 ≤ l ∧ l ≤ 4096 ∧ (sz ≠ 0 → l = sz) ∧ v = .int .i64 l ∧ Own wc (slc 87 3 a' i c' (flat headC H) :: Ch W b (N + 2 * i + 1) :: old W :: Sp :: R) ∧ Calm w wc)
      case first =>
        cases Z with
        | true =>
          have h0 := Lib.hid (show sz = 0 by simpa using hZ)
          clear hZ
          have oC := oR.re [1, 2, 0]
          go_wp2_with fail
          refine (length_spec (W := W) (b := b) (N + 2 * i) (by omega) oC).mono ?_
          rintro e2 w2 ⟨l, hl1, hl2, rfl, o3, k3⟩
          go_wp2
          go_meet
          exact ⟨l, hl1, hl2, fun h => absurd h0.out h, rfl, o3.re [2, 0, 1], kR.trans k3⟩
        | false =>
          have h0 : sz ≠ 0 := by simpa using hZ
          clear hZ
          go_wp2
          go_meet
          exact ⟨sz, by omega, by omega, fun _ => rfl, rfl, (Ch.upto (oR.up 1) (by omega)).re [1, 0], kR⟩
      case rest =>
        obtain ⟨l, hl1, hl2, hl3, rfl, oS, kS⟩ := hcut
        clear oR kR hZ
        obtain ⟨g, rfl, d0⟩ := hF _ _ (oS.up 3) i x HX.out
        have oSd := oS.drew.re [1, 2, 0]
        go_wp2
        go_region_held3 (fun w' => w'.cell? ⟨g, i, none⟩ = some (.int .i64 x)) (go_keep) (first
          | (refine step_append_src rfl _ _ rfl Tryz.headT rfl (oX.up 3) rfl ⟨_, _, rfl, rfl, by intro u hu; simp only [List.mem_cons, List.not_mem_nil, or_false] at hu; rcases hu with rfl | rfl | rfl <;> rfl, .inr ⟨_, rfl, hnw⟩⟩ (by unfold maxLen; omega) (by omega) ?_; intro a2 c2 w5 o5 k5; obtain ⟨_, hh5, d5⟩ := hF _ _ (o5.up 4) i x HX.out; cases hh5)
          | (go_at_call 6; (with_reducible refine (next_spec W b (N + 2 * i + 1) 3 _ _ (by omega) (by omega) (by omega) oSd).mono ?_); rintro e2 w2 ⟨y, hy0, hy1, rfl, o3, k3⟩; obtain ⟨_, hh3, d3⟩ := hF _ _ (o3.up 3) i x HX.out; cases hh3; have oX := o3.alloc (.cells #[.int .i64 x, .int .i64 l, .bool (decide (0 < y))] 87); have hnw := Own.news (T := 87) (vs := [.int .i64 x, .int .i64 l, .bool (decide (0 < y))]) oX))
        go_wp2
        have hfl : flat headC H ++ [.int .i64 x, .int .i64 l, .bool (decide (0 < y))] = flat headC (H ++ [⟨x, l, decide (0 < y)⟩]) := by rw [flat_append]; rfl
        rw [hfl] at o5
        have K5 := (kS.trans ((qcalm_drew (Calm.refl wc)).trans k3)).trans ((qcalm_alloc (Calm.refl w2)).trans k5)
        have hH2 : HdOk sz (F.take (i + 1)) (H ++ [⟨x, l, decide (0 < y)⟩]) := by
          refine ⟨by rw [List.map_append, hH.1, List.take_add_one, HX.out]; rfl, fun h hh => ?_⟩
          rcases List.mem_append.1 hh with hh | hh
          · exact hH.2 h hh
          · have : h = ⟨x, l, decide (0 < y)⟩ := by simpa using hh
            subst this
            exact ⟨hl1, hl2, hl3⟩
        go_roundw
        case rel => exact ⟨i + 1, a2, c2, _, by go_num, by have := Hn.out; omega, rfl, hH2, o5.re [1] 1, K5⟩
        case measure => simp [Lib.intOf]; omega
    · have hin : i = F.length := by have := Hn.out; omega
      subst hin
      rw [List.take_length] at hH
      go_wp2
      go_ret
      exact ⟨a', c', H, hH, rfl, oR, kR⟩
end
end Go.Proofs.YtjpahfkchhnpoaaGreat

/- Cifq: the accounts. -/
namespace Go.Proofs.YtjpahfkchhnpoaaGreat
open Go.RowKit
open SP
section
variable {w w' : World} {R : List SP} {b rp lp cp xp nb N : Nat} {num den reb : Int} {s : Cq} {Sp : SP}

def accC (s : Cq) (t : Tg) : List Value := [.int .i64 t.f, .int .i64 t.w, .int .i64 (lagO s.D t.f), .int .i64 t.s, .int .i64 (cntO s.n t.f).1, .int .i64 (cntO s.n t.f).2, .int .i64 (tget s.C.tg t.f), .int .i64 (tget s.X.tg t.f), .int .i64 0, .int .i64 0]
theorem accC_len (s : Cq) (t : Tg) : (accC s t).length = 10 := rfl
theorem Tryz.accT : ElemT Tryz.prog 41 40 10 80 := ElemT.mk' (z := .agg #[.int .i64 0, .int .i64 0, .int .i64 0, .int .i64 0, .int .i64 0, .int .i64 0, .int .i64 0, .int .i64 0, .int .i64 0, .int .i64 0]) Tryz.underlying41 (by kernel_rfl) rfl (by decide)
theorem ordTag_still {C : Ord} (k : Int) (o : Own w (OrdR b reb C :: R)) : Calls Tryz.prog 36 #[.pointer (some ⟨b, 0, none⟩), .int .i64 k] w (IsRet (.int .i64 (tget C.tg k)) w) := by
  obtain ⟨eb, tb, o1⟩ := OrderR.iff.1 o
  have c2 := o1.cell 2
  have hlk := lookIL tb (o1.up 2) k false
  simp only [Bool.false_eq_true, if_false] at hlk
  go_enter Tryz.func36, Tryz.ntmps36
  go_wp2
  go_ret
  exact ⟨rfl, rfl⟩

def AcRel (b : Nat) (num den reb : Int) (rp lp cp xp nb N : Nat) (s : Cq) (at_ : Option Addr) (tc : Nat) (R : List SP) (w : World) (v3 v15 : Value) (wr : World) : Prop :=
  ∃ (i : Nat) (a' : Option Addr) (c' : Nat), v15 = .int .i64 (i : Int) ∧ i ≤ s.R.L.length ∧ v3 = .slice a' i c' ∧
    Own wr (slc 40 10 a' i c' (flat (accC s) (s.R.L.take i)) :: slc 94 3 at_ s.R.L.length tc (flat tagC s.R.L) :: SfqR rp reb s.R :: CqC b num den rp lp cp xp nb :: LagR lp N s.D :: mpI cntV nb s.n :: OrdR cp reb s.C :: OrdR xp reb s.X :: R) ∧ Calm w wr
def AccPost (b : Nat) (num den reb : Int) (N : Nat) (s : Cq) (R : List SP) (w : World) (e : Ending) (w' : World) : Prop :=
  ∃ (a : Option Addr) (c : Nat), Ret (.slice a s.R.L.length c) (slc 40 10 a s.R.L.length c (flat (accC s) s.R.L) :: CqF b num den reb N s :: R) w e w'

set_option maxHeartbeats 6400000 in
set_option maxRecDepth 100000 in
theorem cqAcc_spec (hl : s.R.L.length ≤ 32) (o : Own w (CqF b num den reb N s :: R)) :
    Calls Tryz.prog 11 #[.pointer (some ⟨b, 0, none⟩)] w (AccPost b num den reb N s R w) := by
  obtain ⟨rp, lp, cp, xp, nb, o1⟩ := CqF.iff.1 o
  have c2 := o1.cell 2
  have cl := o1.celLt
  go_enter Tryz.func11, Tryz.ntmps11
  go_wp2_with fail
  refine (sfqTags_spec (o1.re [1])).mono ?_
  rintro e2 w2 ⟨at_, tc, rfl, o2, k2⟩
  have hT : AcRel b num den reb rp lp cp xp nb N s at_ tc R w (.slice none 0 0) (.int .i64 0) w2 := ⟨0, none, 0, rfl, by omega, rfl, Own.slc_nil o2, k2⟩
  clear o2 k2 c2 cl o1 o
  go_wp2
  go_loopw [3, 15] (fun v3 v15 wr => AcRel b num den reb rp lp cp xp nb N s at_ tc R w v3 v15 wr) (fun _ v _ => s.R.L.length - (Lib.intOf v).toNat)
  case atStart => exact hT
  case round =>
    clear hT
    obtain ⟨i, a', c', rfl, hi, rfl, oR, kR⟩ := hrel
    by_cases hlt : i < s.R.L.length
    · obtain ⟨t, ht⟩ : ∃ t, s.R.L[i]? = some t := ⟨_, List.getElem?_eq_getElem (by omega)⟩
      have htk : s.R.L.take (i + 1) = s.R.L.take i ++ [t] := by rw [List.take_add_one, ht]; rfl
      have HTK := Lib.hid htk
      obtain ⟨g, rfl, hc, _, _⟩ := (oR.up 1).slc_cell (by omega)
      have d0 := hc (i * 3 + 0) _ (flat_get tagC_len s.R.L i 0 t ht (by omega))
      rw [Nat.add_zero] at d0
      have d1 := hc (i * 3 + 1) _ (flat_get tagC_len s.R.L i 1 t ht (by omega))
      have d2 := hc (i * 3 + 2) _ (flat_get tagC_len s.R.L i 2 t ht (by omega))
      change wr.cell? ⟨g, i * 3, none⟩ = some (.int .i64 t.f) at d0
      change wr.cell? ⟨g, i * 3 + 1, none⟩ = some (.int .i64 t.w) at d1
      change wr.cell? ⟨g, i * 3 + 2, none⟩ = some (.int .i64 t.s) at d2
      have HAC := Lib.hid (show flat (accC s) (s.R.L.take i) ++ accC s t = flat (accC s) (s.R.L.take (i + 1)) from by rw [htk, flat_append]; show _ = _ ++ (accC s t ++ []); rw [List.append_nil])
      clear hc ht htk
      have oA := oR.alloc (.cells #[.int .i64 t.f, .int .i64 t.w, .int .i64 t.s] 94)
      have x3 := (oA.up 4).cell 3
      have xl := (oA.up 4).celLt
      have y0 := Own.cell (T := 94) (vs := [.int .i64 t.f, .int .i64 t.w, .int .i64 t.s]) oA 0
      obtain ⟨z, hz⟩ := lagV_eq s.D t.f
      have hcall := lagLag_spec t.f (oA.drew.re [5])
      rw [hz] at hcall
      clear hz
      go_wp2
      go_region_held3 (fun w' => w'.cell? ⟨b, 3, none⟩ = some (.pointer (some ⟨lp, 0, none⟩)) ∧ w'.cell? ⟨wr.heap.size, 0, none⟩ = some (.int .i64 t.f)) (go_keep) (first | (go_at_call 35; (with_reducible refine hcall.mono ?_); rintro e3 w3 ⟨rfl, o3, k3⟩; have z3 := (o3.up 5).cell 3; have zl := (o3.up 5).celLt; have z0 := Own.cell (T := 94) (vs := [.int .i64 t.f, .int .i64 t.w, .int .i64 t.s]) (o3.up 1) 0))
      have K3 : Calm w w3 := kR.trans ((qcalm_drew (qcalm_alloc (Calm.refl wr))).trans k3)
      clear hcall k3 x3 xl y0 oA z3 zl z0 d0 d1 d2
      have hlk := fun (w : World) (R : List SP) (o : Own w (mpI cntV nb s.n :: R)) => lookC o t.f
      unfold cntV at hlk
      have hacc : accC s t = [.int .i64 t.f, .int .i64 t.w, .int .i64 (lagO s.D t.f), .int .i64 t.s, .int .i64 (cntO s.n t.f).1, .int .i64 (cntO s.n t.f).2, .int .i64 (tget s.C.tg t.f), .int .i64 (tget s.X.tg t.f), .int .i64 0, .int .i64 0] := rfl
      have hac := HAC.out
      rw [hacc] at hac
      generalize cntO s.n t.f = cn at *
      obtain ⟨cr, cl⟩ := cn
      dsimp only at hlk hac
      have HAC := Lib.hid hac
      have HLK := Lib.hid hlk
      clear hlk hacc hac
      go_wp2
      refine wp_region_draws (fun L v wc => Own wc (Pb (L 7) (L 8) (v 7) 98 [.int .i64 0, .int .i64 0] [.int .i64 cr, .int .i64 cl] :: LagR lp N s.D :: cel wr.heap.size 94 [.int .i64 t.f, .int .i64 t.w, .int .i64 t.s] :: slc 40 10 a' i c' (flat (accC s) (s.R.L.take i)) :: slc 94 3 (some ⟨g, 0, none⟩) s.R.L.length tc (flat tagC s.R.L) :: SfqR rp reb s.R :: CqC b num den rp lp cp xp nb :: mpI cntV nb s.n :: OrdR cp reb s.C :: OrdR xp reb s.X :: R) ∧ Calm w wc ∧ OVals (fun i => ([some (.pointer (some ⟨b, 0, none⟩)), some (.pointer (some ⟨b, 0, none⟩)), some (.pointer (some ⟨b, 6, none⟩)), some (.map (some nb)), some (.pointer (some ⟨wr.heap.size, 0, none⟩)), some (.int .i64 t.f), some (.agg #[.int .i64 cr, .int .i64 cl]), none, none] : List (Option Value)).getD i none) L v) (by kernel_rfl) (by kernel_rfl) (by kernel_rfl) ?h0 ?step ?fin
      case h0 => exact ⟨Pb.no o3.drew, qcalm_drew K3, OVals.no⟩
      case step =>
        refine ⟨DrawStep.mk rfl ?_, DrawStep.mk rfl ?_, DrawStep.mk rfl ?_, DrawStep.mk rfl ?_, DrawStep.mk rfl ?_, DrawStep.mk rfl ?_, DrawStep.mk rfl ?_, DrawStep.mk rfl ?_, DrawStep.mk rfl ?_, trivial⟩
        all_goals intro L v actZ wc hL hd hA hI K' hK
        all_goals obtain ⟨oD, kD, hv⟩ := hI
        all_goals simp [Region.binds] at hd
        all_goals have HV := Lib.hid hv
        all_goals clear hv
        · have c0_ := hA.base 0 (by rfl)
          simp only [List.getElem?_toArray, List.getElem?_cons_zero, Option.getD_some] at c0_
          go_simp
          exact hK.out (.pointer (some ⟨b, 0, none⟩)) _ ⟨oD, kD, HV.out.put 0 (fun _ h => some_eq h)⟩
        · have h0_ : L 0 = true := by simp [hd]
          have c29_ : actZ.tmps[29]?.getD undef = .pointer (some ⟨b, 0, none⟩) := (hA.get 0 h0_).trans (HV.out 0 _ rfl h0_)
          go_simp
          exact hK.out (.pointer (some ⟨b, 0, none⟩)) _ ⟨oD, kD, HV.out.put 1 (fun _ h => some_eq h)⟩
        · have h1_ : L 1 = true := by simp [hd]
          have c30_ : actZ.tmps[30]?.getD undef = .pointer (some ⟨b, 0, none⟩) := (hA.get 1 h1_).trans (HV.out 1 _ rfl h1_)
          go_simp
          exact hK.out (.pointer (some ⟨b, 6, none⟩)) _ ⟨oD, kD, HV.out.put 2 (fun _ h => some_eq h)⟩
        · have h2_ : L 2 = true := by simp [hd]
          have c31_ : actZ.tmps[31]?.getD undef = .pointer (some ⟨b, 6, none⟩) := (hA.get 2 h2_).trans (HV.out 2 _ rfl h2_)
          have u_ := (oD.up 6).cell 6
          go_simp
          exact hK.out (.map (some nb)) _ ⟨oD, kD, HV.out.put 3 (fun _ h => some_eq h)⟩
        · have c5_ := hA.base 5 (by rfl)
          simp only [List.getElem?_toArray, List.getElem?_cons_zero, List.getElem?_cons_succ, Option.getD_some] at c5_
          go_simp
          exact hK.out (.pointer (some ⟨wr.heap.size, 0, none⟩)) _ ⟨oD, kD, HV.out.put 4 (fun _ h => some_eq h)⟩
        · have h4_ : L 4 = true := by simp [hd]
          have c33_ : actZ.tmps[33]?.getD undef = .pointer (some ⟨wr.heap.size, 0, none⟩) := (hA.get 4 h4_).trans (HV.out 4 _ rfl h4_)
          have u_ := Own.cell (T := 94) (vs := [.int .i64 t.f, .int .i64 t.w, .int .i64 t.s]) (oD.up 2) 0
          go_simp
          exact hK.out (.int .i64 t.f) _ ⟨oD, kD, HV.out.put 5 (fun _ h => some_eq h)⟩
        · have h3_ : L 3 = true := by simp [hd]
          have c32_ : actZ.tmps[32]?.getD undef = .map (some nb) := (hA.get 3 h3_).trans (HV.out 3 _ rfl h3_)
          have h5_ : L 5 = true := by simp [hd]
          have c34_ : actZ.tmps[34]?.getD undef = .int .i64 t.f := (hA.get 5 h5_).trans (HV.out 5 _ rfl h5_)
          have u_ := HLK.out _ _ (oD.up 7)
          go_simp
          exact hK.out (.agg #[.int .i64 cr, .int .i64 cl]) _ ⟨oD, kD, HV.out.put 6 (fun _ h => some_eq h)⟩
        · rw [hL] at oD
          go_simp
          exact hK.out _ _ ⟨Pb.new oD, qcalm_alloc kD, HV.out.put 7 (fun _ h => by cases h)⟩
        · have h7_ : L 7 = true := by simp [hd]
          have c8_ := hA.get 7 h7_
          have h6_ : L 6 = true := by simp [hd]
          have c35_ : actZ.tmps[35]?.getD undef = .agg #[.int .i64 cr, .int .i64 cl] := (hA.get 6 h6_).trans (HV.out 6 _ rfl h6_)
          rw [h7_, hL] at oD
          obtain ⟨gN, hgN, oN⟩ := Pb.val oD
          rw [hgN] at c8_
          have hgN := Lib.hid hgN
          have n0_ := oN.cell 0
          have n1_ := oN.cell 1
          have nf_ := oN.frozen
          have nl_ := oN.celLt
          go_simp
          have oY := (oN.setCell 0 (.int .i64 cr)).setCell 1 (.int .i64 cl)
          have oQ := Pb.put (l := L 7) (v := v 7) (zs := [.int .i64 0, .int .i64 0]) oY h7_ hgN.out
          exact hK.out undef _ ⟨oQ, qcalm_set (qcalm_set kD), HV.out.put 8 (fun _ h => by cases h)⟩
      case fin =>
        rintro L v wc hall ⟨oD, kD, hv⟩
        rw [hall 7 (by decide), hall 8 (by decide)] at oD
        obtain ⟨gN, hgN, oN⟩ := Pb.got oD
        clear hv hall oD K3
        simp only [putAll, Act.put, List.setIfInBounds_toArray, List.set_cons_zero, List.set_cons_succ]
        have b4 := (oN.up 6).cell 4
        have b5 := (oN.up 6).cell 5
        have bl := (oN.up 6).celLt
        have t0 := Own.cell (T := 94) (vs := [.int .i64 t.f, .int .i64 t.w, .int .i64 t.s]) (oN.up 2) 0
        have t1 := Own.cell (T := 94) (vs := [.int .i64 t.f, .int .i64 t.w, .int .i64 t.s]) (oN.up 2) 1
        have t2 := Own.cell (T := 94) (vs := [.int .i64 t.f, .int .i64 t.w, .int .i64 t.s]) (oN.up 2) 2
        have tl := Own.celLt (T := 94) (vs := [.int .i64 t.f, .int .i64 t.w, .int .i64 t.s]) (oN.up 2)
        have n0 := oN.cell 0
        have n1 := oN.cell 1
        have nl := oN.celLt
        have ct1 := ordTag_still t.f (oN.drew.re [8])
        have ct2 := ordTag_still t.f (oN.drew.re [9])
        generalize lagO s.D t.f = lg at *
        generalize tget s.C.tg t.f = gc at *
        generalize tget s.X.tg t.f = gx at *
        have oX := (oN.alloc (.cells #[.int .i64 t.f, .int .i64 t.w, .int .i64 lg, .int .i64 t.s, .int .i64 cr, .int .i64 cl, .int .i64 gc, .int .i64 gx, .int .i64 0, .int .i64 0] 40)).drew
        have hnw := Own.news (T := 40) oX
        go_wp2
        go_region_held3 (fun w' => w'.cell? ⟨b, 4, none⟩ = some (.pointer (some ⟨cp, 0, none⟩)) ∧ w'.cell? ⟨b, 5, none⟩ = some (.pointer (some ⟨xp, 0, none⟩)) ∧ w'.cell? ⟨wr.heap.size, 0, none⟩ = some (.int .i64 t.f) ∧ w'.cell? ⟨wr.heap.size, 1, none⟩ = some (.int .i64 t.w) ∧ w'.cell? ⟨wr.heap.size, 2, none⟩ = some (.int .i64 t.s) ∧ w'.cell? ⟨gN, 0, none⟩ = some (.int .i64 cr) ∧ w'.cell? ⟨gN, 1, none⟩ = some (.int .i64 cl)) (go_keep) (first
          | (refine step_append_src rfl _ _ rfl Tryz.accT rfl (oX.up 4) rfl ⟨_, _, rfl, rfl, by intro u hu; simp only [List.mem_cons, List.not_mem_nil, or_false] at hu; rcases hu with rfl | rfl | rfl | rfl | rfl | rfl | rfl | rfl | rfl | rfl <;> rfl, .inr ⟨_, rfl, hnw⟩⟩ (by unfold maxLen; omega) (by omega) ?_; intro a2 c2 w5 o5 k5; have f4 := (o5.up 7).cell 4; have f5 := (o5.up 7).cell 5; have e0 := Own.cell (T := 94) (vs := [.int .i64 t.f, .int .i64 t.w, .int .i64 t.s]) (o5.up 4) 0; have e1 := Own.cell (T := 94) (vs := [.int .i64 t.f, .int .i64 t.w, .int .i64 t.s]) (o5.up 4) 1; have e2 := Own.cell (T := 94) (vs := [.int .i64 t.f, .int .i64 t.w, .int .i64 t.s]) (o5.up 4) 2; have m0 := (o5.up 2).cell 0; have m1 := (o5.up 2).cell 1)
          | (go_at_call 36; (with_reducible refine Calls.mono ct1 ?_); rintro _ _ ⟨rfl, rfl⟩)
          | (go_at_call 36; (with_reducible refine Calls.mono ct2 ?_); rintro _ _ ⟨rfl, rfl⟩))
        have K5 := (qcalm_drew (qcalm_alloc (x := .cells #[.int .i64 t.f, .int .i64 t.w, .int .i64 lg, .int .i64 t.s, .int .i64 cr, .int .i64 cl, .int .i64 gc, .int .i64 gx, .int .i64 0, .int .i64 0] 40) kD)).trans k5
        rw [HAC.out] at o5
        go_wp2
        go_roundw
        case rel => exact ⟨i + 1, a2, c2, by go_num, by omega, rfl, o5.re [1, 2, 4, 0, 5, 6, 7, 3, 8, 9, 10] 3, K5⟩
        case measure => simp [Lib.intOf]; omega
    · have hin : i = s.R.L.length := by omega
      subst hin
      rw [List.take_length] at oR
      go_wp2
      go_ret
      exact ⟨a', c', rfl, (Own.swap (CqF.iff.2 ⟨rp, lp, cp, xp, nb, oR.re [1, 3, 2, 4, 5, 6, 7, 0] 1⟩)), kR⟩
end
end Go.Proofs.YtjpahfkchhnpoaaGreat

/- The sum of the lags of cifq. -/
namespace Go.Proofs.YtjpahfkchhnpoaaGreat
open Go.RowKit
open SP
section
variable {w w' : World} {R : List SP} {b rp lp cp xp nb N : Nat} {num den : Int} {D : List Tg}

set_option maxHeartbeats 1600000 in
set_option maxRecDepth 100000 in
theorem cqSum_spec (hN : (N : Int) ≤ 1000000000000) (o : Own w (CqC b num den rp lp cp xp nb :: LagR lp N D :: R)) :
    Calls Tryz.prog 14 #[.pointer (some ⟨b, 0, none⟩)] w (Ret (.int .i64 (sumS D)) (CqC b num den rp lp cp xp nb :: LagR lp N D :: R) w) := by
  have c3 := o.cell 3
  have hlt := o.celLt
  have hc := lagSum_spec hN (o.up 1)
  generalize sumS D = X at *
  go_enter Tryz.func14, Tryz.ntmps14
  go_wp2_with fail
  refine hc.mono ?_
  rintro e1 w1 ⟨rfl, o1, k1⟩
  clear hc
  go_wp2
  go_ret
  exact ⟨rfl, o1.up 1, k1⟩
end
end Go.Proofs.YtjpahfkchhnpoaaGreat

/- Cifq: a slot as one contract; lagOf; alpha; the example. -/
namespace Go.Proofs.YtjpahfkchhnpoaaGreat
open Go.RowKit
open SP
section
variable {W w w' : World} {R : List SP} {b N cb K : Nat} {num den reb : Int} {s : Cq} {Sp : SP}

theorem cqStep_ok {i m : Nat} {nu de : Nat} (hI : CqInv i m N s) (hi : i ≤ 299) (hm : m ≤ 200000) (hN : N ≤ 1000000) (hA : AlOk nu de)
    {a : Option Addr} {n c : Nat} {H : List Head} (h1 : HeadsAt Sp a H) (hn : n = H.length) (hf : fitsH s.R.L H = true) (hne : H ≠ [])
    (o : Own w (CqF b (nu : Int) (de : Int) reb N s :: Sp :: R)) :
    Calls Tryz.prog 32 #[.pointer (some ⟨b, 0, none⟩), .slice a n c] w
      (Ret (.tuple #[chV (stepC (nu : Int) (de : Int) reb s H).1, .int .i64 0]) (CqF b (nu : Int) (de : Int) reb (N + 1) (stepC (nu : Int) (de : Int) reb s H).2.2 :: Sp :: R) w) := by
  obtain ⟨rp, lp, cp, xp, nb, o1⟩ := CqF.iff.1 o
  have hl : H.length ≤ 32 := by
    have := congrArg List.length (fits_facts hf).1
    simp only [List.length_map] at this
    have := hI.t.ok.ok.len
    omega
  have h0 := (hI.next hi hN (nu : Int) (de : Int) reb hf hne).1
  have := step_go (reb := reb) hI hi hm hN (by have := hA.lt; have := hA.le; omega) (by have := hA.le; omega) (c := c) h1 hn (by omega) hf hne o1
  rw [h0] at this
  exact this

def LoRel (b : Nat) (num den reb : Int) (N : Nat) (s : Cq) (f : Int) (a : Option Addr) (c : Nat) (R : List SP) (w : World) (v : Value) (wr : World) : Prop :=
  ∃ i : Nat, v = .int .i64 (i : Int) ∧ i ≤ s.R.L.length ∧ (∀ (j : Nat) (t : Tg), j < i → s.R.L[j]? = some t → t.f ≠ f) ∧ Own wr (slc 40 10 a s.R.L.length c (flat (accC s) s.R.L) :: CqF b num den reb N s :: R) ∧ Calm w wr
theorem alRow {fn : Func} (h : fn.results = #[.cell 2 24]) {tmps : Array Value} {p : Nat} {x y : Value} (hp : tmps.getD 2 undef = .pointer (some ⟨p, 0, none⟩))
    (o : Own w (cel p 24 [x, y] :: R)) : (results fn tmps).run Tryz.prog w = .ok (.agg #[x, y]) w :=
  results_cell_row h _ _ p _ _ _ _ hp o.blk Tryz.underlying24 rfl (by kernel_rfl)
def AlPost (W : World) (cb K : Nat) (R : List SP) (w : World) (e : Ending) (w' : World) : Prop :=
  ∃ nu de : Nat, AlOk nu de ∧ Ret (.agg #[.int .i64 (nu : Int), .int .i64 (de : Int)]) (Ch W cb (K + 1) :: old W :: R) w e w'
set_option maxHeartbeats 1600000 in
set_option maxRecDepth 100000 in
theorem alpha_spec (hK : K ≤ 800000000) (o : Own w (Ch W cb K :: old W :: R)) :
    Calls Tryz.prog 5 #[.pointer (some ⟨cb, 0, none⟩)] w (AlPost W cb K R w) := by
  have oA := (o.alloc (.cells #[.int .i64 0, .int .i64 0] 24)).alloc (.cells #[.int .i64 1, .int .i64 2, .int .i64 9, .int .i64 10, .int .i64 1, .int .i64 10, .int .i64 2, .int .i64 3, .int .i64 1048575, .int .i64 1048576, .int .i64 1, .int .i64 1048576] 24)
  simp only [World.size_alloc] at oA
  go_enter Tryz.func5, Tryz.ntmps5
  go_wp2_with fail
  refine (next_spec W cb K 6 _ _ (by omega) (by omega) (by omega) (oA.re [2, 3, 0, 1])).mono ?_
  rintro e1 w1 ⟨x, hx0, hx1, rfl, o1, k1⟩
  obtain ⟨j, rfl⟩ : ∃ j : Nat, x = (j : Int) := ⟨x.toNat, by omega⟩
  have key : ∃ nu de : Nat, AlOk nu de ∧ w1.cell? ⟨w.heap.size + 1, j * 2, none⟩ = some (.int .i64 (nu : Int)) ∧ w1.cell? ⟨w.heap.size + 1, j * 2 + 1, none⟩ = some (.int .i64 (de : Int)) := by
    have hj : j = 0 ∨ j = 1 ∨ j = 2 ∨ j = 3 ∨ j = 4 ∨ j = 5 := by omega
    rcases hj with rfl | rfl | rfl | rfl | rfl | rfl
    · exact ⟨1, 2, ⟨by decide, by decide, by decide⟩, Own.cell (T := 24) (vs := [.int .i64 1, .int .i64 2, .int .i64 9, .int .i64 10, .int .i64 1, .int .i64 10, .int .i64 2, .int .i64 3, .int .i64 1048575, .int .i64 1048576, .int .i64 1, .int .i64 1048576]) (o1.up 2) 0, Own.cell (T := 24) (vs := [.int .i64 1, .int .i64 2, .int .i64 9, .int .i64 10, .int .i64 1, .int .i64 10, .int .i64 2, .int .i64 3, .int .i64 1048575, .int .i64 1048576, .int .i64 1, .int .i64 1048576]) (o1.up 2) 1⟩
    · exact ⟨9, 10, ⟨by decide, by decide, by decide⟩, Own.cell (T := 24) (vs := [.int .i64 1, .int .i64 2, .int .i64 9, .int .i64 10, .int .i64 1, .int .i64 10, .int .i64 2, .int .i64 3, .int .i64 1048575, .int .i64 1048576, .int .i64 1, .int .i64 1048576]) (o1.up 2) 2, Own.cell (T := 24) (vs := [.int .i64 1, .int .i64 2, .int .i64 9, .int .i64 10, .int .i64 1, .int .i64 10, .int .i64 2, .int .i64 3, .int .i64 1048575, .int .i64 1048576, .int .i64 1, .int .i64 1048576]) (o1.up 2) 3⟩
    · exact ⟨1, 10, ⟨by decide, by decide, by decide⟩, Own.cell (T := 24) (vs := [.int .i64 1, .int .i64 2, .int .i64 9, .int .i64 10, .int .i64 1, .int .i64 10, .int .i64 2, .int .i64 3, .int .i64 1048575, .int .i64 1048576, .int .i64 1, .int .i64 1048576]) (o1.up 2) 4, Own.cell (T := 24) (vs := [.int .i64 1, .int .i64 2, .int .i64 9, .int .i64 10, .int .i64 1, .int .i64 10, .int .i64 2, .int .i64 3, .int .i64 1048575, .int .i64 1048576, .int .i64 1, .int .i64 1048576]) (o1.up 2) 5⟩
    · exact ⟨2, 3, ⟨by decide, by decide, by decide⟩, Own.cell (T := 24) (vs := [.int .i64 1, .int .i64 2, .int .i64 9, .int .i64 10, .int .i64 1, .int .i64 10, .int .i64 2, .int .i64 3, .int .i64 1048575, .int .i64 1048576, .int .i64 1, .int .i64 1048576]) (o1.up 2) 6, Own.cell (T := 24) (vs := [.int .i64 1, .int .i64 2, .int .i64 9, .int .i64 10, .int .i64 1, .int .i64 10, .int .i64 2, .int .i64 3, .int .i64 1048575, .int .i64 1048576, .int .i64 1, .int .i64 1048576]) (o1.up 2) 7⟩
    · exact ⟨1048575, 1048576, ⟨by decide, by decide, by decide⟩, Own.cell (T := 24) (vs := [.int .i64 1, .int .i64 2, .int .i64 9, .int .i64 10, .int .i64 1, .int .i64 10, .int .i64 2, .int .i64 3, .int .i64 1048575, .int .i64 1048576, .int .i64 1, .int .i64 1048576]) (o1.up 2) 8, Own.cell (T := 24) (vs := [.int .i64 1, .int .i64 2, .int .i64 9, .int .i64 10, .int .i64 1, .int .i64 10, .int .i64 2, .int .i64 3, .int .i64 1048575, .int .i64 1048576, .int .i64 1, .int .i64 1048576]) (o1.up 2) 9⟩
    · exact ⟨1, 1048576, ⟨by decide, by decide, by decide⟩, Own.cell (T := 24) (vs := [.int .i64 1, .int .i64 2, .int .i64 9, .int .i64 10, .int .i64 1, .int .i64 10, .int .i64 2, .int .i64 3, .int .i64 1048575, .int .i64 1048576, .int .i64 1, .int .i64 1048576]) (o1.up 2) 10, Own.cell (T := 24) (vs := [.int .i64 1, .int .i64 2, .int .i64 9, .int .i64 10, .int .i64 1, .int .i64 10, .int .i64 2, .int .i64 3, .int .i64 1048575, .int .i64 1048576, .int .i64 1, .int .i64 1048576]) (o1.up 2) 11⟩
  obtain ⟨nu, de, hA, d0, d1⟩ := key
  have z0 := Own.cell (T := 24) (vs := [.int .i64 0, .int .i64 0]) (o1.up 3) 0
  have z1 := Own.cell (T := 24) (vs := [.int .i64 0, .int .i64 0]) (o1.up 3) 1
  have zf := Own.frozen (T := 24) (vs := [.int .i64 0, .int .i64 0]) (o1.up 3)
  have zl := Own.celLt (T := 24) (vs := [.int .i64 0, .int .i64 0]) (o1.up 3)
  have oZ : Own _ (cel w.heap.size 24 [.int .i64 (nu : Int), .int .i64 (de : Int)] :: _) := (Own.setCell (T := 24) (vs := [.int .i64 0, .int .i64 0]) (o1.up 3) 0 (.int .i64 (nu : Int))).setCell 1 (.int .i64 (de : Int))
  go_wp2
  refine bodyPost_ret (v := .agg #[.int .i64 (nu : Int), .int .i64 (de : Int)]) ?_ rfl ?_
  · exact alRow (p := w.heap.size) rfl rfl oZ
  · exact ⟨nu, de, hA, rfl, oZ.re [0, 3] 2, qcalm_set (qcalm_set ((qcalm_alloc (qcalm_alloc (Calm.refl w))).trans k1))⟩
end
end Go.Proofs.YtjpahfkchhnpoaaGreat

/- Cifq: a slot on both sides; what all the calls keep. -/
namespace Go.Proofs.YtjpahfkchhnpoaaGreat
open Go.RowKit
open SP
section
variable {w w' : World} {R : List SP} {b N M : Nat} {num den reb : Int} {P S Sp : SP} {s : Cq} {g : KqG}

structure CqS (N : Nat) (s : Cq) (g : KqG) : Prop where
  inv : CqInv N N N s
  rel : KqRel N s g
theorem CqS.start : CqS 0 cq0 kq0 := ⟨CqInv.start, KqRel.start⟩
theorem CqInv.nxt (h : CqInv N N N s) : CqInv (N + 1) (N + 1) (N + 1) s := h.le (by omega) (by omega) (by omega)
theorem CqInv.stepN (h : CqInv N N N s) (hN : N ≤ 299) (num den reb : Int) (H : List Head) : CqInv (N + 1) (N + 1) (N + 1) (stepC num den reb s H).2.2 := by
  by_cases hf : fitsH s.R.L H = true
  · by_cases hne : H = []
    · have e : stepC num den reb s H = (ch0, 5, s) := by unfold stepC; rw [if_neg (by rw [hf]; simp), if_pos hne]
      rw [e]; exact h.nxt
    · exact (h.next hN (by omega) num den reb hf hne).2
  · have e : stepC num den reb s H = (ch0, 1, s) := by unfold stepC; rw [if_pos (by simpa using hf)]
    rw [e]; exact h.nxt
theorem CqF.next (o : Own w (CqF b num den reb N s :: R)) : Own w (CqF b num den reb (N + 1) s :: R) := by
  obtain ⟨rp, lp, cp, xp, nb, o1⟩ := CqF.iff.1 o
  have o2 := LagR.le (Nat.le_succ N) (o1.re [2])
  exact CqF.iff.2 ⟨rp, lp, cp, xp, nb, o2.re [1, 2, 0]⟩
theorem fits_nil {L : List Tg} (h : fitsH L [] = true) : L = [] := by
  have := congrArg List.length (fits_facts h).1
  simp at this
  exact List.eq_nil_of_length_eq_zero this.symm
theorem stepQ_prog {nu de : Nat} {a : Option Addr} {n c : Nat} {H : List Head} (h : CqInv N N N s) (hN : N ≤ 299) (hA : AlOk nu de) (hH : KHds s.R.L Sp a n H) (o : Own w (CqF b (nu : Int) (de : Int) reb N s :: Sp :: R)) :
    Calls Tryz.prog 32 #[.pointer (some ⟨b, 0, none⟩), .slice a n c] w
      (Ret (.tuple #[chV (stepC (nu : Int) (de : Int) reb s H).1, .int .i64 (stepC (nu : Int) (de : Int) reb s H).2.1]) (CqF b (nu : Int) (de : Int) reb (N + 1) (stepC (nu : Int) (de : Int) reb s H).2.2 :: Sp :: R) w) := by
  have hl1 := hA.lt
  have hl2 := hA.le
  by_cases hf : fitsH s.R.L H = true
  · obtain ⟨hl, ⟨hn, h1⟩ | ⟨_, h2⟩⟩ := hH
    · by_cases hne : H = []
      · subst hne
        have hn0 : n = 0 := hn
        subst hn0
        have e : stepC (nu : Int) (de : Int) reb s [] = (ch0, 5, s) := by unfold stepC; rw [if_neg (by rw [hf]; simp), if_pos rfl]
        rw [e]
        obtain ⟨rp, lp, cp, xp, nb, o1⟩ := CqF.iff.1 o
        refine (step_empty (c := c) (a := a) (fits_nil hf) (o1.re [0, 1, 6])).mono ?_
        rintro e1 w1 ⟨rfl, o2, k2⟩
        exact ⟨rfl, CqF.next (CqF.iff.2 ⟨rp, lp, cp, xp, nb, o2.re [0, 1, 3, 4, 5, 6, 2]⟩), k2⟩
      · obtain ⟨rp, lp, cp, xp, nb, o1⟩ := CqF.iff.1 o
        have hl32 : n ≤ 32 := by
          have := congrArg List.length (fits_facts hf).1
          simp only [List.length_map] at this
          have := h.t.ok.ok.len
          omega
        exact step_go (reb := reb) h hN (by omega) (by omega) (by omega) (by omega) h1 hn hl32 hf hne o1
    · rw [hf] at h2; cases h2
  · have hf' : fitsH s.R.L H = false := by simpa using hf
    have e : stepC (nu : Int) (de : Int) reb s H = (ch0, 1, s) := by unfold stepC; rw [if_pos hf']
    rw [e]
    obtain ⟨rp, lp, cp, xp, nb, o1⟩ := CqF.iff.1 o
    refine (stepQ_unfit (c := c) hH hf' (o1.re [0, 1, 6])).mono ?_
    rintro e1 w1 ⟨rfl, o2, k2⟩
    exact ⟨rfl, CqF.next (CqF.iff.2 ⟨rp, lp, cp, xp, nb, o2.re [0, 1, 3, 4, 5, 6, 2]⟩), k2⟩
theorem stepQ_ref {nu de : Nat} {a : Option Addr} {n c : Nat} {H : List Head} (h : CqS N s g) (hN : N ≤ 299) (hA : AlOk nu de) (reb : Int) (hH : KHds s.R.L Sp a n H) :
    ∀ (P S : SP) (b : Nat) (w : World) (R : List SP), Own w (KqT P S b (nu : Int) (de : Int) reb s g :: P :: S :: Sp :: R) →
    Calls Tryz.prog 33 #[.pointer (some ⟨b, 0, none⟩), .slice a n c] w
      (fun e w' => ∃ P' S' g', CqS (N + 1) (stepC (nu : Int) (de : Int) reb s H).2.2 g' ∧ Ret (.tuple #[chV (stepC (nu : Int) (de : Int) reb s H).1, .int .i64 (stepC (nu : Int) (de : Int) reb s H).2.1]) (KqT P' S' b (nu : Int) (de : Int) reb (stepC (nu : Int) (de : Int) reb s H).2.2 g' :: P' :: S' :: Sp :: R) w e w') := by
  intro P S b w R o
  have hl1 := hA.lt
  have hl2 := hA.le
  have hinv := h.inv.stepN hN (nu : Int) (de : Int) reb H
  by_cases hf : fitsH s.R.L H = true
  · obtain ⟨hl, ⟨hn, h1⟩ | ⟨_, h2⟩⟩ := hH
    · by_cases hne : H = []
      · subst hne
        have hn0 : n = 0 := hn
        subst hn0
        have e : stepC (nu : Int) (de : Int) reb s [] = (ch0, 5, s) := by unfold stepC; rw [if_neg (by rw [hf]; simp), if_pos rfl]
        rw [e]
        exact (refStepQ_empty (c := c) (a := a) (fits_nil hf) o).mono fun e w' he => ⟨P, S, g, ⟨h.inv.nxt, h.rel.next⟩, he⟩
      · refine (kqStep_spec (m := N) (M := N) (N := N) (i := N) (c := c) (by omega) (by omega) (by omega) (by omega) (by omega) hN h.rel h.inv h1 hn hf hne o).mono ?_
        rintro e w' ⟨P', S', g', hr, he⟩
        exact ⟨P', S', g', ⟨hinv, hr⟩, he⟩
    · rw [hf] at h2; cases h2
  · have hf' : fitsH s.R.L H = false := by simpa using hf
    have e : stepC (nu : Int) (de : Int) reb s H = (ch0, 1, s) := by unfold stepC; rw [if_pos hf']
    rw [e]
    exact (refStepQ_unfit (c := c) h.inv.t.ok.ok.len hH hf' o).mono fun e w' he => ⟨P, S, g, ⟨h.inv.nxt, h.rel.next⟩, he⟩

theorem CqS.join (h : CqS N s g) (hN : N ≤ 299) (num den reb f wt : Int) : ∃ g', CqS (N + 1) (joinQ s f wt).2 g' ∧
    KqDoes num den reb s g 25 (fun p => #[p, .int .i64 f, .int .i64 wt]) (.int .i64 (joinQ s f wt).1) (joinQ s f wt).2 g' := by
  obtain ⟨g', h1, h2⟩ := joinQ_both h.rel (by omega) h.inv.lg.ok num den reb f wt
  exact ⟨g', ⟨(h.inv.joinQ f wt).nxt, h1⟩, h2⟩
theorem CqS.setW (h : CqS N s g) (num den reb f wt : Int) : ∃ g', CqS (N + 1) (setWQ s f wt).2 g' ∧
    KqDoes num den reb s g 29 (fun p => #[p, .int .i64 f, .int .i64 wt]) (.int .i64 (setWQ s f wt).1) (setWQ s f wt).2 g' := by
  obtain ⟨g', h1, h2⟩ := setWQ_both h.rel h.inv.lg.ok num den reb f wt
  exact ⟨g', ⟨(h.inv.setW f wt).nxt, h1⟩, h2⟩
theorem CqS.leave (h : CqS N s g) (hN : N ≤ 299) (num den reb f : Int) : ∃ g', CqS (N + 1) (leaveQ s f).2 g' ∧
    KqDoes num den reb s g 27 (fun p => #[p, .int .i64 f]) (.tuple #[.int .i64 (leaveQ s f).1.1, .int .i64 (leaveQ s f).1.2]) (leaveQ s f).2 g' := by
  obtain ⟨g', h1, h2⟩ := leaveQ_both h.rel (by omega) h.inv.lg (by omega) h.inv.nu num den reb f
  exact ⟨g', ⟨(h.inv.leaveQ f).nxt, h1⟩, h2⟩
end
end Go.Proofs.YtjpahfkchhnpoaaGreat
