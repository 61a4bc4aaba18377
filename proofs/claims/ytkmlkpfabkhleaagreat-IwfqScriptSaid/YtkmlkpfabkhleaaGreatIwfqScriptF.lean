/- Texts that the law rests on, put together by a program. -/
import Derived.Test.YtkmlkpfabkhleaaGreatIwfqScriptE
import Derived.Test.YtkmlkpfabkhleaaGreatIwfqScriptC
import Derived.Test.YtkmlkpfabkhleaaGreatIwfqScriptB
import Derived.Deep.RegionLaw
import Derived.Deep.DeepCutAuto
import Derived.Deep.CutBlock
import Derived.Test.YtkmlkpfabkhleaaGreatIwfqScriptD
import Derived.Deep.RegionHeld3
/- Iwfq: a slot. -/
namespace Go.Proofs.YtkmlkpfabkhleaaGreat
open Go.RowKit
open SP
section
variable {W w w' : World} {R : List SP} {b rp ab : Nat} {reb : Int} {s : Iw} {Sp : SP}

structure IwOk (reb : Int) (s : Iw) : Prop where
  ok : LOk s.R.L
  aw : 0 ≤ s.R.aw ∧ s.R.aw ≤ 1152921504606846976
  acc : AccOk s.m
  ks : ∀ t ∈ s.R.L, ∃ a, mget s.m t.f = some a
  ch : ∀ t ∈ s.R.L, ∀ len : Int, 1 ≤ len → len ≤ 4096 → (chargeR reb s.R t.f len).1 = 0
theorem Tryz.zeroIntI (w : World) : (zeroValue 3).run Tryz.prog w = .ok (.int .i64 0) w := by kernel_rfl
theorem lookLen {lb : Nat} {M : List (Int × Int)} (o : Own w (mpI (Value.int .i64) lb M :: R)) (k : Int) :
    (Instr.lookup 156 (.map (some lb)) (.int .i64 k) true).run Tryz.prog w = .ok (match mget M k with | some l => .tuple #[.int .i64 l, .bool true] | none => .tuple #[.int .i64 0, .bool false]) w := by
  rw [run_lookup_mpI Tryz.underlying156 Tryz.underlying3 Tryz.zeroIntI o k true]
  cases mget M k <;> rfl
theorem st2 {A B : SP} {l : List SP} (o : Own w (A :: B :: l)) : Own w (st [A, B] :: l) := (Own.st (m := [A, B])).2 o
theorem un2 {A B : SP} {l : List SP} (o : Own w (st [A, B] :: l)) : Own w (A :: B :: l) := (Own.st (m := [A, B])).1 o
theorem serve_ownJ {m : List (Int × Acc)} {S S' : St} {k j len : Int} (h : k = j) (haw : 0 ≤ S.aw ∧ S.aw ≤ 1152921504606846976) (hc : chargeR reb S k len = (0, S')) (o : Own w (IwC b rp ab :: SfqR rp reb S :: mpI accI ab m :: R)) :
    Calls Tryz.prog 129 #[.pointer (some ⟨b, 0, none⟩), .int .i64 k, .int .i64 j, .int .i64 len] w (Ret (.tuple #[chV ⟨k, k, 1⟩, .int .i64 0]) (IwC b rp ab :: SfqR rp reb S' :: mpI accI ab m :: R) w) := by
  subst h; exact serve_own haw hc o
def LmRel (n : Nat) (lb : Nat) (H : List Head) (P : List SP) (w : World) (v : Value) (wr : World) : Prop :=
  ∃ i : Nat, v = .int .i64 (i : Int) ∧ i ≤ n ∧ Own wr (mpI (Value.int .i64) lb (lenM (H.take i)) :: Sp :: P) ∧ Calm w wr
def OuRel (n : Nat) (ok : Tg → Tg → Bool) (KS JS : List Tg) (P : List SP) (w : World) (v : Value) (wr : World) : Prop :=
  ∃ i : Nat, v = .int .i64 (i : Int) ∧ i ≤ n ∧ (∀ k' ∈ KS.take i, ∀ j' ∈ JS, ok k' j' = false) ∧ Own wr P ∧ Calm w wr
def InRel (n : Nat) (ok : Tg → Bool) (JS : List Tg) (P : List SP) (w : World) (v : Value) (wr : World) : Prop :=
  ∃ i : Nat, v = .int .i64 (i : Int) ∧ i ≤ n ∧ (∀ j' ∈ JS.take i, ok j' = false) ∧ Own wr P ∧ Calm w wr
theorem flI_get {L : List Tg} {i : Nat} {t : Tg} (h : L[i]? = some t) : (flI L)[i]? = some (.int .i64 t.f) := by
  unfold flI
  rw [List.getElem?_map, List.getElem?_map, h]; rfl

set_option maxHeartbeats 12800000 in
set_option maxRecDepth 100000 in
theorem iwStep_spec {a : Option Addr} {n c : Nat} {H : List Head} (hs : IwOk reb s) (h1 : HeadsAt Sp a H) (hn : n = H.length) (hf : fitsH s.R.L H = true) (hne : H ≠ []) (o : Own w (IwR b reb s :: Sp :: R)) :
    Calls Tryz.prog 77 #[.pointer (some ⟨b, 0, none⟩), .slice a n c] w
      (Ret (.tuple #[chV (stepI reb s H).1, .int .i64 (stepI reb s H).2.1]) (IwR b reb (stepI reb s H).2.2 :: Sp :: R) w) := by
  obtain ⟨rp, ab, o1⟩ := IwR.iff.1 o
  obtain ⟨f1, f2⟩ := fits_len hf
  have hLl : s.R.L.length = n := by have := congrArg List.length f1; simp only [List.length_map] at this; omega
  have hL32 : s.R.L.length ≤ 32 := hs.ok.len
  have hLne : s.R.L ≠ [] := fun e => by rw [e] at hLl; simp at hLl; exact hne (List.eq_nil_of_length_eq_zero (by omega))
  have hn1 : 1 ≤ n := by have : s.R.L.length ≠ 0 := fun e => hLne (List.eq_nil_of_length_eq_zero e); omega
  have hn32 : n ≤ 32 := by omega
  have oA : Own (w.alloc (.cells #[.int .i64 0, .int .i64 0, .int .i64 0] 38)) (choC w.heap.size 0 0 0 :: IwC b rp ab :: SfqR rp reb s.R :: mpI accI ab s.m :: Sp :: R) := o1.alloc _
  have c0 := (oA.up 1).cell 0
  have cl := (oA.up 1).celLt
  have hst := stepI_eq (reb := reb) hf hne
  obtain ⟨RS, hRS⟩ : ∃ RS, stepI reb s H = RS := ⟨_, rfl⟩
  rw [hRS] at hst ⊢
  clear hRS
  have HST := Lib.hid hst
  have HN := Lib.hid hn
  have HNE := Lib.hid hne
  have HLL := Lib.hid hLl
  clear hst hn hne hLl
  go_enter Tryz.func77, Tryz.ntmps77
  go_wp2_with fail
  refine (sfqTags_spec (oA.re [2])).mono ?_
  rintro e1 w1 ⟨a', c', rfl, o2, k1⟩
  have he := equalFuncI_spec (c := c) (n' := s.R.L.length) (c' := c') h1 (tagsAt_slc a' s.R.L.length c' s.R.L rfl) HN.out rfl (by omega) (o2.re [5, 0])
  rw [fitsL_eq, hf] at he
  have HF := Lib.hid hf
  clear hf
  go_wp2_with fail
  refine he.mono ?_
  rintro e2 w2 ⟨rfl, o3, k2⟩
  clear he c0 cl
  have K2 : Calm w w2 := (qcalm_alloc (Calm.refl w)).trans (k1.trans k2)
  have hmm := @run_makeMap Tryz.prog
  have oM := o3.mpI_made (f := Value.int .i64) (α := Int)
  have hn0 : ((n : Int) == 0) = false := by simpa using (by omega : ¬ (n : Int) = 0)
  have hT : LmRel (Sp := Sp) n w2.heap.size H (slc 128 3 a' s.R.L.length c' (flat tagC s.R.L) :: SfqR rp reb s.R :: choC w.heap.size 0 0 0 :: IwC b rp ab :: mpI accI ab s.m :: R) w (.int .i64 0) (w2.alloc (.map #[] 0)) := ⟨0, rfl, Nat.zero_le _, oM, qcalm_alloc K2⟩
  clear oM o3 o2 k1 k2 K2 oA o o1
  go_wp2
  go_loopw [38] (fun v wr => LmRel (Sp := Sp) n w2.heap.size H (slc 128 3 a' s.R.L.length c' (flat tagC s.R.L) :: SfqR rp reb s.R :: choC w.heap.size 0 0 0 :: IwC b rp ab :: mpI accI ab s.m :: R) w v wr) (fun v _ => n - (Lib.intOf v).toNat)
  case atStart => exact hT
  case round =>
    clear hT hmm
    obtain ⟨i, rfl, hi, oR, kR⟩ := hrel
    by_cases hlt : i < n
    · obtain ⟨h, hh⟩ : ∃ h, H[i]? = some h := ⟨_, List.getElem?_eq_getElem (by have := HN.out; omega)⟩
      obtain ⟨g, rfl, d0, d1, d2⟩ := h1 _ _ (oR.up 1) i _ hh
      have HSN := Lib.hid (lenM_step hh)
      have oH := (oR.alloc (.cells #[.int .i64 h.f, .int .i64 h.len, .bool h.good] 35)).drop
      obtain ⟨w5, hr5, o5, k5⟩ := run_mapUpdate_mpI (P := Tryz.prog) (f := Value.int .i64) Tryz.underlying156 Tryz.underlying3 oH h.f h.len
      clear hh
      obtain ⟨gd, hgd⟩ : ∃ gd, h.good = gd := ⟨_, rfl⟩
      rw [hgd] at d2 oH hr5 k5
      have HG := Lib.hid hgd
      clear hgd
      cases gd with
      | true =>
        go_wp2
        go_roundw
        case rel => exact ⟨i + 1, by go_num, by omega, by rw [HSN.out, HG.out, if_pos rfl]; exact o5, kR.trans ⟨k5.os, k5.tape, k5.output⟩⟩
        case measure => simp [Lib.intOf]; omega
      | false =>
        clear hr5 o5 k5
        go_wp2
        go_roundw
        case rel => exact ⟨i + 1, by go_num, by omega, by rw [HSN.out, HG.out, if_neg (by simp)]; exact oH, kR.trans ⟨rfl, rfl, rfl⟩⟩
        case measure => simp [Lib.intOf]; omega
    · have hin : n = i := by omega
      subst hin
      rw [List.take_of_length_le (by have := HN.out; omega)] at oR
      clear hi hlt
      have hlg := fun f => lenM_get (H := H) f (by rw [← List.pairwise_map (f := Head.f) (R := fun a b => a < b), f1, List.pairwise_map]; exact hs.ok.asc)
      obtain ⟨lb, hlb⟩ : ∃ lb, w2.heap.size = lb := ⟨_, rfl⟩
      rw [hlb] at oR ⊢
      clear hlb
      have oS : Own wr (slc 128 3 a' s.R.L.length c' (flat tagC s.R.L) :: st [IwC b rp ab, mpI accI ab s.m] :: mpI (Value.int .i64) lb (lenM H) :: Sp :: SfqR rp reb s.R :: choC w.heap.size 0 0 0 :: R) := (st2 (oR.re [5, 6])).re [3]
      have hTg : ∀ t ∈ s.R.L, TgR t := fun t ht => by have := hs.ok.rng t ht; exact ⟨this.2.2.1, this.2.2.2.1, this.2.2.2.2.1, this.2.2.2.2.2⟩
      have hsv := sorted_spec (key := svcI s.m) (fn := 126) (bs := #[.pointer (some ⟨b, 0, none⟩)]) (c := c') (Q := st [IwC b rp ab, mpI accI ab s.m]) hs.ok.asc hLne rfl (by omega)
        (fun kb w R' o x hx y hy => cmpSvc_spec hs.acc.lag (hTg x hx) (hTg y hy) ((un2 (o.re [1])).re [2])) oS
      clear oS
      go_wp2_with fail
      refine hsv.mono ?_
      rintro e4 w4 ⟨a4, c4, rfl, o4, k4⟩
      have hss := sorted_spec (key := (·.s)) (fn := 127) (bs := #[]) (c := c') (Q := st [IwC b rp ab, mpI accI ab s.m]) hs.ok.asc hLne rfl (by omega)
        (fun kb w R' o x hx y hy => cmpSta_spec o) (o4.re [1, 2])
      clear hsv o4
      go_wp2_with fail
      refine hss.mono ?_
      rintro e6 w6 ⟨a6, c6, rfl, o6, k6⟩
      have oP : Own w6 (IwC b rp ab :: mpI accI ab s.m :: slc 3 1 a6 s.R.L.length c6 (flI (srtK (·.s) s.R.L)) :: slc 3 1 a4 s.R.L.length c4 (flI (srtK (svcI s.m) s.R.L)) :: mpI (Value.int .i64) lb (lenM H) :: slc 128 3 a' s.R.L.length c' (flat tagC s.R.L) :: Sp :: SfqR rp reb s.R :: choC w.heap.size 0 0 0 :: R) := (un2 (o6.re [2])).re [0, 1, 2, 4, 5, 3]
      have K6 := kR.trans (k4.trans k6)
      clear hss o6 k4 k6 kR oR
      have hst := HST.out
      obtain ⟨KS, hKS⟩ : ∃ KS, srtK (·.s) s.R.L = KS := ⟨_, rfl⟩
      obtain ⟨JS, hJS⟩ : ∃ JS, srtK (svcI s.m) s.R.L = JS := ⟨_, rfl⟩
      have hKl : KS.length = s.R.L.length := by rw [← hKS, srtK_len]
      have hJl : JS.length = s.R.L.length := by rw [← hJS, srtK_len]
      have hKm : ∀ t ∈ KS, t ∈ s.R.L := fun t ht => by rw [← hKS] at ht; exact srtK_mem.1 ht
      have hJm : ∀ t ∈ JS, t ∈ s.R.L := fun t ht => by rw [← hJS] at ht; exact srtK_mem.1 ht
      rw [hKS, hJS] at oP hst
      have HKL := Lib.hid hKl
      have HJL := Lib.hid hJl
      clear HST hKS hJS hKl hJl
      have HST := Lib.hid hst
      have HLG := Lib.hid hlg
      clear hst hlg
      have hT : OuRel s.R.L.length (okI s.m H) KS JS (IwC b rp ab :: mpI accI ab s.m :: slc 3 1 a6 s.R.L.length c6 (flI KS) :: slc 3 1 a4 s.R.L.length c4 (flI JS) :: mpI (Value.int .i64) lb (lenM H) :: slc 128 3 a' s.R.L.length c' (flat tagC s.R.L) :: Sp :: SfqR rp reb s.R :: choC w.heap.size 0 0 0 :: R) w (.int .i64 0) w6 := ⟨0, rfl, Nat.zero_le _, by simp, oP, K6⟩
      clear oP K6
      go_wp2
      go_loopw [57] (fun v wr => OuRel s.R.L.length (okI s.m H) KS JS (IwC b rp ab :: mpI accI ab s.m :: slc 3 1 a6 s.R.L.length c6 (flI KS) :: slc 3 1 a4 s.R.L.length c4 (flI JS) :: mpI (Value.int .i64) lb (lenM H) :: slc 128 3 a' s.R.L.length c' (flat tagC s.R.L) :: Sp :: SfqR rp reb s.R :: choC w.heap.size 0 0 0 :: R) w v wr) (fun v _ => s.R.L.length - (Lib.intOf v).toNat)
      case atStart => exact hT
      case round =>
        clear hT
        obtain ⟨i, rfl, hi, hno, oR, kR⟩ := hrel
        by_cases hlt : i < s.R.L.length
        · obtain ⟨k, hk⟩ : ∃ k, KS[i]? = some k := ⟨_, List.getElem?_eq_getElem (by have := HKL.out; omega)⟩
          obtain ⟨gk, rfl, hck, _, hkl⟩ := (oR.up 2).slc_cell (by omega)
          have dk := hck i _ (flI_get hk)
          have HK := Lib.hid hk
          have HNO := Lib.hid hno
          clear hck hk hno
          have hT : InRel s.R.L.length (okI s.m H k) JS (IwC b rp ab :: mpI accI ab s.m :: slc 3 1 (some ⟨gk, 0, none⟩) s.R.L.length c6 (flI KS) :: slc 3 1 a4 s.R.L.length c4 (flI JS) :: mpI (Value.int .i64) lb (lenM H) :: slc 128 3 a' s.R.L.length c' (flat tagC s.R.L) :: Sp :: SfqR rp reb s.R :: choC w.heap.size 0 0 0 :: R) w (.int .i64 0) wr := ⟨0, rfl, Nat.zero_le _, by simp, oR, kR⟩
          clear oR kR
          go_wp2
          go_loopw [63] (fun v wr => InRel s.R.L.length (okI s.m H k) JS (IwC b rp ab :: mpI accI ab s.m :: slc 3 1 (some ⟨gk, 0, none⟩) s.R.L.length c6 (flI KS) :: slc 3 1 a4 s.R.L.length c4 (flI JS) :: mpI (Value.int .i64) lb (lenM H) :: slc 128 3 a' s.R.L.length c' (flat tagC s.R.L) :: Sp :: SfqR rp reb s.R :: choC w.heap.size 0 0 0 :: R) w v wr) (fun v _ => s.R.L.length - (Lib.intOf v).toNat)
          case atStart => exact hT
          case round =>
            clear hT dk hkl
            obtain ⟨y, rfl, hy, hny, oR, kR⟩ := hrel
            by_cases hlty : y < s.R.L.length
            · obtain ⟨j, hj⟩ : ∃ j, JS[y]? = some j := ⟨_, List.getElem?_eq_getElem (by have := HJL.out; omega)⟩
              obtain ⟨gj, rfl, hcj, _, hjl⟩ := (oR.up 3).slc_cell (by omega)
              have dj := hcj y _ (flI_get hj)
              have HJ := Lib.hid hj
              have HNY := Lib.hid hny
              clear hcj hj hny
              have hlk := lookLen (oR.up 4) j.f
              rw [HLG.out] at hlk
              obtain ⟨x, hx⟩ : ∃ x, headOf H j.f = x := ⟨_, rfl⟩
              rw [hx] at hlk
              have HX := Lib.hid hx
              clear hx
              cases hg : x.good with
              | false =>
                rw [hg, if_neg (by simp)] at hlk
                have hok : okI s.m H k j = false := by unfold okI; rw [HX.out, hg]; rfl
                have HOK := Lib.hid hok
                clear hok hg
                go_wp2
                go_roundw
                case rel => exact ⟨y + 1, by go_num, by omega, take_step HJ.out HNY.out HOK.out, oR, kR⟩
                case measure => simp [Lib.intOf]; omega
              | true =>
                rw [hg, if_pos rfl] at hlk
                obtain ⟨x', hx', _, hxe⟩ := headOf_good (H := H) (j := j.f) (by rw [HX.out]; exact hg)
                rw [HX.out] at hxe
                subst hxe
                have hxl := f2 x hx'
                have hp := permitted_spec (k := k.f) (j := j.f) (len := x.len) hs.acc (by omega) hxl.2 oR
                have hok : okI s.m H k j = permI s.m k.f j.f x.len := by unfold okI; rw [HX.out, hg]; rfl
                obtain ⟨P, hP⟩ : ∃ P, permI s.m k.f j.f x.len = P := ⟨_, rfl⟩
                rw [hP] at hp hok
                have HOK := Lib.hid hok
                clear hok hP hg hx'
                cases P with
                | false =>
                  go_wp2_with fail
                  refine hp.mono ?_
                  rintro e7 w7 ⟨rfl, g7⟩
                  have o7 := oR.grw g7
                  go_wp2
                  go_roundw
                  case rel => exact ⟨y + 1, by go_num, by omega, take_step HJ.out HNY.out HOK.out, o7, kR.trans g7.calm⟩
                  case measure => simp [Lib.intOf]; omega
                | true =>
                  have hpair := pairI_at HK.out HNO.out HJ.out HNY.out HOK.out
                  have hrs := HST.out
                  rw [hpair] at hrs
                  dsimp only at hrs
                  rw [HX.out] at hrs
                  have hkL := hKm k (List.mem_of_getElem? HK.out)
                  have hjL := hJm j (List.mem_of_getElem? HJ.out)
                  have hc0 := hs.ch k hkL x.len hxl.1 hxl.2
                  rw [if_neg (by rw [hc0]; simp)] at hrs
                  obtain ⟨S', hS'⟩ : ∃ S', (chargeR reb s.R k.f x.len).2 = S' := ⟨_, rfl⟩
                  have hc : chargeR reb s.R k.f x.len = (0, S') := Prod.ext hc0 hS'
                  rw [hS'] at hrs
                  have HC := Lib.hid hc
                  clear hc hc0 hS' hpair
                  go_wp2_with fail
                  refine hp.mono ?_
                  rintro e7 w7 ⟨rfl, g7⟩
                  have o7 := oR.grw g7
                  clear hp hlk
                  by_cases hkj : k.f = j.f
                  · rw [if_pos hkj] at hrs
                    have HRS := Lib.hid hrs
                    have hsv := serve_ownJ hkj hs.aw HC.out (o7.re [0, 7, 1])
                    unfold chV at hsv
                    clear hrs hkj
                    go_wp2_with fail
                    refine hsv.mono ?_
                    rintro e8 w8 ⟨rfl, o8, k8⟩
                    clear hsv
                    have z0 := Own.cell (T := 38) (vs := [.int .i64 0, .int .i64 0, .int .i64 0]) (o8.up 8) 0
                    have z1 := Own.cell (T := 38) (vs := [.int .i64 0, .int .i64 0, .int .i64 0]) (o8.up 8) 1
                    have z2 := Own.cell (T := 38) (vs := [.int .i64 0, .int .i64 0, .int .i64 0]) (o8.up 8) 2
                    have zf := Own.frozen (T := 38) (vs := [.int .i64 0, .int .i64 0, .int .i64 0]) (o8.up 8)
                    have zl := Own.celLt (T := 38) (vs := [.int .i64 0, .int .i64 0, .int .i64 0]) (o8.up 8)
                    have oC := choSet (x := k.f) (y := k.f) (z := 1) (o8.up 8)
                    go_wp2
                    refine bodyPost_ret (v := .tuple #[chV ⟨k.f, k.f, 1⟩, .int .i64 0]) ?_ rfl ?_
                    · exact chRow2 (p := w.heap.size) rfl rfl rfl oC
                    · rw [HRS.out]
                      exact ⟨rfl, IwR.iff.2 ⟨rp, ab, oC.re [0, 4, 5, 6, 7] 5⟩, qcalm_set (qcalm_set (qcalm_set ((kR.trans g7.calm).trans k8)))⟩
                  · rw [if_neg hkj] at hrs
                    have HRS := Lib.hid hrs
                    obtain ⟨A, hA⟩ := hs.ks k hkL
                    obtain ⟨D, hD⟩ := hs.ks j hjL
                    have hAO : accO s.m k.f = A := by unfold accO; rw [hA]; rfl
                    have hDO : accO s.m j.f = D := by unfold accO; rw [hD]; rfl
                    have hsv := serve_pair (len := x.len) hkj (by omega) hxl.2 hs.aw HC.out hA hD (by rw [← hAO]; exact (hs.acc k.f).1) (by rw [← hDO]; exact (hs.acc j.f).1) (o7.re [0, 7, 1])
                    rw [← hAO, ← hDO] at hsv
                    unfold chV at hsv
                    clear hrs hkj hA hD hAO hDO
                    go_wp2_with fail
                    refine hsv.mono ?_
                    rintro e8 w8 ⟨rfl, o8, k8⟩
                    clear hsv
                    have z0 := Own.cell (T := 38) (vs := [.int .i64 0, .int .i64 0, .int .i64 0]) (o8.up 8) 0
                    have z1 := Own.cell (T := 38) (vs := [.int .i64 0, .int .i64 0, .int .i64 0]) (o8.up 8) 1
                    have z2 := Own.cell (T := 38) (vs := [.int .i64 0, .int .i64 0, .int .i64 0]) (o8.up 8) 2
                    have zf := Own.frozen (T := 38) (vs := [.int .i64 0, .int .i64 0, .int .i64 0]) (o8.up 8)
                    have zl := Own.celLt (T := 38) (vs := [.int .i64 0, .int .i64 0, .int .i64 0]) (o8.up 8)
                    have oC := choSet (x := k.f) (y := j.f) (z := 5) (o8.up 8)
                    go_wp2
                    refine bodyPost_ret (v := .tuple #[chV ⟨k.f, j.f, 5⟩, .int .i64 0]) ?_ rfl ?_
                    · exact chRow2 (p := w.heap.size) rfl rfl rfl oC
                    · rw [HRS.out]
                      exact ⟨rfl, IwR.iff.2 ⟨rp, ab, oC.re [0, 4, 5, 6, 7] 5⟩, qcalm_set (qcalm_set (qcalm_set ((kR.trans g7.calm).trans k8)))⟩
            · have hyn : y = s.R.L.length := by omega
              rw [List.take_of_length_le (by have := HJL.out; omega)] at hny
              subst hyn
              have HNY := Lib.hid hny
              clear hny
              go_wp2
              go_roundw
              case rel => exact ⟨i + 1, by go_num, by omega, take_step HK.out HNO.out HNY.out, oR, kR⟩
              case measure => simp [Lib.intOf]; omega
        · have hin : i = s.R.L.length := by omega
          rw [List.take_of_length_le (by have := HKL.out; omega)] at hno
          subst hin
          have hrs := HST.out
          rw [pairI_end hno] at hrs
          dsimp only at hrs
          have HRS := Lib.hid hrs
          clear hrs hno
          have z0 := Own.cell (T := 38) (vs := [.int .i64 0, .int .i64 0, .int .i64 0]) (oR.up 8) 0
          have z1 := Own.cell (T := 38) (vs := [.int .i64 0, .int .i64 0, .int .i64 0]) (oR.up 8) 1
          have z2 := Own.cell (T := 38) (vs := [.int .i64 0, .int .i64 0, .int .i64 0]) (oR.up 8) 2
          have zf := Own.frozen (T := 38) (vs := [.int .i64 0, .int .i64 0, .int .i64 0]) (oR.up 8)
          have zl := Own.celLt (T := 38) (vs := [.int .i64 0, .int .i64 0, .int .i64 0]) (oR.up 8)
          have oC := choSet (x := -1) (y := -1) (z := 6) (oR.up 8)
          go_wp2
          refine bodyPost_ret (v := .tuple #[chV ⟨-1, -1, 6⟩, .int .i64 0]) ?_ rfl ?_
          · exact chRow2 (p := w.heap.size) rfl rfl rfl oC
          · rw [HRS.out]
            exact ⟨rfl, IwR.iff.2 ⟨rp, ab, oC.re [1, 8, 2, 0, 3, 4, 5, 6] |> fun q => q.re [0, 1, 2] |>.re [3, 4, 5, 6, 7] 5⟩, qcalm_set (qcalm_set (qcalm_set kR))⟩
end
end Go.Proofs.YtkmlkpfabkhleaaGreat

/- Heads that are drawn. -/
namespace Go.Proofs.YtkmlkpfabkhleaaGreat
open Go.RowKit
open SP
section
variable {W w w' : World} {R : List SP} {b N : Nat} {Sp : SP}

def IntsAt (Sp : SP) (a : Option Addr) (F : List Int) : Prop := ∀ (w : World) (R : List SP), Own w (Sp :: R) → ∀ (i : Nat) (x : Int), F[i]? = some x → ∃ g, a = some ⟨g, 0, none⟩ ∧ w.cell? ⟨g, i, none⟩ = some (.int .i64 x)
theorem intsAt_slc {T : TypeId} (a : Option Addr) (n c : Nat) (F : List Int) (hn : n = F.length) : IntsAt (slc T 1 a n c (F.map (Value.int .i64))) a F := by
  intro w R o i x h
  have := (List.getElem?_eq_some_iff.1 h).1
  obtain ⟨g, h1, hc, _, _⟩ := o.slc_cell (by omega)
  exact ⟨g, h1, hc i _ (by rw [List.getElem?_map, h]; rfl)⟩
theorem Tryz.headT : ElemT Tryz.prog 32 35 3 24 := ElemT.mk' (z := .agg #[.int .i64 0, .int .i64 0, .bool false]) Tryz.underlying32 (by kernel_rfl) rfl (by decide)

def HdOk (sz : Int) (F : List Int) (H : List Head) : Prop := H.map (·.f) = F ∧ ∀ h ∈ H, 1 ≤ h.len ∧ h.len ≤ 4096 ∧ (sz ≠ 0 → h.len = sz)
def HdRel (W : World) (b N : Nat) (sz : Int) (F : List Int) (Sp : SP) (R : List SP) (w : World) (v7 v8 : Value) (wr : World) : Prop :=
  ∃ (i : Nat) (a' : Option Addr) (c' : Nat) (H : List Head), v8 = .int .i64 (i : Int) ∧ i ≤ F.length ∧ v7 = .slice a' i c' ∧ HdOk sz (F.take i) H ∧
    Own wr (slc 35 3 a' i c' (flat headC H) :: Ch W b (N + 2 * i) :: old W :: Sp :: R) ∧ Calm w wr
def HeadsPost (W : World) (b N : Nat) (sz : Int) (F : List Int) (Sp : SP) (R : List SP) (w : World) (e : Ending) (w' : World) : Prop :=
  ∃ (a : Option Addr) (c : Nat) (H : List Head), HdOk sz F H ∧ Ret (.slice a F.length c) (slc 35 3 a F.length c (flat headC H) :: Ch W b (N + 2 * F.length) :: old W :: Sp :: R) w e w'

set_option maxHeartbeats 3200000 in
set_option maxRecDepth 100000 in
theorem heads_spec {sz : Int} (hsz : sz = 0 ∨ 1 ≤ sz ∧ sz ≤ 4096) {F : List Int} {a : Option Addr} {n c : Nat} (hF : IntsAt Sp a F) (hn : n = F.length) (hl : n ≤ 32) (hN : N ≤ 800000000) (o : Own w (Ch W b N :: old W :: Sp :: R)) :
    Calls Tryz.prog 11 #[.pointer (some ⟨b, 0, none⟩), .slice a n c, .int .i64 sz] w (HeadsPost W b N sz F Sp R w) := by
  have Hn := Lib.hid hn
  have hT : HdRel W b N sz F Sp R w (.slice none 0 0) (.int .i64 0) w := ⟨0, none, 0, [], rfl, by omega, rfl, ⟨rfl, by simp⟩, Own.slc_nil o, Calm.refl w⟩
  clear o hn
  go_enter Tryz.func11, Tryz.ntmps11
  go_wp2
  go_loopw [7, 8] (fun v7 v8 wr => HdRel W b N sz F Sp R w v7 v8 wr) (fun _ v _ => n - (Lib.intOf v).toNat)
  case atStart => exact hT
  case round =>
    clear hT
    obtain ⟨i, a', c', H, rfl, hi, rfl, hH, oR, kR⟩ := hrel
    by_cases hlt : i < n
    · obtain ⟨x, hx⟩ : ∃ x, F[i]? = some x := ⟨_, List.getElem?_eq_getElem (by have := Hn.out; omega)⟩
      have hiN : N + 2 * i ≤ 800000100 := by omega
      have HX := Lib.hid hx
      clear hx
      obtain ⟨Z, hZ⟩ : ∃ Z, (sz == 0) = Z := ⟨_, rfl⟩
      go_upto_if 18 with fail
      go_cut [9] (fun v wc => ∃ l : Int, 1 ≤ l ∧ l ≤ 4096 ∧ (sz ≠ 0 → l = sz) ∧ v = .int .i64 l ∧ Own wc (slc 35 3 a' i c' (flat headC H) :: Ch W b (N + 2 * i + 1) :: old W :: Sp :: R) ∧ Calm w wc)
      case first =>
        cases Z with
        | true =>
          have h0 := Lib.hid (show sz = 0 by simpa using hZ)
          clear hZ
          have oC := oR.re [1, 2, 0]
          go_wp2_with fail
          refine (length_spec (W := W) (b := b) (N + 2 * i) (by omega) oC).mono ?_
          rintro e2 w2 ⟨l, hl1, hl2, rfl, o3, k3⟩
          go_wp2
          go_meet
          exact ⟨l, hl1, hl2, fun h => absurd h0.out h, rfl, o3.re [2, 0, 1], kR.trans k3⟩
        | false =>
          have h0 : sz ≠ 0 := by simpa using hZ
          clear hZ
          go_wp2
          go_meet
          exact ⟨sz, by omega, by omega, fun _ => rfl, rfl, (Ch.upto (oR.up 1) (by omega)).re [1, 0], kR⟩
      case rest =>
        obtain ⟨l, hl1, hl2, hl3, rfl, oS, kS⟩ := hcut
        clear oR kR hZ
        obtain ⟨g, rfl, d0⟩ := hF _ _ (oS.up 3) i x HX.out
        have oSd := oS.drew.re [1, 2, 0]
        go_wp2
        go_region_held3 (fun w' => w'.cell? ⟨g, i, none⟩ = some (.int .i64 x)) (go_keep) (first
          | (refine step_append_src rfl _ _ rfl Tryz.headT rfl (oX.up 3) rfl ⟨_, _, rfl, rfl, by intro u hu; simp only [List.mem_cons, List.not_mem_nil, or_false] at hu; rcases hu with rfl | rfl | rfl <;> rfl, .inr ⟨_, rfl, hnw⟩⟩ (by unfold maxLen; omega) (by omega) ?_; intro a2 c2 w5 o5 k5; obtain ⟨_, hh5, d5⟩ := hF _ _ (o5.up 4) i x HX.out; cases hh5)
          | (go_at_call 10; (with_reducible refine (next_spec W b (N + 2 * i + 1) 3 _ _ (by omega) (by omega) (by omega) oSd).mono ?_); rintro e2 w2 ⟨y, hy0, hy1, rfl, o3, k3⟩; obtain ⟨_, hh3, d3⟩ := hF _ _ (o3.up 3) i x HX.out; cases hh3; have oX := o3.alloc (.cells #[.int .i64 x, .int .i64 l, .bool (decide (0 < y))] 35); have hnw := Own.news (T := 35) (vs := [.int .i64 x, .int .i64 l, .bool (decide (0 < y))]) oX))
        go_wp2
        have hfl : flat headC H ++ [.int .i64 x, .int .i64 l, .bool (decide (0 < y))] = flat headC (H ++ [⟨x, l, decide (0 < y)⟩]) := by rw [flat_append]; rfl
        rw [hfl] at o5
        have K5 := (kS.trans ((qcalm_drew (Calm.refl wc)).trans k3)).trans ((qcalm_alloc (Calm.refl w2)).trans k5)
        have hH2 : HdOk sz (F.take (i + 1)) (H ++ [⟨x, l, decide (0 < y)⟩]) := by
          refine ⟨by rw [List.map_append, hH.1, List.take_add_one, HX.out]; rfl, fun h hh => ?_⟩
          rcases List.mem_append.1 hh with hh | hh
          · exact hH.2 h hh
          · have : h = ⟨x, l, decide (0 < y)⟩ := by simpa using hh
            subst this
            exact ⟨hl1, hl2, hl3⟩
        go_roundw
        case rel => exact ⟨i + 1, a2, c2, _, by go_num, by have := Hn.out; omega, rfl, hH2, o5.re [1] 1, K5⟩
        case measure => simp [Lib.intOf]; omega
    · have hin : i = F.length := by have := Hn.out; omega
      subst hin
      rw [List.take_length] at hH
      go_wp2
      go_ret
      exact ⟨a', c', H, hH, rfl, oR, kR⟩
end
end Go.Proofs.YtkmlkpfabkhleaaGreat

/- Iwfq, plain: slots without errors and without lags. -/
namespace Go.Proofs.YtkmlkpfabkhleaaGreat
open Go.RowKit
section
variable {S : St} {i : Nat} {s : Iw} {H : List Head} {reb : Int}

theorem leastG_first (L : List Tg) : ∀ (l : List Tg) (i best : Nat), l = L.drop i → best < i ∨ best = 0 → best < L.length → (∀ j, j < best → (L.getD best ⟨0, 0, 0⟩).s < (L.getD j ⟨0, 0, 0⟩).s) →
    (∀ j, j < i → (L.getD best ⟨0, 0, 0⟩).s ≤ (L.getD j ⟨0, 0, 0⟩).s) → ∀ j, j < leastG L l i best → (L.getD (leastG L l i best) ⟨0, 0, 0⟩).s < (L.getD j ⟨0, 0, 0⟩).s
  | [], i, best, _, _, _, h2, _ => h2
  | t :: l, i, best, h, hb, hl, h2, h3 => by
    have hi : i < L.length := by
      have := congrArg List.length h
      rw [List.length_drop] at this
      simp at this
      omega
    have hti : L.getD i ⟨0, 0, 0⟩ = t := by
      rw [List.getD_eq_getElem?_getD]
      have := congrArg (fun x => x[0]?) h
      simp at this
      rw [← this]; rfl
    have hd : l = L.drop (i + 1) := by
      rw [List.drop_eq_getElem_cons hi] at h
      exact (List.cons.inj h).2
    unfold leastG
    by_cases hlt : t.s < (L.getD best ⟨0, 0, 0⟩).s
    · rw [if_pos hlt]
      refine leastG_first L l (i + 1) i hd (.inl (by omega)) hi (fun j hj => ?_) (fun j hj => ?_)
      · have := h3 j hj
        rw [hti]; omega
      · by_cases e : j = i
        · subst e; omega
        · have := h3 j (by omega)
          rw [hti]; omega
    · rw [if_neg hlt]
      refine leastG_first L l (i + 1) best hd (by omega) hl h2 (fun j hj => ?_)
      by_cases e : j = i
      · subst e; rw [hti]; omega
      · exact h3 j (by omega)
theorem lst_first {L : List Tg} (hok : LOk L) {x : Tg} (hx : x ∈ L) (he : x.s = (lst L).s) : (lst L).f ≤ x.f := by
  obtain ⟨q, hq⟩ := List.getElem?_of_mem hx
  obtain ⟨q1, q2⟩ := List.getElem?_eq_some_iff.1 hq
  have hp := leastN_lt (List.ne_nil_of_mem hx)
  have hl : lst L = L[leastN L] := by unfold lst; rw [List.getD_eq_getElem?_getD, List.getElem?_eq_getElem hp]; rfl
  by_cases hlt : q < leastN L
  · exfalso
    have := leastG_first L L 0 0 rfl (.inr rfl) (by omega) (fun j hj => absurd hj (Nat.not_lt_zero _)) (fun j hj => absurd hj (Nat.not_lt_zero _)) q hlt
    change (lst L).s < (L.getD q ⟨0, 0, 0⟩).s at this
    rw [List.getD_eq_getElem?_getD, hq] at this
    simp at this
    omega
  · by_cases e : q = leastN L
    · subst e; rw [hl, ← q2]; exact Int.le_refl _
    · have := List.pairwise_iff_getElem.1 hok.asc (leastN L) q hp q1 (by omega)
      rw [hl, ← q2]; omega
theorem srtK_head {L : List Tg} (hok : LOk L) (hne : L ≠ []) : ∃ ks, srtK (·.s) L = lst L :: ks := by
  cases hs : srtK (·.s) L with
  | nil => have := srtK_len (·.s) L; rw [hs] at this; simp at this; exact absurd this.symm (by simpa using hne)
  | cons x ks =>
    refine ⟨ks, ?_⟩
    have hp := srtK_sorted (key := (·.s)) hok.asc
    rw [hs, List.pairwise_cons] at hp
    have hx : x ∈ L := srtK_mem.1 (by rw [hs]; simp)
    have hm := lst_mem hne
    have hm2 : lst L ∈ x :: ks := by rw [← hs]; exact srtK_mem.2 hm
    rcases List.mem_cons.1 hm2 with e | hk
    · rw [e]
    · exfalso
      have h1 := hp.1 _ hk
      unfold ltK at h1
      rw [decide_eq_true_eq] at h1
      have h2 := lst_min hx
      rcases h1 with h1 | ⟨h1, h3⟩
      · change x.s < (lst L).s at h1; omega
      · have := lst_first hok hx h1; omega
theorem headOf_of {f : Int} (h : f ∈ H.map (·.f)) : headOf H f ∈ H ∧ (headOf H f).f = f := by
  obtain ⟨x, hx, e⟩ := List.mem_map.1 h
  unfold headOf
  cases hf : H.find? (fun h => h.f == f) with
  | none => have := List.find?_eq_none.1 hf x hx; simp at this; exact absurd e this
  | some y => exact ⟨List.mem_of_find?_eq_some hf, by simpa using List.find?_some hf⟩
theorem good_step (hz : ∀ f, (accO s.m f).1 = 0) (hok : LOk s.R.L) (hf : fitsH s.R.L H = true) (hne : H ≠ []) (hg : ∀ x ∈ H, x.good = true) {len : Int} (hlen : (headOf H (selT s.R.L).1).len = len) (hc : (chargeR reb s.R (selT s.R.L).1 len).1 = 0) :
    stepI reb s H = (⟨(selT s.R.L).1, (selT s.R.L).1, 1⟩, 0, ⟨(chargeR reb s.R (selT s.R.L).1 len).2, s.m⟩) := by
  obtain ⟨f1, f2⟩ := fits_len hf
  have hL : s.R.L ≠ [] := fun e => by rw [e] at f1; simp at f1; exact hne f1
  have hsel : (selT s.R.L).1 = (lst s.R.L).f := by unfold selT; rw [if_neg hL]
  have hkey : svcI s.m = (fun t => t.s) := by
    funext t
    unfold svcI
    rw [hz, Int.zero_mul, Int.sub_zero]
  obtain ⟨ks, hks⟩ := srtK_head hok hL
  rw [hsel] at hlen hc ⊢
  have hmem : (lst s.R.L).f ∈ H.map (·.f) := by rw [f1]; exact List.mem_map.2 ⟨_, lst_mem hL, rfl⟩
  have hgd := hg _ (headOf_of hmem).1
  have hokk : okI s.m H (lst s.R.L) (lst s.R.L) = true := by
    unfold okI permI
    rw [hgd, decide_eq_true rfl]
    rfl
  have hp : pairI (okI s.m H) (srtK (svcI s.m) s.R.L) (srtK (·.s) s.R.L) = some (lst s.R.L, lst s.R.L) := by
    rw [hkey, hks]
    unfold pairI
    rw [List.find?_cons_of_pos hokk]
  rw [stepI_eq hf hne, hp]
  dsimp only
  rw [hlen, if_neg (by rw [hc]; simp), if_pos rfl]
end
end Go.Proofs.YtkmlkpfabkhleaaGreat

/- Iwfq, plain: what the slots keep; joining one after the other; the example of chapter 25. -/
namespace Go.Proofs.YtkmlkpfabkhleaaGreat
open Go.RowKit
open SP
section
variable {i : Nat} {s : Iw} {H : List Head} {reb : Int} {m : List (Int × Acc)}

def accIn (a : Acc) : Prop := -a.2.2 ≤ a.1 ∧ a.1 ≤ a.2.1 ∧ 0 ≤ a.2.1 ∧ a.2.1 ≤ 1099511627776 ∧ 0 ≤ a.2.2 ∧ a.2.2 ≤ 1099511627776
structure IwInv (i : Nat) (s : Iw) : Prop where
  tb : TB i s.R
  acc : ∀ f, accIn (accO s.m f)
  ks : ∀ t ∈ s.R.L, ∃ a, mget s.m t.f = some a
theorem IwInv.accOk (h : IwInv i s) : AccOk s.m := fun f => by have := h.acc f; unfold accIn at this; omega
theorem IwInv.next (h : IwInv i s) : IwInv (i + 1) s := ⟨h.tb.next, h.acc, h.ks⟩
theorem IwInv.ok (h : IwInv i s) (hi : i ≤ 371) (reb : Int) : IwOk reb s :=
  ⟨h.tb.ok.ok, ⟨h.tb.aw0, by have := h.tb.aw1; omega⟩, h.accOk, h.ks, fun t ht len l1 l2 => (h.tb.charge hi ht l1 l2 reb).1⟩
theorem accO_mput (m : List (Int × Acc)) (k f : Int) (a : Acc) : accO (mput m k a) f = if f = k then a else accO m f := by
  unfold accO
  rw [mget_mput]
  split <;> rfl
theorem mem_ks {P L : List Tg} (h : P.map (fun u => (u.f, u.w)) = L.map (fun u => (u.f, u.w))) {t : Tg} (ht : t ∈ P) : ∃ u ∈ L, u.f = t.f := by
  have : (t.f, t.w) ∈ L.map (fun u => (u.f, u.w)) := by rw [← h]; exact List.mem_map.2 ⟨t, ht, rfl⟩
  obtain ⟨u, hu, e⟩ := List.mem_map.1 this
  exact ⟨u, hu, congrArg Prod.fst e⟩
/-- A slot keeps it. -/
theorem IwInv.step (h : IwInv i s) (hi : i ≤ 371) (hf : fitsH s.R.L H = true) (hne : H ≠ []) :
    (stepI reb s H).2.1 = 0 ∧ IwInv (i + 1) (stepI reb s H).2.2 ∧ (stepI reb s H).2.2.R.L.map (fun u => (u.f, u.w)) = s.R.L.map (fun u => (u.f, u.w)) := by
  obtain ⟨f1, f2⟩ := fits_len hf
  rw [stepI_eq hf hne]
  cases hp : pairI (okI s.m H) (srtK (svcI s.m) s.R.L) (srtK (·.s) s.R.L) with
  | none => exact ⟨rfl, h.next, rfl⟩
  | some kj =>
    obtain ⟨k, j⟩ := kj
    dsimp only
    obtain ⟨m1, m2, m3⟩ := pairI_mem hp
    unfold okI at m3
    rw [Bool.and_eq_true] at m3
    obtain ⟨x, hx, hxj, hxe⟩ := headOf_good m3.1
    have hl := f2 x hx
    rw [hxe] at m3 ⊢
    obtain ⟨c1, c2, c3⟩ := h.tb.charge hi (srtK_mem.1 m1) hl.1 hl.2 reb
    rw [if_neg (by rw [c1]; simp)]
    by_cases hkj : k.f = j.f
    · rw [if_pos hkj]
      exact ⟨rfl, ⟨c2, h.acc, fun t ht => by obtain ⟨u, hu, e⟩ := mem_ks c3 ht; rw [← e]; exact h.ks u hu⟩, c3⟩
    · rw [if_neg hkj]
      refine ⟨rfl, ⟨c2, fun f => ?_, fun t ht => ?_⟩, c3⟩
      · have hpm := m3.2
        unfold permI at hpm
        rw [decide_eq_false hkj, Bool.false_or, Bool.and_eq_true, decide_eq_true_eq, decide_eq_true_eq] at hpm
        dsimp only
        rw [accO_mput, accO_mput]
        have hk := h.acc k.f
        have hj := h.acc j.f
        have hff := h.acc f
        unfold accIn at *
        unfold accP
        split
        · dsimp only; omega
        · split
          · dsimp only; omega
          · exact hff
      · obtain ⟨u, hu, e⟩ := mem_ks c3 ht
        obtain ⟨a, ha⟩ := h.ks u hu
        dsimp only
        rw [← e, mget_mput]
        split
        · exact ⟨_, rfl⟩
        · rw [mget_mput]
          split
          · exact ⟨_, rfl⟩
          · exact ⟨a, ha⟩
def idJ (n : Nat) : List Int := (List.range n).map fun (k : Nat) => (k : Int)
theorem idJ_len (n : Nat) : (idJ n).length = n := by unfold idJ; simp
theorem insT_endI {x : Tg} : ∀ {L : List Tg}, (∀ t ∈ L, t.f < x.f) → insT x L = L ++ [x]
  | [], _ => rfl
  | t :: L, h => by
    unfold insT
    rw [if_pos (h t (by simp)), insT_endI fun u hu => h u (by simp [hu])]
    rfl
theorem idJ_lt {n : Nat} {f : Int} (h : f ∈ idJ n) : 0 ≤ f ∧ f < (n : Int) := by
  unfold idJ at h
  obtain ⟨q, hq, rfl⟩ := List.mem_map.1 h
  rw [List.mem_range] at hq
  omega
theorem idJ_succ (n : Nat) : idJ (n + 1) = idJ n ++ [(n : Int)] := by
  unfold idJ
  rw [List.range_succ, List.map_append]; rfl
/-- The next flow joins. -/
theorem join_next {S : St} {k : Nat} (h : TB i S) (hfl : S.L.map (·.f) = idJ k) (hk : k < 32) {w : Int} (h1 : 1 ≤ w) (h2 : w ≤ 16) :
    joinE S (k : Int) w = 0 ∧ TB i (joinS S (k : Int) w) ∧ (joinS S (k : Int) w).L.map (·.f) = idJ (k + 1) := by
  have hlt : ∀ t ∈ S.L, t.f < (k : Int) := fun t ht => (idJ_lt (by rw [← hfl]; exact List.mem_map.2 ⟨t, ht, rfl⟩)).2
  have hno : fget S.L (k : Int) = none := fget_none.2 fun t ht e => by have := hlt t ht; omega
  have he : joinE S (k : Int) w = 0 := by
    unfold joinE
    rw [if_neg (by omega), hno]
    rfl
  refine ⟨he, h.join he, ?_⟩
  show (insT ⟨(k : Int), w, _⟩ S.L).map (·.f) = _
  rw [insT_endI hlt, List.map_append, hfl, idJ_succ]
  rfl
theorem joinI_ok {k : Nat} (h : IwInv i s) (hfl : s.R.L.map (·.f) = idJ k) (hk : k < 32) {w x y : Int} (h1 : 1 ≤ w) (h2 : w ≤ 16) (hb : bndI x y = true) :
    joinI s (k : Int) w x y = (0, ⟨joinS s.R (k : Int) w, mput s.m (k : Int) (0, x, y)⟩) ∧ IwInv i ⟨joinS s.R (k : Int) w, mput s.m (k : Int) (0, x, y)⟩ ∧ (joinS s.R (k : Int) w).L.map (·.f) = idJ (k + 1) := by
  obtain ⟨he, hT, hf2⟩ := join_next h.tb hfl hk h1 h2
  refine ⟨by unfold joinI; rw [hb, if_neg (by simp), if_pos he], ⟨hT, fun f => ?_, fun t ht => ?_⟩, hf2⟩
  · dsimp only
    rw [accO_mput]
    split
    · unfold bndI at hb
      simp only [Bool.and_eq_true, decide_eq_true_eq] at hb
      unfold accIn
      dsimp only
      omega
    · exact h.acc f
  · dsimp only
    rw [mget_mput]
    split
    · exact ⟨_, rfl⟩
    · rename_i hne
      have hm : t.f ∈ idJ (k + 1) := by rw [← hf2]; exact List.mem_map.2 ⟨t, ht, rfl⟩
      rw [idJ_succ] at hm
      rcases List.mem_append.1 hm with hm | hm
      · rw [← hfl] at hm
        obtain ⟨u, hu, e⟩ := List.mem_map.1 hm
        rw [← e]
        exact h.ks u hu
      · simp at hm; exact absurd hm hne
theorem iw0_inv : IwInv 0 iw0 := ⟨TB.start, fun f => by rw [show accO iw0.m f = (0, 0, 0) from rfl]; unfold accIn; decide, fun t ht => by cases ht⟩
/-! ### The example -/
def awI0 : Iw := ⟨joinS (joinS iw0.R 0 1) 1 1, mput (mput [] 0 (0, 100, 100)) 1 (0, 100, 100)⟩
def awHd : List Head := [⟨0, 100, false⟩, ⟨1, 100, true⟩]
def awI (k : Nat) : Iw := match k with
  | 0 => awI0
  | k + 1 => (stepI 1099511627776 (awI k) awHd).2.2
theorem aw_join : joinI iw0 0 1 100 100 = (0, ⟨joinS iw0.R 0 1, mput [] 0 (0, 100, 100)⟩) ∧ joinI ⟨joinS iw0.R 0 1, mput [] 0 (0, 100, 100)⟩ 1 1 100 100 = (0, awI0) := ⟨rfl, rfl⟩
theorem awI_inv : ∀ k : Nat, k ≤ 3 → IwInv k (awI k) ∧ (awI k).R.L.map (·.f) = [0, 1]
  | 0, _ => by
    obtain ⟨_, h1, f1⟩ := joinI_ok (k := 0) (w := 1) (x := 100) (y := 100) iw0_inv rfl (by omega) (by decide) (by decide) rfl
    obtain ⟨_, h2, f2⟩ := joinI_ok (k := 1) (w := 1) (x := 100) (y := 100) h1 f1 (by omega) (by decide) (by decide) rfl
    exact ⟨h2, f2⟩
  | k + 1, hk => by
    obtain ⟨h, hf⟩ := awI_inv k (by omega)
    have hfit : fitsH (awI k).R.L awHd = true := by
      unfold fitsH
      rw [hf]
      decide
    obtain ⟨_, h2, h3⟩ := h.step (reb := 1099511627776) (H := awHd) (by omega) hfit (by simp [awHd])
    refine ⟨h2, ?_⟩
    show (stepI 1099511627776 (awI k) awHd).2.2.R.L.map (·.f) = _
    have := congrArg (List.map Prod.fst) h3
    rw [List.map_map, List.map_map] at this
    exact this.trans hf
theorem aw_fit (k : Nat) (hk : k ≤ 3) : fitsH (awI k).R.L awHd = true := by
  unfold fitsH
  rw [(awI_inv k hk).2]
  decide
theorem aw_res : (stepI 1099511627776 (awI 0) awHd).1 = ⟨0, 1, 5⟩ ∧ (stepI 1099511627776 (awI 1) awHd).1 = ⟨1, 1, 1⟩ ∧ (stepI 1099511627776 (awI 2) awHd).1 = ⟨1, 1, 1⟩ ∧ (stepI 1099511627776 (awI 2) awHd).2.1 = 0 := ⟨by decide, by decide, by decide, by decide⟩
end
end Go.Proofs.YtkmlkpfabkhleaaGreat

/- The reference of iwfq: bounds; indices in the order of their keys. -/
namespace Go.Proofs.YtkmlkpfabkhleaaGreat
open Go.RowKit
open SP
section
variable {w w' : World} {R : List SP} {b : Nat}

set_option maxHeartbeats 800000 in
theorem boundsOK_spec (x y : Int) (w : World) : Calls Tryz.prog 81 #[.int .i64 x, .int .i64 y] w (IsRet (.bool (bndI x y)) w) := by
  go_enter Tryz.func81, Tryz.ntmps81
  go_wp2
  · go_ret
    exact ⟨congrArg (fun z => Ending.returned (.bool z)) (by unfold bndI; simp [*]), rfl⟩
  all_goals go_ret
  all_goals exact ⟨congrArg (fun z => Ending.returned (.bool z)) (by symm; unfold bndI; simp only [Bool.and_eq_false_iff, decide_eq_false_iff_not]; omega), rfl⟩

/-- Indices in ascending order of their keys, then of themselves. -/
def ltN (ks : List Int) (a b : Nat) : Prop := ks.getD a 0 < ks.getD b 0 ∨ ks.getD a 0 = ks.getD b 0 ∧ a < b
structure OrdN (ks : List Int) (i : Nat) (os : List Nat) : Prop where
  perm : os.Perm (List.range i)
  asc : os.Pairwise (ltN ks)
theorem OrdN.nil (ks : List Int) : OrdN ks 0 [] := ⟨by rw [List.range_zero], .nil⟩
theorem OrdN.lt {ks : List Int} {i : Nat} {os : List Nat} (h : OrdN ks i os) {a : Nat} (ha : a ∈ os) : a < i := List.mem_range.1 (h.perm.mem_iff.1 ha)
theorem OrdN.len {ks : List Int} {i : Nat} {os : List Nat} (h : OrdN ks i os) : os.length = i := by rw [h.perm.length_eq, List.length_range]
theorem OrdN.add {ks : List Int} {i k : Nat} {os : List Nat} (h : OrdN ks i os) (hk : k ≤ os.length) (h1 : ∀ a ∈ os.drop k, ks.getD i 0 < ks.getD a 0) (h2 : k = 0 ∨ ∃ a, os[k - 1]? = some a ∧ ks.getD a 0 ≤ ks.getD i 0) :
    OrdN ks (i + 1) (os.take k ++ i :: os.drop k) := by
  have hsplit := List.take_append_drop k os
  have hasc := h.asc
  rw [← hsplit, List.pairwise_append] at hasc
  obtain ⟨p1, p2, p3⟩ := hasc
  have hbef : ∀ a ∈ os.take k, ks.getD a 0 ≤ ks.getD i 0 := fun a ha => by
    rcases h2 with rfl | ⟨z, hz, hle⟩
    · simp at ha
    · obtain ⟨q, hq⟩ := List.getElem?_of_mem ha
      obtain ⟨q1, q2⟩ := List.getElem?_eq_some_iff.1 hq
      rw [List.length_take] at q1
      obtain ⟨z1, z2⟩ := List.getElem?_eq_some_iff.1 hz
      rw [List.getElem_take] at q2
      by_cases e : q = k - 1
      · subst e; rw [← q2, z2]; exact hle
      · have := List.pairwise_iff_getElem.1 h.asc q (k - 1) (by omega) z1 (by omega)
        rw [q2, z2] at this
        unfold ltN at this
        omega
  refine ⟨?_, ?_⟩
  · have : (os.take k ++ i :: os.drop k).Perm (os.take k ++ os.drop k ++ [i]) := by
      rw [List.append_assoc]
      exact (List.perm_append_comm (l₁ := [i]) (l₂ := os.drop k)).append_left (os.take k)
    rw [hsplit] at this
    rw [List.range_succ]
    exact this.trans (h.perm.append_right [i])
  · rw [List.pairwise_append, List.pairwise_cons]
    refine ⟨p1, ⟨fun a ha => .inl (h1 a ha), p2⟩, fun a ha c hc => ?_⟩
    rcases List.mem_cons.1 hc with rfl | hc
    · have h3 := hbef a ha
      have h4 := h.lt (List.mem_of_mem_take ha)
      unfold ltN
      omega
    · exact p3 a ha c hc
def natI (os : List Nat) : List Value := os.map fun (k : Nat) => .int .i64 (k : Int)
theorem slc_cut {e : TypeId} {size g n c : Nat} {xs : List Value} {i k c' : Nat} (hik : i + k ≤ n) (h1 : ∀ u ∈ xs, u.oneCell' = true) (o : Own w (slc e size (some ⟨g, 0, none⟩) n c xs :: R)) :
    IsSrc w (.slice (some ⟨g, i * size, none⟩) k c') size k ((xs.drop (i * size)).take (k * size)) := by
  have hl := o.slc_len.1
  have hm : i * size + k * size ≤ n * size := by rw [← Nat.add_mul]; exact Nat.mul_le_mul_right size hik
  refine ⟨_, c', rfl, by rw [List.length_take, List.length_drop]; omega, fun u hu => h1 u (List.mem_of_mem_drop (List.mem_of_mem_take hu)), ?_⟩
  by_cases hk : k = 0
  · exact .inl hk
  · refine .inr ⟨_, rfl, fun j u hu => ?_⟩
    obtain ⟨g', hg, hc, _, _⟩ := o.slc_cell (by omega)
    cases hg
    have hadd : (⟨g, i * size, none⟩ : Addr).add j = ⟨g, i * size + j, none⟩ := by unfold Addr.add; split <;> simp_all
    rw [hadd]
    refine hc (i * size + j) u ?_
    rw [List.getElem?_take] at hu
    split at hu
    · rw [List.getElem?_drop] at hu; exact hu
    · cases hu
theorem natI_one (os : List Nat) : ∀ u ∈ natI os, u.oneCell' = true := fun u hu => by
  unfold natI at hu
  obtain ⟨k, _, rfl⟩ := List.mem_map.1 hu
  rfl
theorem natI_drop (os : List Nat) (k : Nat) : (natI os).drop k = natI (os.drop k) := by unfold natI; rw [List.map_drop]
theorem natI_take (os : List Nat) (k : Nat) : (natI os).take k = natI (os.take k) := by unfold natI; rw [List.map_take]
theorem natI_len (os : List Nat) : (natI os).length = os.length := by unfold natI; rw [List.length_map]
theorem natI_append (xs ys : List Nat) : natI (xs ++ ys) = natI xs ++ natI ys := by unfold natI; rw [List.map_append]
theorem natI_get {os : List Nat} {i a : Nat} (h : os[i]? = some a) : (natI os)[i]? = some (.int .i64 (a : Int)) := by unfold natI; rw [List.getElem?_map, h]; rfl
def OdRel (T : TypeId) (ks : List Int) (a : Option Addr) (c : Nat) (R : List SP) (w : World) (v3 v4 : Value) (wr : World) : Prop :=
  ∃ (i : Nat) (os : List Nat) (a3 : Option Addr) (c3 : Nat), v3 = .slice a3 i c3 ∧ v4 = .int .i64 (i : Int) ∧ i ≤ ks.length ∧ OrdN ks i os ∧
    Own wr (slc 3 1 a3 i c3 (natI os) :: slc T 1 a ks.length c (ks.map (Value.int .i64)) :: R) ∧ Calm w wr
def OiRel (ks : List Int) (i : Nat) (os : List Nat) (P : List SP) (w : World) (v5 : Value) (wr : World) : Prop :=
  ∃ k : Nat, v5 = .int .i64 (k : Int) ∧ k ≤ i ∧ (∀ a ∈ os.drop k, ks.getD i 0 < ks.getD a 0) ∧ Own wr P ∧ Calm w wr
def OxMid (ks : List Int) (i : Nat) (os : List Nat) (P : List SP) (w : World) (v5 : Value) (wr : World) : Prop :=
  ∃ k : Nat, v5 = .int .i64 (k : Int) ∧ k ≤ i ∧ OrdN ks (i + 1) (os.take k ++ i :: os.drop k) ∧ Own wr P ∧ Calm w wr
def OrdPost (T : TypeId) (ks : List Int) (a : Option Addr) (c : Nat) (R : List SP) (w : World) (e : Ending) (w' : World) : Prop :=
  ∃ (os : List Nat) (a' : Option Addr) (c' : Nat), OrdN ks ks.length os ∧ Ret (.slice a' ks.length c') (slc 3 1 a' ks.length c' (natI os) :: slc T 1 a ks.length c (ks.map (Value.int .i64)) :: R) w e w'
set_option maxHeartbeats 6400000 in
set_option maxRecDepth 100000 in
theorem order_spec {T : TypeId} {a : Option Addr} {c : Nat} {ks : List Int} (hl : ks.length ≤ 32) (o : Own w (slc T 1 a ks.length c (ks.map (Value.int .i64)) :: R)) :
    Calls Tryz.prog 131 #[.slice a ks.length c] w (OrdPost T ks a c R w) := by
  have hT : OdRel T ks a c R w (.slice none 0 0) (.int .i64 0) w := ⟨0, [], none, 0, rfl, rfl, Nat.zero_le _, .nil ks, Own.slc_nil o, Calm.refl w⟩
  clear o
  go_enter Tryz.func131, Tryz.ntmps131
  go_wp2
  go_loopw [3, 4] (fun v3 v4 wr => OdRel T ks a c R w v3 v4 wr) (fun _ v _ => ks.length - (Lib.intOf v).toNat)
  case atStart => exact hT
  case round =>
    clear hT
    obtain ⟨i, os, a3, c3, rfl, rfl, hi, hO, oR, kR⟩ := hrel
    by_cases hlt : i < ks.length
    · go_upto_block 2 with fail
      go_cut [5] (fun v5 wc => OxMid ks i os (slc 3 1 a3 i c3 (natI os) :: slc T 1 a ks.length c (ks.map (Value.int .i64)) :: R) w v5 wc)
      case first =>
        have hT : OiRel ks i os (slc 3 1 a3 i c3 (natI os) :: slc T 1 a ks.length c (ks.map (Value.int .i64)) :: R) w (.int .i64 (i : Int)) wr := ⟨i, rfl, Nat.le_refl _, by rw [← hO.len, List.drop_length]; simp, oR, kR⟩
        clear oR kR
        go_wp2
        go_loopw [5] (fun v5 wr => OiRel ks i os (slc 3 1 a3 i c3 (natI os) :: slc T 1 a ks.length c (ks.map (Value.int .i64)) :: R) w v5 wr) (fun v _ => (Lib.intOf v).toNat)
        case atStart => exact hT
        case round =>
          clear hT
          obtain ⟨k, rfl, hk, hd, oR, kR⟩ := hrel
          by_cases hk0 : k = 0
          · have HAD := Lib.hid (hO.add (k := 0) (Nat.zero_le _) (by rw [← hk0]; exact hd) (.inl rfl))
            have hkd : decide ((0 : Int) < (k : Int)) = false := decide_eq_false (by omega)
            have HK0 := Lib.hid hk0
            have hkn : ¬ 0 < k := by omega
            clear hd hk0
            go_wp2
            go_quiet (fail)
            go_wp2
            go_meet
            exact ⟨k, rfl, hk, by have := HAD.out; rw [HK0.out]; exact this, oR.drewN _, ⟨kR.os, kR.tape, kR.output⟩⟩
          · obtain ⟨z, hz⟩ : ∃ z, os[k - 1]? = some z := ⟨_, List.getElem?_eq_getElem (by rw [hO.len]; omega)⟩
            have hzi := hO.lt (List.mem_of_getElem? hz)
            obtain ⟨g, rfl, hc, _, _⟩ := oR.slc_cell (by omega)
            have dz := hc (k - 1) _ (natI_get hz)
            obtain ⟨ga, rfl, hca, _, _⟩ := (oR.up 1).slc_cell (by omega)
            have hg : ∀ q, q < ks.length → (ks.map (Value.int .i64))[q]? = some (.int .i64 (ks.getD q 0)) := fun q hq => by
              rw [List.getElem?_map, List.getD_eq_getElem?_getD, List.getElem?_eq_getElem hq]; rfl
            have da := hca z _ (hg z (by omega))
            have di := hca i _ (hg i hlt)
            clear hc hca hg
            have hk1 : ((k : Int) - 1) = ((k - 1 : Nat) : Int) := by omega
            have hkp : 0 < k := by omega
            have HD := Lib.hid hd
            have HZ := Lib.hid hz
            clear hd hz
            obtain ⟨X, hX⟩ : ∃ X, ks.getD z 0 = X := ⟨_, rfl⟩
            obtain ⟨Y, hY⟩ : ∃ Y, ks.getD i 0 = Y := ⟨_, rfl⟩
            rw [hX] at da
            rw [hY] at di
            have HX := Lib.hid hX
            have HY := Lib.hid hY
            clear hX hY
            by_cases hgt : Y < X
            · have hgd : decide (Y < X) = true := by simpa using hgt
              have hd' : ∀ a ∈ os.drop (k - 1), ks.getD i 0 < ks.getD a 0 := fun a ha => by
                obtain ⟨z1, z2⟩ := List.getElem?_eq_some_iff.1 HZ.out
                rw [List.drop_eq_getElem_cons z1, z2, show k - 1 + 1 = k by omega] at ha
                rcases List.mem_cons.1 ha with rfl | ha
                · rw [HX.out, HY.out]; exact hgt
                · exact HD.out a ha
              have HD' := Lib.hid hd'
              clear hd'
              go_wp2
              go_quiet (fail)
              go_wp2
              go_roundw
              case rel => exact ⟨k - 1, rfl, by omega, HD'.out, oR.drewN _, ⟨kR.os, kR.tape, kR.output⟩⟩
              case measure => simp [Lib.intOf]; omega
            · have hgd : decide (Y < X) = false := by simpa using hgt
              have HAD := Lib.hid (hO.add (k := k) (by rw [hO.len]; omega) HD.out (.inr ⟨z, HZ.out, by rw [HX.out, HY.out]; omega⟩))
              go_wp2
              go_quiet (fail)
              go_wp2
              go_meet
              exact ⟨k, rfl, hk, HAD.out, oR.drewN _, ⟨kR.os, kR.tape, kR.output⟩⟩
      case rest =>
        obtain ⟨k, rfl, hk, had, oK, kK⟩ := hcut
        clear oR kR
        have HAD := Lib.hid had
        clear had
        have oZ := slc_zero (e := 3) (size := 1) (oK.alloc (.cells #[] 3))
        have src0 : ∀ (w : World) (a : Option Addr) (c' : Nat), IsSrc w (.slice a 0 c') 1 0 [] := fun w a c' => ⟨a, c', rfl, by simp, by simp, .inl rfl⟩
        have SRC := Lib.hid src0
        clear src0
        have hOl := Lib.hid hO.len
        rcases Own.slc.1 oK with ⟨ha, hz, hcz, _, _⟩ | ⟨g, sp, ha, _, hc2, _, _, _⟩
        · subst ha
          have hk0 : k = 0 := by omega
          have ho0 : os = [] := List.eq_nil_of_length_eq_zero (by rw [hOl.out, hz])
          have HI := Lib.hid hz
          have srcI : ∀ (w : World) (a : Option Addr) (c' : Nat), IsSrc w (.slice a i c') 1 i [] := fun w a c' => by rw [hz]; exact SRC.out w a c'
          have SRCI := Lib.hid srcI
          clear hz hcz srcI
          subst hk0
          subst ho0
          go_wp2_with (at_builtin; refine wpList_append_src rfl _ _ rfl Tryz.intIw rfl oZ rfl (SRC.out _ _ _) (by unfold maxLen; omega) (by omega) ?k1)
          case k1 =>
          intro a5 c5 w5 o5 k5
          have oN := o5.alloc (.cells #[.int .i64 (i : Int)] 3)
          have hnw := Own.news (T := 3) (vs := [.int .i64 (i : Int)]) oN
          go_wp2_with (at_builtin; refine wpList_append_slc rfl _ _ rfl Tryz.intIw rfl (oN.up 1) ⟨w5.heap.size, 0, none⟩ 1 1 [.int .i64 (i : Int)] rfl rfl hnw (by intro u hu; simp at hu; rcases hu with rfl; rfl) (by unfold maxLen; omega) (by omega) ?k2)
          case k2 =>
          intro a7 c7 w7 o7 k7
          go_wp2_with (at_builtin; refine wpList_append_src rfl _ _ rfl Tryz.intIw rfl o7 rfl (SRCI.out _ _ _) (by unfold maxLen; omega) (by omega) ?k3)
          case k3 =>
          intro a9 c9 w9 o9 k9
          have oF : Own w9 (slc 3 1 a9 (i + 1) c9 (natI (([] : List Nat).take 0 ++ i :: ([] : List Nat).drop 0)) :: slc T 1 a ks.length c (ks.map (Value.int .i64)) :: R) := by
            have o9 := o9.re [1, 2] 2
            have e : natI (([] : List Nat).take 0 ++ i :: ([] : List Nat).drop 0) = natI (([] : List Nat).take 0) ++ .int .i64 (i : Int) :: natI (([] : List Nat).drop 0) := by rw [natI_append]; rfl
            rw [e]
            have hi0 := HI.out
            rw [hi0] at o9 ⊢
            exact o9
          go_wp2
          go_roundw
          case rel => exact ⟨i + 1, ([] : List Nat).take 0 ++ i :: ([] : List Nat).drop 0, a9, c9, by rw [HI.out], by go_num, by omega, HAD.out, oF, kK.trans (Calm.trans ⟨k5.os, k5.tape, k5.output⟩ (k7.al.trans k9))⟩
          case measure => simp [Lib.intOf]; omega
        · subst ha
          have s1 := slc_cut (e := 3) (size := 1) (g := g) (n := i) (c := c3) (i := 0) (k := k) (c' := c3) (by omega) (natI_one os) (oZ.up 1)
          rw [Nat.zero_mul, List.drop_zero, Nat.mul_one, natI_take] at s1
          have b2 : (k : Int) ≤ (i : Int) := by omega
          have b1 : (k : Int) ≤ (c3 : Int) := by omega
          have b1' : k ≤ c3 := by omega
          by_cases hkc : k = c3
          · have hik : i = k := by omega
            have z0 : i - k = 0 := by omega
            have z1 : (i : Int) ≤ (k : Int) := by omega
            have HIK := Lib.hid hik
            have HKC := Lib.hid hkc
            subst hkc
            clear hik
            go_wp2_with (at_builtin; refine wpList_append_src rfl _ _ rfl Tryz.intIw rfl oZ rfl s1 (by unfold maxLen; omega) (by omega) ?k1)
            case k1 =>
            intro a5 c5 w5 o5 k5
            have oN := o5.alloc (.cells #[.int .i64 (i : Int)] 3)
            have hnw := Own.news (T := 3) (vs := [.int .i64 (i : Int)]) oN
            go_wp2_with (at_builtin; refine wpList_append_slc rfl _ _ rfl Tryz.intIw rfl (oN.up 1) ⟨w5.heap.size, 0, none⟩ 1 1 [.int .i64 (i : Int)] rfl rfl hnw (by intro u hu; simp at hu; rcases hu with rfl; rfl) (by unfold maxLen; omega) (by omega) ?k2)
            case k2 =>
            intro a7 c7 w7 o7 k7
            go_wp2_with (at_builtin; refine wpList_append_src rfl _ _ rfl Tryz.intIw rfl o7 rfl (SRC.out _ _ _) (by unfold maxLen; omega) (by omega) ?k3)
            case k3 =>
            intro a9 c9 w9 o9 k9
            have oF : Own w9 (slc 3 1 a9 (i + 1) c9 (natI (os.take k ++ i :: os.drop k)) :: slc T 1 a ks.length c (ks.map (Value.int .i64)) :: R) := by
              have o9 := o9.re [1, 2] 2
              have e : natI (os.take k ++ i :: os.drop k) = natI (os.take k) ++ .int .i64 (i : Int) :: natI (os.drop k) := by rw [natI_append]; rfl
              rw [e]
              have hd0 : os.drop k = [] := List.drop_eq_nil_of_le (by rw [hOl.out, HIK.out]; exact Nat.le_refl _)
              rw [hd0]
              have hi0 := HIK.out
              rw [hi0] at o9 ⊢
              exact o9
            go_wp2
            go_roundw
            case rel => exact ⟨i + 1, os.take k ++ i :: os.drop k, a9, c9, by rw [HIK.out], by go_num, by omega, HAD.out, oF, kK.trans (Calm.trans ⟨k5.os, k5.tape, k5.output⟩ (k7.al.trans k9))⟩
            case measure => simp [Lib.intOf]; omega
          · have hkc1 : ((k : Int) == (c3 : Int)) = false := by rw [beq_eq_false_iff_ne]; omega
            have hkc2 : ¬ c3 = k := by omega
            have hkc3 : ¬ k = c3 := hkc
            go_wp2_with (at_builtin; refine wpList_append_src rfl _ _ rfl Tryz.intIw rfl oZ rfl s1 (by unfold maxLen; omega) (by omega) ?k1)
            case k1 =>
            intro a5 c5 w5 o5 k5
            have oN := o5.alloc (.cells #[.int .i64 (i : Int)] 3)
            have hnw := Own.news (T := 3) (vs := [.int .i64 (i : Int)]) oN
            go_wp2_with (at_builtin; refine wpList_append_slc rfl _ _ rfl Tryz.intIw rfl (oN.up 1) ⟨w5.heap.size, 0, none⟩ 1 1 [.int .i64 (i : Int)] rfl rfl hnw (by intro u hu; simp at hu; rcases hu with rfl; rfl) (by unfold maxLen; omega) (by omega) ?k2)
            case k2 =>
            intro a7 c7 w7 o7 k7
            have s2 := slc_cut (e := 3) (size := 1) (g := g) (n := i) (c := c3) (i := k) (k := i - k) (c' := c3 - k) (by omega) (natI_one os) (o7.up 2)
            rw [Nat.mul_one, Nat.mul_one, natI_drop, natI_take, List.take_of_length_le (by rw [List.length_drop, hOl.out]; omega)] at s2
            go_wp2_with (at_builtin; refine wpList_append_src rfl _ _ rfl Tryz.intIw rfl o7 rfl s2 (by unfold maxLen; omega) (by omega) ?k3)
            case k3 =>
            intro a9 c9 w9 o9 k9
            have oF : Own w9 (slc 3 1 a9 (i + 1) c9 (natI (os.take k ++ i :: os.drop k)) :: slc T 1 a ks.length c (ks.map (Value.int .i64)) :: R) := by
              have o9 := o9.re [1, 2] 2
              have e : natI (os.take k ++ i :: os.drop k) = natI (os.take k) ++ .int .i64 (i : Int) :: natI (os.drop k) := by rw [natI_append]; rfl
              rw [e]
              rw [show k + 1 + (i - k) = i + 1 by omega] at o9
              exact o9
            go_wp2
            go_roundw
            case rel => exact ⟨i + 1, os.take k ++ i :: os.drop k, a9, c9, by rw [show k + 1 + (i - k) = i + 1 by omega], by go_num, by omega, HAD.out, oF, kK.trans (Calm.trans ⟨k5.os, k5.tape, k5.output⟩ (k7.al.trans k9))⟩
            case measure => simp [Lib.intOf]; omega
    · have hin : i = ks.length := by omega
      subst hin
      go_wp2
      go_ret
      exact ⟨os, a3, c3, hO, rfl, oR, kR⟩
end
end Go.Proofs.YtkmlkpfabkhleaaGreat

/- The reference of iwfq, plain: its order of indices is the order of the tags. -/
namespace Go.Proofs.YtkmlkpfabkhleaaGreat
open Go.RowKit
section
def atT (L : List Tg) (q : Nat) : Tg := L.getD q ⟨0, 0, 0⟩
theorem atT_get {L : List Tg} {q : Nat} {t : Tg} (h : L[q]? = some t) : atT L q = t := by unfold atT; rw [List.getD_eq_getElem?_getD, h]; rfl
theorem atT_mem {L : List Tg} {q : Nat} (h : q < L.length) : atT L q ∈ L := by
  rw [atT_get (List.getElem?_eq_getElem h)]; exact List.getElem_mem h
theorem range_at (L : List Tg) : (List.range L.length).map (atT L) = L := by
  refine List.ext_getElem? fun q => ?_
  rw [List.getElem?_map]
  by_cases h : q < L.length
  · rw [List.getElem?_range h, List.getElem?_eq_getElem h]
    exact congrArg some (atT_get (List.getElem?_eq_getElem h))
  · rw [List.getElem?_eq_none (by simpa using h), List.getElem?_eq_none (by omega)]; rfl
theorem asc_at {L : List Tg} (hL : L.Pairwise (fun a b => a.f < b.f)) {p q : Nat} (hpq : p < q) (hq : q < L.length) : (atT L p).f < (atT L q).f := by
  rw [atT_get (List.getElem?_eq_getElem (show p < L.length by omega)), atT_get (List.getElem?_eq_getElem hq)]
  exact List.pairwise_iff_getElem.1 hL p q (by omega) hq hpq
theorem key_at {L : List Tg} (key : Tg → Int) {q : Nat} (h : q < L.length) : (L.map key).getD q 0 = key (atT L q) := by
  rw [atT_get (List.getElem?_eq_getElem h), List.getD_eq_getElem?_getD, List.getElem?_map, List.getElem?_eq_getElem h]; rfl
theorem ord_srt {key : Tg → Int} {L : List Tg} (hL : L.Pairwise (fun a b => a.f < b.f)) {os : List Nat} (h : OrdN (L.map key) L.length os) : os.map (atT L) = srtK key L := by
  refine sorted_eq (key := key) ?_ ?_ (srtK_sorted hL)
  · have := h.perm.map (atT L)
    rw [range_at] at this
    exact this.trans (srtK_perm key L).symm
  · rw [List.pairwise_map]
    refine List.Pairwise.imp_of_mem (fun {a b} ha hb hab => ?_) h.asc
    have la := h.lt ha
    have lb := h.lt hb
    unfold ltN at hab
    rw [key_at key la, key_at key lb] at hab
    unfold ltK
    rw [decide_eq_true_eq]
    rcases hab with hab | ⟨h1, h2⟩
    · exact .inl hab
    · exact .inr ⟨h1, asc_at hL h2 lb⟩
theorem headOf_idxI {H : List Head} {L : List Tg} (hf : H.map (·.f) = L.map (·.f)) (hL : L.Pairwise (fun a b => a.f < b.f)) {q : Nat} {x : Head} (hq : H[q]? = some x) : headOf H (atT L q).f = x := by
  have hlen : H.length = L.length := by have := congrArg List.length hf; simpa using this
  have hql := (List.getElem?_eq_some_iff.1 hq).1
  have hfx : ∀ (p : Nat) (y : Head), H[p]? = some y → y.f = (atT L p).f := fun p y hp => by
    have hpl := (List.getElem?_eq_some_iff.1 hp).1
    have := congrArg (fun l => l[p]?) hf
    simp only [List.getElem?_map, hp, List.getElem?_eq_getElem (show p < L.length by omega)] at this
    rw [atT_get (List.getElem?_eq_getElem (show p < L.length by omega))]
    exact Option.some.inj this
  have hm : (atT L q).f ∈ H.map (·.f) := List.mem_map.2 ⟨x, List.mem_of_getElem? hq, hfx q x hq⟩
  obtain ⟨h1, h2⟩ := headOf_of hm
  obtain ⟨p, hp⟩ := List.getElem?_of_mem h1
  have hpl := (List.getElem?_eq_some_iff.1 hp).1
  have h3 := hfx p _ hp
  rw [h2] at h3
  have : p = q := by
    rcases Nat.lt_trichotomy p q with h | h | h
    · have := asc_at hL h (by omega); omega
    · exact h
    · have := asc_at hL h (by omega); omega
  subst this
  rw [hq] at hp
  exact (Option.some.inj hp).symm
/-- The bounds of a flow as the reference keeps them. -/
def bdC (m : List (Int × Acc)) (t : Tg) : List Value := [.int .i64 t.f, .int .i64 (accO m t.f).1, .int .i64 (accO m t.f).2.1, .int .i64 (accO m t.f).2.2]
theorem bdC_len (m : List (Int × Acc)) (t : Tg) : (bdC m t).length = 4 := rfl
theorem flat_bd {m m' : List (Int × Acc)} : ∀ {L L' : List Tg}, L.map (·.f) = L'.map (·.f) → (∀ t ∈ L, accO m t.f = accO m' t.f) → flat (bdC m) L = flat (bdC m') L'
  | [], [], _, _ => rfl
  | [], _ :: _, h, _ => by simp at h
  | _ :: _, [], h, _ => by simp at h
  | t :: L, t' :: L', h, hm => by
    rw [List.map_cons, List.map_cons, List.cons.injEq] at h
    have h1 := flat_bd (m := m) (m' := m') h.2 fun u hu => hm u (by simp [hu])
    have h2 : bdC m t = bdC m' t' := by unfold bdC; rw [hm t (by simp), h.1]
    unfold flat at *
    rw [List.flatMap_cons, List.flatMap_cons, h1, h2]
end
end Go.Proofs.YtkmlkpfabkhleaaGreat

/- The reference of chapter 12 and 13: its lists, plain; New, goodWeight, Index. -/
namespace Go.Proofs.YtkmlkpfabkhleaaGreat
open Go.RowKit
open SP

/-! ### Plain -/
def oldM (f : Int) (O : List Tg) : Int := O.foldl (fun a t => if t.f = f then max a t.s else a) 0
theorem oldM_snoc (f : Int) (O : List Tg) (t : Tg) : oldM f (O ++ [t]) = if t.f = f then max (oldM f O) t.s else oldM f O := by
  unfold oldM; rw [List.foldl_append]; rfl
theorem foldM_ne (f : Int) : ∀ (O : List Tg) (a : Int), (∀ t ∈ O, t.f ≠ f) → O.foldl (fun a t => if t.f = f then max a t.s else a) a = a
  | [], a, _ => rfl
  | t :: O, a, h => by
    rw [List.foldl_cons, if_neg (h t (by simp))]
    exact foldM_ne f O a (fun t ht => h t (by simp [ht]))
theorem foldM_del (f g : Int) (hg : g ≠ f) : ∀ (O : List Tg) (a : Int), (delT f O).foldl (fun a t => if t.f = g then max a t.s else a) a = O.foldl (fun a t => if t.f = g then max a t.s else a) a
  | [], a => rfl
  | t :: O, a => by
    unfold delT
    by_cases h : t.f = f
    · rw [List.filter_cons_of_neg (by simp [h]), List.foldl_cons, if_neg (by rw [h]; exact fun e => hg e.symm)]
      exact foldM_del f g hg O a
    · rw [List.filter_cons_of_pos (by simp [h]), List.foldl_cons, List.foldl_cons]
      exact foldM_del f g hg O _
theorem oldM_del (f g : Int) (O : List Tg) : oldM g (delT f O) = if g = f then 0 else oldM g O := by
  split
  · rename_i h
    subst h
    exact foldM_ne _ _ _ (fun t ht => (mem_delT.1 ht).2)
  · rename_i h
    exact foldM_del f g h O 0
def lowO (by_ : Int) (t : Tg) : Tg := ⟨t.f, t.w, max (t.s - by_) 0⟩
theorem foldM_low (f by_ : Int) (h0 : 0 ≤ by_) : ∀ (O : List Tg) (a : Int), (O.map (lowO by_)).foldl (fun a t => if t.f = f then max a t.s else a) (max (a - by_) 0) = max (O.foldl (fun a t => if t.f = f then max a t.s else a) a - by_) 0
  | [], a => rfl
  | t :: O, a => by
    rw [List.map_cons, List.foldl_cons, List.foldl_cons]
    have e : (if (lowO by_ t).f = f then max (max (a - by_) 0) (lowO by_ t).s else max (a - by_) 0) = max ((if t.f = f then max a t.s else a) - by_) 0 := by
      show (if t.f = f then max (max (a - by_) 0) (max (t.s - by_) 0) else max (a - by_) 0) = _
      split <;> omega
    rw [e]
    exact foldM_low f by_ h0 O _
theorem oldM_low (f by_ : Int) (h0 : 0 ≤ by_) (O : List Tg) : oldM f (O.map (lowO by_)) = max (oldM f O - by_) 0 := by
  have := foldM_low f by_ h0 O 0
  rw [show max ((0 : Int) - by_) 0 = 0 from by omega] at this
  exact this
/-- The lists of the reference say what the state says. -/
structure R12 (S : St) (O : List Tg) : Prop where
  old : ∀ f, oldM f O = S.old f
  act : ∀ t ∈ S.L, S.old t.f = 0
  rng : ∀ t ∈ O, 0 ≤ t.s ∧ t.s ≤ 1099511627776
theorem R12.start : R12 ⟨[], fun _ => 0, 0, 0⟩ [] := ⟨fun _ => rfl, fun t ht => by simp at ht, fun t ht => by simp at ht⟩

/-! ### The block; the lists lie in a pool -/
def RefT (P : SP) (b : Nat) (at_ : Int) (L O : List Tg) (now aw : Int) : SP := ex fun (p : (Option Addr × Nat) × Option Addr × Nat) =>
  st [pu ((TagsAt P p.1.1 L ∧ SlOk p.1.1 p.1.2) ∧ L.length ≤ p.1.2 ∧ (TagsAt P p.2.1 O ∧ SlOk p.2.1 p.2.2) ∧ O.length ≤ p.2.2), cel b 60 [.int .i64 at_, .slice p.1.1 L.length p.1.2, .slice p.2.1 O.length p.2.2, .int .i64 now, .int .i64 aw]]
section
variable {P W' : SP} {W w w' : World} {R : List SP} {b : Nat} {at_ now aw : Int} {L O : List Tg}
theorem RefT.iff : Own w (RefT P b at_ L O now aw :: R) ↔ ∃ a c a2 c2, ((TagsAt P a L ∧ SlOk a c) ∧ L.length ≤ c ∧ (TagsAt P a2 O ∧ SlOk a2 c2) ∧ O.length ≤ c2) ∧ Own w (cel b 60 [.int .i64 at_, .slice a L.length c, .slice a2 O.length c2, .int .i64 now, .int .i64 aw] :: R) := by
  constructor
  · intro o
    obtain ⟨⟨⟨a, c⟩, a2, c2⟩, h⟩ := Own.ex.1 o
    obtain ⟨h1, h2⟩ := Own.pu.1 (Own.st.1 h)
    exact ⟨a, c, a2, c2, h1, h2⟩
  · rintro ⟨a, c, a2, c2, h1, h2⟩
    exact Own.ex.2 ⟨((a, c), a2, c2), Own.st.2 (Own.pu.2 ⟨h1, h2⟩)⟩
theorem RefT.mono {P' : SP} (h : PExtT P P') (o : Own w (RefT P b at_ L O now aw :: R)) : Own w (RefT P' b at_ L O now aw :: R) := by
  obtain ⟨a, c, a2, c2, ⟨h1, h2, h3, h4⟩, h5⟩ := RefT.iff.1 o
  exact RefT.iff.2 ⟨a, c, a2, c2, ⟨⟨h _ _ h1.1, h1.2⟩, h2, ⟨h _ _ h3.1, h3.2⟩, h4⟩, h5⟩
set_option maxHeartbeats 800000 in
theorem refNew12_spec (r : Int) (h1 : 1 ≤ r) (h2 : r ≤ 1099511627776) (o : Own w R) :
    Calls Tryz.prog 56 #[.int .i64 r] w fun e w' => ∃ b, Ret (.tuple #[.pointer (some ⟨b, 0, none⟩), .int .i64 0]) (RefT P b r [] [] 0 0 :: R) w e w' := by
  have o1 := o.alloc (.cells #[.int .i64 r, .slice none 0 0, .slice none 0 0, .int .i64 0, .int .i64 0] 60)
  go_enter Tryz.func56, Tryz.ntmps56
  go_wp2
  go_ret2
  exact ⟨_, rfl, RefT.iff.2 ⟨none, 0, none, 0, ⟨⟨tagsAt_nil _ _, .inl ⟨rfl, rfl⟩⟩, Nat.le_refl _, ⟨tagsAt_nil _ _, .inl ⟨rfl, rfl⟩⟩, Nat.le_refl _⟩, o1⟩, ⟨rfl, rfl, rfl⟩⟩
theorem goodW_spec (x : Int) (w : World) : Calls Tryz.prog 123 #[.int .i64 x] w (IsRet (.bool (decide (1 ≤ x ∧ x ≤ 16))) w) := by
  by_cases h1 : 1 ≤ x
  · have e : decide (1 ≤ x ∧ x ≤ 16) = decide (x ≤ 16) := by simp [h1]
    rw [e]; clear e
    go_enter Tryz.func123, Tryz.ntmps123
    go_wp2
    go_ret
    exact ⟨rfl, rfl⟩
  · have e : decide (1 ≤ x ∧ x ≤ 16) = false := by simp [h1]
    rw [e]; clear e
    go_enter Tryz.func123, Tryz.ntmps123
    go_wp2
    go_ret
    exact ⟨rfl, rfl⟩
def IdxRel (L : List Tg) (f T : Int) (w : World) (v : Value) (wr : World) : Prop := ∃ i : Nat, v = .int .i64 (i : Int) ∧ i ≤ L.length ∧ idxT f i (L.drop i) = T ∧ wr = w
set_option maxHeartbeats 800000 in
set_option maxRecDepth 100000 in
theorem index_spec (f : Int) (hL : L.length ≤ 1000) (o : Own w (RefT P b at_ L O now aw :: P :: R)) :
    Calls Tryz.prog 83 #[.pointer (some ⟨b, 0, none⟩), .int .i64 f] w (IsRet (.int .i64 (idxT f 0 L)) w) := by
  obtain ⟨a, c, a2, c2, ⟨⟨hP, -⟩, hc, -, -⟩, o1⟩ := RefT.iff.1 o
  have c1 := o1.cell 1
  have hT : IdxRel L f (idxT f 0 L) w (.int .i64 0) w := ⟨0, rfl, by omega, rfl, rfl⟩
  generalize idxT f 0 L = T at *
  generalize hn : L.length = n at *
  have Hn := Lib.hid hn
  clear hn
  go_enter Tryz.func83, Tryz.ntmps83
  go_wp2
  go_loopw [5] (fun v wr => IdxRel L f T w v wr) (fun v _ => n - (intOf v).toNat)
  case atStart => exact hT
  case round =>
    clear hT
    obtain ⟨i, rfl, hi, hE, rfl⟩ := hrel
    rw [Hn.out] at hi
    have HT := Lib.hid hE
    clear hE
    by_cases hlt : i < n
    · obtain ⟨⟨x, y, z⟩, hx⟩ : ∃ x, L[i]? = some x := ⟨_, List.getElem?_eq_getElem (by rw [Hn.out]; exact hlt)⟩
      obtain ⟨g, so, hg, d0, d1, d2⟩ := hP _ _ (o1.up 1) i _ hx
      subst hg
      have HD := Lib.hid (drop_cons hx)
      clear hx
      dsimp only at d0 d1 d2
      by_cases he : x = f
      · subst he
        go_wp2
        go_ret
        refine ⟨?_, rfl⟩
        rw [← HT.out, HD.out, idxT, if_pos rfl]; rfl
      · have heb : (x == f) = false := by simpa using he
        go_wp2
        go_roundw
        case rel => exact ⟨i + 1, by go_num, by rw [Hn.out]; omega, by rw [← HT.out, HD.out, idxT, if_neg he], rfl⟩
        case measure => simp [intOf]; omega
    · go_wp2
      go_ret
      refine ⟨?_, rfl⟩
      rw [← HT.out, List.drop_eq_nil_of_le (by rw [Hn.out]; omega)]; rfl
end
end Go.Proofs.YtkmlkpfabkhleaaGreat

/- The reference of iwfq: heads; its block; the tag of service. -/
namespace Go.Proofs.YtkmlkpfabkhleaaGreat
open Go.RowKit
open SP
section
variable {w w' : World} {R : List SP} {b rb : Nat} {at_ now aw : Int} {L O : List Tg} {P Sp : SP} {S : St} {m : List (Int × Acc)}

set_option maxHeartbeats 6400000 in
set_option maxRecDepth 100000 in
theorem headsOK_spec {a : Option Addr} {n c : Nat} {H : List Head} (h1 : HeadsAt Sp a H) (hn : n = H.length) (hl : L.length ≤ 1000) (o : Own w (RefT P rb at_ L O now aw :: P :: Sp :: R)) :
    Calls Tryz.prog 111 #[.pointer (some ⟨rb, 0, none⟩), .slice a n c] w (Ret (.bool (fitsH L H)) (RefT P rb at_ L O now aw :: P :: Sp :: R) w) := by
  rw [← fitsL_eq]
  obtain ⟨X, hX⟩ : ∃ X, fitsL H L = X := ⟨_, rfl⟩
  rw [hX]
  have HX := Lib.hid hX
  have Hn := Lib.hid hn
  obtain ⟨a1, c1, a2, c2, ⟨⟨hP, hs⟩, hc, hP2⟩, o1⟩ := RefT.iff.1 o
  have e1 := o1.cell 1
  by_cases hne : n = L.length
  · have HL := Lib.hid hne
    have hT : FitRel (RefT P rb at_ L O now aw) P H L (Sp :: R) w (.int .i64 0) w := ⟨0, rfl, by omega, rfl, o, Calm.refl w⟩
    have hb : ((n : Int) == (L.length : Int)) = true := by rw [hne]; simp
    have hb2 : ((n : Int) != (L.length : Int)) = false := by rw [hne]; simp
    clear hne hn hX o o1
    go_enter Tryz.func111, Tryz.ntmps111
    go_wp2
    go_loopw [5] (fun v wr => FitRel (RefT P rb at_ L O now aw) P H L (Sp :: R) w v wr) (fun v _ => n - (Lib.intOf v).toNat)
    case atStart => exact hT
    case round =>
      clear hT e1 hb hb2 hP2 hc hs hP
      obtain ⟨i, rfl, hi, hid, oR, kR⟩ := hrel
      have HI := Lib.hid hid
      clear hid
      by_cases hlt : i < n
      · obtain ⟨a1, c1, a2, c2, ⟨⟨hP, hs⟩, hc, hP2⟩, o1⟩ := RefT.iff.1 oR
        have e1 := o1.cell 1
        obtain ⟨h, hh⟩ : ∃ h, H[i]? = some h := ⟨_, List.getElem?_eq_getElem (by have := Hn.out; omega)⟩
        obtain ⟨t, ht⟩ : ∃ t, L[i]? = some t := ⟨_, List.getElem?_eq_getElem (by have := HL.out; omega)⟩
        obtain ⟨g, rfl, d0, d1, d2⟩ := h1 _ _ (oR.up 2) i _ hh
        obtain ⟨g', so, rfl, t0, t1, t2⟩ := hP _ _ (oR.up 1) i _ ht
        have HST := Lib.hid (fitsL_step hh ht)
        have hiL : i < L.length := (List.getElem?_eq_some_iff.1 ht).1
        clear hh ht hP2 hc hs hP
        have key : fit1 h t = true ∨ fit1 h t = false := by cases fit1 h t <;> simp
        rcases key with he | he
        · have hv : fitsL H L = fitsL (H.drop (i + 1)) (L.drop (i + 1)) := by rw [HI.out, HST.out, he]; rfl
          have HV := Lib.hid hv
          unfold fit1 at he
          simp only [Bool.and_eq_true, decide_eq_true_eq, beq_iff_eq] at he
          obtain ⟨g1, g2, g3⟩ := he
          have x1 : (h.f == t.f) = true := by simpa using g1
          have y1 : (h.f != t.f) = false := by simpa using g1
          have x2 : decide (h.len < 1) = false := decide_eq_false (by omega)
          have x3 : decide (4096 < h.len) = false := decide_eq_false (by omega)
          clear hv g1 g2 g3
          go_wp2
          go_quiet (fail)
          go_wp2
          go_roundw
          case rel => exact ⟨i + 1, by go_num, by have := Hn.out; omega, HV.out, oR.drewN _, ⟨kR.os, kR.tape, kR.output⟩⟩
          case measure => simp [Lib.intOf]; omega
        · have hv : X = false := by rw [← HX.out, HI.out, HST.out, he]; rfl
          have HV := Lib.hid hv
          unfold fit1 at he
          clear hv
          cases x1 : h.f == t.f with
          | false =>
            have y1 : (h.f != t.f) = true := by simpa using x1
            clear he
            go_wp2
            go_quiet (fail)
            go_wp2
            go_ret
            exact ⟨by rw [HV.out]; rfl, oR.drewN _, ⟨kR.os, kR.tape, kR.output⟩⟩
          | true =>
            have y1 : (h.f != t.f) = false := by simpa using x1
            by_cases g2 : h.len < 1
            · have x2 : decide (h.len < 1) = true := by simpa using g2
              clear he g2
              go_wp2
              go_quiet (fail)
              go_wp2
              go_ret
              exact ⟨by rw [HV.out]; rfl, oR.drewN _, ⟨kR.os, kR.tape, kR.output⟩⟩
            · have x2 : decide (h.len < 1) = false := by simpa using g2
              have x3 : decide (4096 < h.len) = true := by
                rw [x1, Bool.true_and, Bool.and_eq_false_iff, decide_eq_false_iff_not, decide_eq_false_iff_not] at he
                exact decide_eq_true (by omega)
              clear he g2
              go_wp2
              go_quiet (fail)
              go_wp2
              go_ret
              exact ⟨by rw [HV.out]; rfl, oR.drewN _, ⟨kR.os, kR.tape, kR.output⟩⟩
      · have hn := Hn.out
        have hn' := HL.out
        have hv : X = true := by
          rw [← HX.out, HI.out, List.drop_eq_nil_of_le (by omega), List.drop_eq_nil_of_le (by omega)]; rfl
        have HV := Lib.hid hv
        clear hv hn hn'
        go_wp2
        go_ret
        exact ⟨by rw [HV.out]; rfl, oR, kR⟩
  · have hv : X = false := by rw [← hX]; exact fitsL_len (by omega)
    have hb : ((n : Int) == (L.length : Int)) = false := by simpa using (by omega : ¬ (n : Int) = (L.length : Int))
    have hb2 : ((n : Int) != (L.length : Int)) = true := by simpa using (by omega : ¬ (n : Int) = (L.length : Int))
    have HV := Lib.hid hv
    clear hv hX hn hne
    go_enter Tryz.func111, Tryz.ntmps111
    go_wp2
    go_ret
    exact ⟨by rw [HV.out]; rfl, o, Calm.refl w⟩
end
end Go.Proofs.YtkmlkpfabkhleaaGreat

/- The reference of iwfq: its block; the tag of service; which packets may be sent. -/
namespace Go.Proofs.YtkmlkpfabkhleaaGreat
open Go.RowKit
open SP
section
variable {w w' : World} {R : List SP} {b pr : Nat} {at_ : Int} {O : List Tg} {P Sp : SP} {S : St} {m : List (Int × Acc)}

abbrev IwTc (b pr : Nat) (aB : Option Addr) (n cB : Nat) : SP := cel b 80 [.pointer (some ⟨pr, 0, none⟩), .slice aB n cB]
abbrev bdS (aB : Option Addr) (cB : Nat) (m : List (Int × Acc)) (L : List Tg) : SP := slc 145 4 aB L.length cB (flat (bdC m) L)
def IwT (P : SP) (b : Nat) (at_ : Int) (S : St) (O : List Tg) (m : List (Int × Acc)) : SP := ex fun (p : Nat × Option Addr × Nat) =>
  st [IwTc b p.1 p.2.1 S.L.length p.2.2, RefT P p.1 at_ S.L O S.tm S.aw, bdS p.2.1 p.2.2 m S.L]
theorem IwT.iff : Own w (IwT P b at_ S O m :: R) ↔ ∃ pr aB cB, Own w (IwTc b pr aB S.L.length cB :: RefT P pr at_ S.L O S.tm S.aw :: bdS aB cB m S.L :: R) := by
  constructor
  · intro o
    obtain ⟨⟨pr, aB, cB⟩, h⟩ := Own.ex.1 o
    exact ⟨pr, aB, cB, Own.st.1 h⟩
  · rintro ⟨pr, aB, cB, h⟩
    exact Own.ex.2 ⟨(pr, aB, cB), Own.st.2 h⟩

set_option maxHeartbeats 800000 in
set_option maxRecDepth 100000 in
theorem refNorm_spec (x wt : Int) (h1 : -1099511627776 ≤ x) (h2 : x ≤ 1099511627776) (h3 : 1 ≤ wt) (h4 : wt ≤ 16) (w : World) :
    Calls Tryz.prog 167 #[.int .i64 x, .int .i64 wt] w (IsRet (.tuple #[.int .i64 (x * unit1 wt), .int .i64 0]) w) := by
  have hw := goodW_spec wt w
  rw [show decide (1 ≤ wt ∧ wt ≤ 16) = true from by simp; omega] at hw
  obtain ⟨u1, u2⟩ := unit1_range h3 h4
  have m1 : x * unit1 wt ≤ 1099511627776 * 720720 := by
    by_cases h0 : 0 ≤ x
    · exact Int.mul_le_mul h2 u2 (by omega) (by omega)
    · have := Int.mul_nonneg (show 0 ≤ -x by omega) (show 0 ≤ unit1 wt by omega)
      rw [Int.neg_mul] at this
      omega
  have m2 : -(1099511627776 * 720720) ≤ x * unit1 wt := by
    by_cases h0 : 0 ≤ x
    · have := Int.mul_nonneg h0 (show 0 ≤ unit1 wt by omega); omega
    · have := Int.mul_le_mul (show -x ≤ 1099511627776 by omega) u2 (by omega) (by omega)
      rw [Int.neg_mul] at this
      omega
  have e1 : Int.tdiv 720720 wt = unit1 wt := rfl
  obtain ⟨z, hz⟩ : ∃ z, x * unit1 wt = z := ⟨_, rfl⟩
  rw [hz] at m1 m2 ⊢
  generalize unit1 wt = u at *
  have hz : ¬ wt = 0 := by omega
  have d1 : decide (x < -1099511627776) = false := decide_eq_false (by omega)
  have d2 : decide (1099511627776 < x) = false := decide_eq_false (by omega)
  go_enter Tryz.func167, Tryz.ntmps167
  go_wp2_with fail
  refine hw.mono ?_
  rintro e1 w1 ⟨rfl, rfl⟩
  go_wp2
  go_ret2
  exact ⟨rfl, rfl⟩

set_option maxHeartbeats 3200000 in
set_option maxRecDepth 100000 in
theorem refSvc_spec {aB : Option Addr} {cB q : Nat} {t : Tg} (hm : LagOk m) (ht : S.L[q]? = some t) (hr : TgR t) (o : Own w (IwTc b pr aB S.L.length cB :: RefT P pr at_ S.L O S.tm S.aw :: bdS aB cB m S.L :: P :: R)) :
    Calls Tryz.prog 130 #[.pointer (some ⟨b, 0, none⟩), .int .i64 (q : Int)] w (GRet (.int .i64 (svcI m t)) w) := by
  have hql := (List.getElem?_eq_some_iff.1 ht).1
  have c0 := o.cell 0
  have c1 := o.cell 1
  obtain ⟨a1, c1', a2, c2, ⟨⟨hP, hs⟩, hc, hP2⟩, o1⟩ := RefT.iff.1 (o.up 1)
  have e1 := o1.cell 1
  obtain ⟨g', so, rfl, t0, t1, t2⟩ := hP _ _ (o.up 3) q _ ht
  obtain ⟨g, rfl, hcb, _, _⟩ := (o.up 2).slc_cell (by omega)
  have d1 := hcb (q * 4 + 1) _ (flat_get (bdC_len m) S.L q 1 t ht (by omega))
  change w.cell? ⟨g, q * 4 + 1, none⟩ = some (.int .i64 (accO m t.f).1) at d1
  have hrg := svc_rng (hm t.f).1 (hm t.f).2 hr.w1 hr.w2 hr.s1 hr.s2
  have hnm := fun w => refNorm_spec (accO m t.f).1 t.w (hm t.f).1 (hm t.f).2 hr.w1 hr.w2 w
  unfold svcI
  generalize accO m t.f = A at *
  obtain ⟨x, x1, x2⟩ := A
  dsimp only at *
  generalize x * unit1 t.w = z at *
  clear hcb hP hs hc hP2 ht
  go_enter Tryz.func130, Tryz.ntmps130
  go_wp2
  refine wp_region_tail 24 (by kernel_rfl) (by kernel_rfl) ?_
  simp only [List.take_succ_cons, List.take_zero, List.drop_succ_cons, List.drop_zero]
  repeat still_step
  still_call (IsRet.still (hnm _))
  repeat still_step
  refine wpStill_nil ?_
  go_wp2
  go_ret
  exact ⟨rfl, (Grw.refl w).drew⟩

set_option maxHeartbeats 3200000 in
set_option maxRecDepth 100000 in
theorem refPermitted_spec {aB : Option Addr} {cB k j : Nat} {tk tj : Tg} {x : Head} {a : Option Addr} {n c : Nat} {H : List Head} (hm : AccOk m) (hk : S.L[k]? = some tk) (hj : S.L[j]? = some tj) (hkj : k = j ↔ tk.f = tj.f) (hx : H[j]? = some x) (hn : n = H.length) (hl0 : 1 ≤ x.len) (hl1 : x.len ≤ 4096) (h1 : HeadsAt Sp a H)
    (o : Own w (IwTc b pr aB S.L.length cB :: RefT P pr at_ S.L O S.tm S.aw :: bdS aB cB m S.L :: P :: Sp :: R)) :
    Calls Tryz.prog 132 #[.pointer (some ⟨b, 0, none⟩), .int .i64 (k : Int), .int .i64 (j : Int), .slice a n c] w (GRet (.bool (x.good && permI m tk.f tj.f x.len)) w) := by
  have hkl := (List.getElem?_eq_some_iff.1 hk).1
  have hjl := (List.getElem?_eq_some_iff.1 hj).1
  have hjn : j < n := by rw [hn]; exact (List.getElem?_eq_some_iff.1 hx).1
  have c1 := o.cell 1
  obtain ⟨g, rfl, hcb, _, _⟩ := (o.up 2).slc_cell (by omega)
  have k1 := hcb (k * 4 + 1) _ (flat_get (bdC_len m) S.L k 1 tk hk (by omega))
  have k2 := hcb (k * 4 + 2) _ (flat_get (bdC_len m) S.L k 2 tk hk (by omega))
  have j1 := hcb (j * 4 + 1) _ (flat_get (bdC_len m) S.L j 1 tj hj (by omega))
  have j3 := hcb (j * 4 + 3) _ (flat_get (bdC_len m) S.L j 3 tj hj (by omega))
  change w.cell? ⟨g, k * 4 + 1, none⟩ = some (.int .i64 (accO m tk.f).1) at k1
  change w.cell? ⟨g, k * 4 + 2, none⟩ = some (.int .i64 (accO m tk.f).2.1) at k2
  change w.cell? ⟨g, j * 4 + 1, none⟩ = some (.int .i64 (accO m tj.f).1) at j1
  change w.cell? ⟨g, j * 4 + 3, none⟩ = some (.int .i64 (accO m tj.f).2.2) at j3
  obtain ⟨gh, rfl, d0, d1, d2⟩ := h1 _ _ (o.up 4) j _ hx
  have hK := hm tk.f
  have hJ := hm tj.f
  have hperm : permI m tk.f tj.f x.len = (decide (k = j) || (decide ((accO m tk.f).1 + x.len ≤ (accO m tk.f).2.1) && decide (-(accO m tj.f).2.2 ≤ (accO m tj.f).1 - x.len))) := by
    unfold permI
    congr 1
    rw [decide_eq_decide]
    exact hkj.symm
  rw [hperm]
  generalize accO m tk.f = A at *
  generalize accO m tj.f = B at *
  obtain ⟨x0, x1, x2⟩ := A
  obtain ⟨y0, y1, y2⟩ := B
  dsimp only at *
  obtain ⟨xf, xl, xg⟩ := x
  dsimp only at *
  clear hcb hk hj hx hn hperm h1
  cases xg with
  | false =>
    go_enter Tryz.func132, Tryz.ntmps132
    go_wp2
    go_quiet (fail)
    go_wp2
    go_ret
    exact ⟨rfl, Grw.drewN w _⟩
  | true =>
    rw [Bool.true_and]
    by_cases he : k = j
    · have e1 : ((j : Int) == (k : Int)) = true := by rw [he]; simp
      have e2 : decide (k = j) = true := by simpa using he
      rw [e2]
      clear he e2 hkj
      go_enter Tryz.func132, Tryz.ntmps132
      go_wp2
      go_quiet (fail)
      go_wp2
      go_ret
      exact ⟨rfl, Grw.drewN w _⟩
    · have e1 : ((j : Int) == (k : Int)) = false := by simpa using (by omega : ¬ (j : Int) = (k : Int))
      have e2 : decide (k = j) = false := by simpa using he
      have e3 : ¬ j = k := fun h => he h.symm
      rw [e2]
      clear he e2 hkj
      cases d3 : decide (x0 + xl ≤ x1) with
      | false =>
        go_enter Tryz.func132, Tryz.ntmps132
        go_wp2
        go_quiet (fail)
        go_wp2
        go_ret
        exact ⟨rfl, Grw.drewN w _⟩
      | true =>
        obtain ⟨D, hD⟩ : ∃ D, decide (-y2 ≤ y0 - xl) = D := ⟨_, rfl⟩
        rw [hD]
        go_enter Tryz.func132, Tryz.ntmps132
        go_wp2
        go_quiet (fail)
        go_wp2
        go_ret
        exact ⟨rfl, Grw.drewN w _⟩
end
end Go.Proofs.YtkmlkpfabkhleaaGreat

/- The copies: the reference's, the program's; the program's SetWeight and Rebased. -/
namespace Go.Proofs.YtkmlkpfabkhleaaGreat
open Go.RowKit
open SP
section
variable {P : SP} {W w w' : World} {R : List SP} {b : Nat} {at_ now aw reb : Int} {L O : List Tg} {S : St}
set_option maxHeartbeats 1600000 in
set_option maxRecDepth 100000 in
theorem copyT_spec (o : Own w (RefT P b at_ L O now aw :: R)) :
    Calls Tryz.prog 147 #[.pointer (some ⟨b, 0, none⟩)] w fun e w' => ∃ p, Ret (.pointer (some ⟨p, 0, none⟩)) (RefT P p at_ L O now aw :: RefT P b at_ L O now aw :: R) w e w' := by
  obtain ⟨a, c, a2, c2, hP, o1⟩ := RefT.iff.1 o
  have c0 := o1.cell 0
  have c1 := o1.cell 1
  have c2' := o1.cell 2
  have c3 := o1.cell 3
  have c4 := o1.cell 4
  have hlt := o1.celLt
  have oN := o.alloc (.cells #[.int .i64 at_, .slice a L.length c, .slice a2 O.length c2, .int .i64 now, .int .i64 aw] 60)
  go_enter Tryz.func147, Tryz.ntmps147
  go_wp2
  go_ret
  exact ⟨w.heap.size, rfl, RefT.iff.2 ⟨a, c, a2, c2, hP, oN⟩, ⟨rfl, rfl, rfl⟩⟩
theorem sfqRebased_spec (o : Own w (SfqR b reb S :: R)) : Calls Tryz.prog 69 #[.pointer (some ⟨b, 0, none⟩)] w (IsRet (.int .i64 S.aw) w) := by
  obtain ⟨ab, rb, m, rem, hm, hold, hur, hok, o1⟩ := SfqR.iff.1 o
  have c4 := o1.cell 4
  clear hold
  go_enter Tryz.func69, Tryz.ntmps69
  go_wp2
  go_ret
  exact ⟨rfl, rfl⟩
end
section
variable {f : Tg → Value} {w w' : World} {R : List SP} {mb : Nat} {m : List (Int × Tg)}
set_option maxHeartbeats 1600000 in
set_option maxRecDepth 100000 in
theorem cloneT_spec (o : Own w (mpI f mb m :: R)) : Calls Tryz.prog 87 #[.map (some mb)] w (ClonePost f mb m R w) := by
  obtain ⟨es, clock, h1, h2, h3, o1⟩ := Own.mpI.1 o
  have hb := o1.blk
  have hq := fun w => run_eql_map_nil_sl (P := Tryz.prog) w 150 _ _ (some mb) Tryz.underlying150
  have hfin : Own (w.alloc (.map es clock)) (mpI f w.heap.size m :: mpI f mb m :: R) := Own.mpI.2 ⟨es, clock, h1, h2, h3, o.alloc _⟩
  go_enter Tryz.func87, Tryz.ntmps87
  go_wp2
  rw [run_callFunc_extern Tryz.func134 (by kernel_rfl) (by kernel_rfl) (by kernel_rfl) (e := Extern.MapsClone.clone) (by kernel_rfl), run_maps_clone_sl w _ hb]
  simp only [Result.andThen]
  rw [Oper.upon_value]
  go_wp2
  rw [run_typeAssert_map_sl _ 150 _ _ _ _ Tryz.underlying150]
  simp only [Result.andThen]
  rw [Oper.upon_value]
  go_wp2
  go_ret
  exact ⟨rfl, hfin, ⟨rfl, rfl, rfl⟩⟩
end
end Go.Proofs.YtkmlkpfabkhleaaGreat

/- The program's SetWeight and Copy. -/
namespace Go.Proofs.YtkmlkpfabkhleaaGreat
open Go.RowKit
open SP
section
variable {W w w' : World} {R : List SP} {b : Nat} {reb : Int} {S : St}
def setWR (S : St) (f wt : Int) : Int × St := match fget S.L f with
  | none => (6, S)
  | some t => if wt < 1 ∨ 16 < wt then (1, S) else (0, { S with L := setT ⟨t.f, wt, t.s⟩ S.L })
set_option maxHeartbeats 3200000 in
set_option maxRecDepth 100000 in
theorem sfqSetW_spec (f wt : Int) (o : Own w (SfqR b reb S :: R)) :
    Calls Tryz.prog 108 #[.pointer (some ⟨b, 0, none⟩), .int .i64 f, .int .i64 wt] w (Ret (.int .i64 (setWR S f wt).1) (SfqR b reb (setWR S f wt).2 :: R) w) := by
  obtain ⟨ab, rb, m, rem, hm, hold, hur, hok, o1⟩ := SfqR.iff.1 o
  have Hold := Lib.hid hold
  have c1 := o1.cell 1
  have hbl := o1.celLt
  clear hold
  unfold setWR
  cases hf : fget S.L f with
  | none =>
    have hlk := lookT_none (o1.up 1) hm hf
    dsimp only
    clear hf hm
    go_enter Tryz.func108, Tryz.ntmps108
    go_wp2
    go_ret
    exact ⟨rfl, o.more _, ⟨rfl, rfl, rfl⟩⟩
  | some t =>
    have hlk := lookT_some (o1.up 1) hm hf
    obtain ⟨htm, htf⟩ := fget_some hf
    obtain ⟨x, y, z⟩ := t
    dsimp only at htf hlk ⊢
    subst htf
    have htr := hok.ok.rng _ htm
    dsimp only at htr
    by_cases hb : wt < 1 ∨ 16 < wt
    · rw [if_pos hb]
      rcases hb with hb | hb
      · clear hf hm
        go_enter Tryz.func108, Tryz.ntmps108
        go_wp2
        go_ret
        exact ⟨rfl, o.more _, ⟨rfl, rfl, rfl⟩⟩
      · have hb2 : ¬ wt < 1 := by omega
        clear hf hm
        go_enter Tryz.func108, Tryz.ntmps108
        go_wp2
        go_ret
        exact ⟨rfl, o.more _, ⟨rfl, rfl, rfl⟩⟩
    · rw [if_neg hb]
      have b1 : ¬ wt < 1 := by omega
      have b2 : ¬ 16 < wt := by omega
      have hrep : Rep (mput m x ⟨x, wt, z⟩) (setT ⟨x, wt, z⟩ S.L) := by
        have := hm.set (x := ⟨x, wt, z⟩) (by rw [hf]; simp) ⟨htr.1, htr.2.1, by show 1 ≤ wt; omega, by show wt ≤ 16; omega, htr.2.2.2.2.1, htr.2.2.2.2.2⟩
        exact this
      have hok2 : StOk { S with L := setT ⟨x, wt, z⟩ S.L } := ⟨hok.ok.set (x := ⟨x, wt, z⟩) ⟨htr.1, htr.2.1, by show 1 ≤ wt; omega, by show wt ≤ 16; omega, htr.2.2.2.2.1, htr.2.2.2.2.2⟩, hok.old, hok.tm⟩
      have oM := o1.alloc (.cells #[.int .i64 x, .int .i64 wt, .int .i64 z] 128)
      clear hf hm hb
      go_enter Tryz.func108, Tryz.ntmps108
      go_wp2
      refine wp_region_tail 6 (by kernel_rfl) (by kernel_rfl) ?_
      simp only [List.take_succ_cons, List.take_zero, List.drop_succ_cons, List.drop_zero]
      repeat still_step
      refine wpStill_nil ?_
      go_wp2_with (at_mapUpdate; refine wpList_mapUpdate_mpI (f := tagV) rfl _ _ _ rfl Tryz.underlying150 Tryz.underlying3 ((oM.up 2).drew) x ⟨x, wt, z⟩ rfl rfl rfl ?c1)
      case c1 =>
      intro w3 o3 k3
      go_wp2
      go_ret
      have oE : Own w3 (SfqR b reb { S with L := setT ⟨x, wt, z⟩ S.L } :: R) := SfqR.iff.2 ⟨ab, rb, _, rem, hrep, Hold.out, hur, hok2, o3.re [1, 2, 0, 3] 1⟩
      exact ⟨rfl, oE, ⟨k3.os, k3.tape, k3.output⟩⟩
end
end Go.Proofs.YtkmlkpfabkhleaaGreat

/- The program's copy. -/
namespace Go.Proofs.YtkmlkpfabkhleaaGreat
open Go.RowKit
open SP
section
variable {W w w' : World} {R : List SP} {b : Nat} {reb : Int} {S : St}
def CopyS (b : Nat) (reb : Int) (S : St) (R : List SP) (w : World) (e : Ending) (w' : World) : Prop :=
  ∃ p, Ret (.pointer (some ⟨p, 0, none⟩)) (SfqR p reb S :: SfqR b reb S :: R) w e w'
set_option maxHeartbeats 3200000 in
set_option maxRecDepth 100000 in
theorem sfqCopy_spec (o : Own w (SfqR b reb S :: R)) : Calls Tryz.prog 41 #[.pointer (some ⟨b, 0, none⟩)] w (CopyS b reb S R w) := by
  obtain ⟨ab, rb, m, rem, hm, hold, hur, hok, o1⟩ := SfqR.iff.1 o
  obtain ⟨tm, htm⟩ : ∃ x, x = S.tm := ⟨_, rfl⟩
  obtain ⟨aw, haw⟩ : ∃ x, x = S.aw := ⟨_, rfl⟩
  rw [← htm, ← haw] at o1
  have Hold := Lib.hid hold
  have Hok := Lib.hid hok
  have Hm := Lib.hid hm
  have Htm := Lib.hid htm
  have Haw := Lib.hid haw
  clear hold hok hm htm haw
  have c0 := o1.cell 0
  have c1 := o1.cell 1
  have c2 := o1.cell 2
  have c3 := o1.cell 3
  have c4 := o1.cell 4
  have hlt := o1.celLt
  have oA := o1.alloc (.cells #[.int .i64 reb, .map (some ab), .map (some rb), .int .i64 tm, .int .i64 aw] 153)
  have oAd : Own (w.alloc (.cells #[.int .i64 reb, .map (some ab), .map (some rb), .int .i64 tm, .int .i64 aw] 153)).drew (mpI tagV ab m :: cel w.heap.size 153 [.int .i64 reb, .map (some ab), .map (some rb), .int .i64 tm, .int .i64 aw] :: cel b 153 [.int .i64 reb, .map (some ab), .map (some rb), .int .i64 tm, .int .i64 aw] :: mpI (Value.int .i64) rb rem :: R) := oA.drew.re [2, 0, 1, 3]
  have hsz : (w.alloc (.cells #[.int .i64 reb, .map (some ab), .map (some rb), .int .i64 tm, .int .i64 aw] 153)).drew.heap.size = w.heap.size + 1 := by simp
  have HSZ := Lib.hid hsz
  clear hsz
  have q0 := (oA.up 1).cell 1
  have q1 := (oA.up 1).cell 2
  go_enter Tryz.func41, Tryz.ntmps41
  go_wp2
  go_region_held3 (fun w' => w'.cell? ⟨b, 1, none⟩ = some (.map (some ab)) ∧ w'.cell? ⟨b, 2, none⟩ = some (.map (some rb))) (go_keep) (first
    | (go_at_call 87; (with_reducible refine (cloneT_spec oAd).mono ?_); rintro e2 w2 ⟨rfl, o2, k2⟩; rw [HSZ.out] at o2; have x1 := (o2.up 3).cell 1; have x2 := (o2.up 3).cell 2; have o2b := o2.re [4, 0, 1, 2, 3])
    | (go_at_call 88; (with_reducible refine (cloneIL_spec o2b).mono ?_); rintro e3 w3 ⟨rfl, o3, k3⟩; have y1 := (o3.up 5).cell 1; have y2 := (o3.up 5).cell 2; have z1 := (o3.up 4).cell 1; have z2 := (o3.up 4).cell 2; have zf := (o3.up 4).frozen; have zl := (o3.up 4).celLt; have oS := (o3.up 4).setCell 1 (.map (some (w.heap.size + 1))); have s1 := (oS.up 5).cell 1; have s2 := (oS.up 5).cell 2; have s3 := oS.cell 2; have sf := oS.frozen; have sl := oS.celLt; have oS2 := oS.setCell 2 (.map (some w2.heap.size)); have t1 := (oS2.up 5).cell 1; have t2 := (oS2.up 5).cell 2))
  go_wp2
  go_ret
  have K := Calm.trans k2 k3
  refine ⟨w.heap.size, rfl, ?_, ⟨K.os, K.tape, K.output⟩⟩
  rw [Htm.out, Haw.out] at oS2
  have oX := oS2.re [5, 4, 2, 0, 3, 1]
  have oY : Own _ (SfqR b reb S :: cel w.heap.size 153 [.int .i64 reb, .map (some (w.heap.size + 1)), .map (some w2.heap.size), .int .i64 S.tm, .int .i64 S.aw] :: mpI tagV (w.heap.size + 1) m :: mpI (Value.int .i64) w2.heap.size rem :: R) := SfqR.iff.2 ⟨ab, rb, m, rem, Hm.out, Hold.out, hur, Hok.out, oX⟩
  exact SfqR.iff.2 ⟨_, _, m, rem, Hm.out, Hold.out, hur, Hok.out, oY.re [1, 2, 3, 0]⟩
end
end Go.Proofs.YtkmlkpfabkhleaaGreat

/- The reference of chapter 13: Join. -/
namespace Go.Proofs.YtkmlkpfabkhleaaGreat
open Go.RowKit
open SP

section
variable {P : SP} {W w w' : World} {R : List SP} {b : Nat} {at_ now aw : Int} {L O : List Tg}
def JR1 (P : SP) (b xb : Nat) (f wt : Int) (at_ : Int) (L O : List Tg) (now aw : Int) (R : List SP) (w : World) (v8 v9 : Value) (wr : World) : Prop :=
  ∃ (i : Nat) (a : Option Addr) (c : Nat), v8 = .slice a (delT f (O.take i)).length c ∧ v9 = .int .i64 (i : Int) ∧ i ≤ O.length ∧
    Own wr (slc 128 3 a (delT f (O.take i)).length c (flat tagC (delT f (O.take i))) :: cel xb 128 [.int .i64 f, .int .i64 wt, .int .i64 (max now (oldM f (O.take i)))] :: RefT P b at_ L O now aw :: P :: R) ∧ Calm w wr
def JR2 (P : SP) (b xb : Nat) (x : Tg) (at_ : Int) (L O2 : List Tg) (a8 : Option Addr) (c8 : Nat) (a : Option Addr) (c : Nat) (now aw : Int) (R : List SP) (w : World) (fin : Bool) (v10 : Value) (wr : World) : Prop :=
  ∃ (k : Nat), v10 = .int .i64 (k : Int) ∧ k ≤ L.length ∧ (∀ (j : Nat) (t : Tg), j < k → L[j]? = some t → t.f < x.f) ∧ (fin = true → ∀ t : Tg, L[k]? = some t → ¬ t.f < x.f) ∧
    Own wr (cel b 60 [.int .i64 at_, .slice a L.length c, .slice a8 O2.length c8, .int .i64 now, .int .i64 aw] :: slc 128 3 a8 O2.length c8 (flat tagC O2) :: cel xb 128 [.int .i64 x.f, .int .i64 x.w, .int .i64 x.s] :: P :: R) ∧ Calm w wr
def JoinT (b : Nat) (at_ : Int) (L O : List Tg) (now aw : Int) (P : SP) (R : List SP) (w : World) (e : Ending) (w' : World) : Prop :=
  ∃ P', PExtT P P' ∧ Ret (.int .i64 0) (RefT P' b at_ L O now aw :: P' :: R) w e w'
theorem joinT_end {P : SP} {w8 : World} {R : List SP} {b xb nb : Nat} {at_ now aw : Int} {L2 O2 : List Tg} {a8 a9 a0 : Option Addr} {n9 c8 c9 n0 c0 : Nat} {v0 v1 v2 : Value} {es : List Value} {xs : List Value} (hL2 : xs = flat tagC L2) (hn : n9 = L2.length)
    (o : Own w8 (slc 128 3 a9 n9 c9 xs :: SP.blk nb (.cells es.toArray 128 (0, 0)) :: cel b 60 [.int .i64 at_, .slice a0 n0 c0, .slice a8 O2.length c8, .int .i64 now, .int .i64 aw] :: slc 128 3 a8 O2.length c8 (flat tagC O2) :: cel xb 128 [v0, v1, v2] :: P :: R)) :
    Own (w8.setCell ⟨b, 1, none⟩ (.slice a9 n9 c9)) (RefT (st [slc 128 3 a9 n9 c9 xs, st [slc 128 3 a8 O2.length c8 (flat tagC O2), P]]) b at_ L2 O2 now aw :: st [slc 128 3 a9 n9 c9 xs, st [slc 128 3 a8 O2.length c8 (flat tagC O2), P]] :: R) := by
  subst hL2
  subst hn
  have h1 := slOk_slc o
  have h2 := slOk_slc (o.up 3)
  have n1 := o.slc_len.2.1
  have n2 := (o.up 3).slc_len.2.1
  have oA := ((o.up 2).setCell 1 (.slice a9 L2.length c9)).re [2, 4, 1, 3, 5, 0] 2
  have oB : Own (w8.setCell ⟨b, 1, none⟩ (.slice a9 L2.length c9)) (st [slc 128 3 a8 O2.length c8 (flat tagC O2), P] :: _) := Own.st.2 (oA.re [1, 2, 0, 3])
  have oC : Own (w8.setCell ⟨b, 1, none⟩ (.slice a9 L2.length c9)) (st [slc 128 3 a9 L2.length c9 (flat tagC L2), st [slc 128 3 a8 O2.length c8 (flat tagC O2), P]] :: _) := Own.st.2 (oB.re [1, 0, 2])
  exact RefT.iff.2 ⟨a9, c9, a8, c8, ⟨⟨(tagsAt_slc _ _ _ _ rfl).new, h1⟩, n1, ⟨PExtT.add _ _ _ _ (tagsAt_slc _ _ _ _ rfl).new, h2⟩, n2⟩, oC.swap⟩
set_option maxHeartbeats 6400000 in
set_option maxRecDepth 100000 in
theorem joinT_spec (f wt : Int) (hf : 0 ≤ f ∧ f < 32) (hw : 1 ≤ wt ∧ wt ≤ 16) (hn : fget L f = none) (hL : L.length ≤ 1000) (hO : O.length ≤ 1000) (hr : ∀ t ∈ O, 0 ≤ t.s ∧ t.s ≤ 1099511627776) (h0 : 0 ≤ now ∧ now ≤ 1099511627776) (o : Own w (RefT P b at_ L O now aw :: P :: R)) :
    Calls Tryz.prog 82 #[.pointer (some ⟨b, 0, none⟩), .int .i64 f, .int .i64 wt] w (JoinT b at_ (insT ⟨f, wt, max now (oldM f O)⟩ L) (delT f O) now aw P R w) := by
  have hat := index_spec f hL o
  rw [idxT_none 0 L hn] at hat
  have hgw := goodW_spec wt w
  have hdw : decide (1 ≤ wt ∧ wt ≤ 16) = true := by simp; exact hw
  rw [hdw] at hgw
  obtain ⟨a, c, a2, c2, ⟨⟨hP1, hs1⟩, hc1, ⟨hP2, hs2⟩, hc2⟩, o1⟩ := RefT.iff.1 o
  have d3 := o1.cell 3
  have hlt := o1.celLt
  obtain ⟨hf0, hf1⟩ := hf
  clear hdw hn hw
  have hT : JR1 P b w.heap.size f wt at_ L O now aw R w (.slice none 0 0) (.int .i64 0) (w.alloc (.cells #[.int .i64 f, .int .i64 wt, .int .i64 now] 128)) :=
    ⟨0, none, 0, rfl, rfl, by omega, by
      have := (o.alloc (.cells #[.int .i64 f, .int .i64 wt, .int .i64 now] 128)).slc_nil (e := 128) (size := 3)
      have e : max now (oldM f (O.take 0)) = now := by show max now 0 = now; omega
      rw [e]; exact this, ⟨rfl, rfl, rfl⟩⟩
  go_enter Tryz.func82, Tryz.ntmps82
  go_wp2_with fail
  refine hgw.mono ?_
  rintro e1 w1 ⟨rfl, rfl⟩
  go_wp2_with fail
  refine hat.mono ?_
  rintro e2 w2 ⟨rfl, rfl⟩
  go_wp2
  go_loopw [8, 9] (fun v8 v9 wr => JR1 P b w.heap.size f wt at_ L O now aw R w v8 v9 wr) (fun _ v9 _ => O.length - (intOf v9).toNat)
  case atStart => exact hT
  case round =>
    clear hT hgw hat d3 o1 o
    obtain ⟨i, a8, c8, rfl, rfl, hi, oR, kR⟩ := hrel
    obtain ⟨a, c, a2, c2, ⟨⟨hP1, hs1⟩, hc1, ⟨hP2, hs2⟩, hc2⟩, o1⟩ := RefT.iff.1 (oR.up 2)
    have e1 := o1.cell 1
    have e2 := o1.cell 2
    have el := o1.celLt
    have ef := o1.frozen
    have x0 := (o1.up 2).cell 0
    have x1 := (o1.up 2).cell 1
    have x2 := (o1.up 2).cell 2
    have xl := (o1.up 2).celLt
    have xf := (o1.up 2).frozen
    by_cases hio : i < O.length
    · obtain ⟨⟨y0, y1, y2⟩, hy⟩ : ∃ y, O[i]? = some y := ⟨_, List.getElem?_eq_getElem hio⟩
      obtain ⟨g, so, hg, d0, d1, d2⟩ := hP2 _ _ (o1.up 3) i _ hy
      subst hg
      dsimp only at d0 d1 d2
      have hts := take_snoc hy
      have HTS := Lib.hid hts
      clear hts hy
      by_cases he : y0 = f
      · subst he
        have hmx : max (max now (oldM y0 (O.take i))) y2 = max now (oldM y0 (O.take (i + 1))) := by
          rw [HTS.out, oldM_snoc, if_pos rfl]
          show max (max now _) y2 = max now (max _ y2)
          omega
        have hdl : delT y0 (O.take (i + 1)) = delT y0 (O.take i) := by rw [HTS.out, delT_snoc, if_pos rfl]
        have HDL := Lib.hid hdl
        clear hdl
        go_wp2
        refine wp_region_tail 10 (by kernel_rfl) (by kernel_rfl) ?_
        simp only [List.take_succ_cons, List.take_zero, List.drop_succ_cons, List.drop_zero]
        repeat still_step
        refine wpStill_nil ?_
        go_wp2
        go_roundw
        case rel =>
          refine ⟨i + 1, a8, c8, by rw [HDL.out], by go_num, by omega, ?_, kR.trans ⟨rfl, rfl, rfl⟩⟩
          rw [HDL.out, ← hmx]
          have oX := ((oR.drew.up 1).setCell 2 (.int .i64 (max (max now (oldM y0 (O.take i))) y2))).swap
          exact oX
        case measure => simp [intOf]; omega
      · have heb : (y0 == f) = false := by simpa using he
        have hdl : delT f (O.take (i + 1)) = delT f (O.take i) ++ [⟨y0, y1, y2⟩] := by rw [HTS.out, delT_snoc, if_neg he]
        have hom : oldM f (O.take (i + 1)) = oldM f (O.take i) := by rw [HTS.out, oldM_snoc, if_neg he]
        have hdn : (delT f (O.take i)).length ≤ 1000 := by have := delT_len f (O.take i); rw [List.length_take] at this; omega
        have HDL := Lib.hid hdl
        have HOM := Lib.hid hom
        clear hdl hom
        obtain ⟨Dl, hDl⟩ : ∃ Dl, Dl = delT f (O.take i) := ⟨_, rfl⟩
        rw [← hDl] at oR hdn
        have HDl := Lib.hid hDl
        rw [← hDl]
        clear hDl
        have oN := (oR.alloc (.cells #[.int .i64 y0, .int .i64 y1, .int .i64 y2] 128)).re [1, 0, 2, 3, 4]
        have hnw := Own.news (T := 128) (vs := [.int .i64 y0, .int .i64 y1, .int .i64 y2]) (oR.alloc _)
        go_wp2_with (at_builtin; refine wpList_append_slc rfl _ _ rfl Tryz.tagT rfl oN ⟨wr.heap.size, 0, none⟩ 1 1 [.int .i64 y0, .int .i64 y1, .int .i64 y2] rfl rfl hnw (by intro u hu; simp at hu; rcases hu with rfl | rfl | rfl <;> rfl) (by unfold maxLen; omega) (by omega) ?k2)
        case k2 =>
        intro a7 c7 w7 o7 k7
        have hfl : flat tagC (delT f (O.take (i + 1))) = flat tagC Dl ++ [.int .i64 y0, .int .i64 y1, .int .i64 y2] := by rw [HDL.out, ← HDl.out, flat_append]; rfl
        have hln : (delT f (O.take (i + 1))).length = Dl.length + 1 := by rw [HDL.out, ← HDl.out, List.length_append, List.length_singleton]
        have HFL := Lib.hid hfl
        have HLN := Lib.hid hln
        clear hfl hln
        go_wp2
        go_roundw
        case rel => exact ⟨i + 1, a7, c7, by rw [HLN.out], by go_num, by omega, by rw [HLN.out, HFL.out, HOM.out]; exact o7.re [1, 0, 2, 3, 4] 1, kR.trans k7.al⟩
        case measure => simp [intOf]; omega
    · obtain rfl : i = O.length := by omega
      rw [List.take_length] at oR o1 x2
      obtain ⟨O2, hO2⟩ : ∃ O2, O2 = delT f O := ⟨_, rfl⟩
      obtain ⟨xs, hxs⟩ : ∃ xs, xs = max now (oldM f O) := ⟨_, rfl⟩
      have hO2l : O2.length ≤ 1000 := by have := delT_len f O; rw [hO2]; omega
      rw [List.take_length, ← hO2, ← hxs]
      rw [← hO2, ← hxs] at o1
      rw [← hxs] at x2
      have HO2 := Lib.hid hO2
      have HXS := Lib.hid hxs
      clear hO2 hxs oR
      have oB : Own (wr.setCell ⟨b, 2, none⟩ (.slice a8 O2.length c8)) (cel b 60 [.int .i64 at_, .slice a L.length c, .slice a8 O2.length c8, .int .i64 now, .int .i64 aw] :: _) := o1.setCell 2 (.slice a8 O2.length c8)
      have kB : Calm w (wr.setCell ⟨b, 2, none⟩ (.slice a8 O2.length c8)) := kR.trans ⟨rfl, rfl, rfl⟩
      clear o1
      go_upto_block 2 with fail
      go_cut [10] (fun v10 wc => JR2 P b w.heap.size ⟨f, wt, xs⟩ at_ L O2 a8 c8 a c now aw R w true v10 wc)
      case first =>
        go_wp2
        go_loopw [10] (fun v10 wc => JR2 P b w.heap.size ⟨f, wt, xs⟩ at_ L O2 a8 c8 a c now aw R w false v10 wc) (fun v _ => L.length - (intOf v).toNat)
        case atStart => exact ⟨0, rfl, by omega, fun j t hj => by omega, fun h => (by cases h), oB, kB⟩
        case round =>
          clear oB kB e1 e2 el ef x0 x1 x2 xl xf hP2 hs2 hc2
          obtain ⟨k, rfl, hk, hlk, -, oK, kK⟩ := hrel
          have e1 := oK.cell 1
          by_cases hkl : k < L.length
          · obtain ⟨⟨y0, y1, y2⟩, hy⟩ : ∃ y, L[k]? = some y := ⟨_, List.getElem?_eq_getElem hkl⟩
            obtain ⟨g, so, hg, d0, d1, d2⟩ := hP1 _ _ (oK.up 3) k _ hy
            subst hg
            have HY := Lib.hid hy
            clear hy
            dsimp only at d0 d1 d2
            by_cases hl : y0 < f
            · go_wp2
              go_roundw
              case rel =>
                refine ⟨k + 1, by go_num, by omega, fun j t hj ht => ?_, fun h => (by cases h), oK, kK⟩
                by_cases hjk : j = k
                · subst hjk; rw [HY.out] at ht; cases ht; exact hl
                · exact hlk j t (by omega) ht
              case measure => simp [intOf]; omega
            · go_wp2
              go_meet
              exact ⟨k, rfl, hk, hlk, fun _ t ht => by rw [HY.out] at ht; cases ht; show ¬ y0 < f; omega, oK, kK⟩
          · go_wp2
            go_meet
            exact ⟨k, rfl, hk, hlk, fun _ t ht => by have := (List.getElem?_eq_some_iff.1 ht).1; omega, oK, kK⟩
      case rest =>
        clear oB kB e1 e2 el ef x0 x1 x2 xl xf hP2 hs2 hc2
        obtain ⟨k, rfl, hk, hlk, hfin, oK, kK⟩ := hcut
        have hins := insT_split ⟨f, wt, xs⟩ k L hk hlk (hfin rfl)
        have HI := Lib.hid hins
        clear hins hlk hfin
        have e1 := oK.cell 1
        have el := oK.celLt
        have x0 := (oK.up 2).cell 0
        have x1 := (oK.up 2).cell 1
        have x2 := (oK.up 2).cell 2
        have xl := (oK.up 2).celLt
        have oZ := slc_zero (e := 128) (size := 3) ((oK.alloc (.cells #[] 128)))
        have src0 : ∀ (w : World) (a : Option Addr) (c' : Nat), IsSrc w (.slice a 0 c') 3 0 [] := fun w a c' => ⟨a, c', rfl, by simp, by simp, .inl rfl⟩
        have SRC := Lib.hid src0
        clear src0
        rcases hs1 with ⟨rfl, rfl⟩ | ⟨g, rfl⟩
        · obtain rfl : L = [] := List.eq_nil_of_length_eq_zero (by omega)
          obtain rfl : k = 0 := by simpa using hk
          go_wp2_with (at_builtin; refine wpList_append_src rfl _ _ rfl Tryz.tagT rfl oZ rfl (SRC.out _ _ _) (by unfold maxLen; omega) (by omega) ?k1)
          case k1 =>
          intro a5 c5 w5 o5 k5
          have q2 := (o5.up 1).cell 1
          have x0 := (o5.up 3).cell 0
          have x1 := (o5.up 3).cell 1
          have x2 := (o5.up 3).cell 2
          have oN := (o5.alloc (.cells #[.int .i64 f, .int .i64 wt, .int .i64 xs] 128)).re [1, 0, 2, 3, 4, 5]
          have hnw := Own.news (T := 128) (vs := [.int .i64 f, .int .i64 wt, .int .i64 xs]) (o5.alloc _)
          go_wp2_with (at_builtin; refine wpList_append_slc rfl _ _ rfl Tryz.tagT rfl oN ⟨w5.heap.size, 0, none⟩ 1 1 [.int .i64 f, .int .i64 wt, .int .i64 xs] rfl rfl hnw (by intro u hu; simp at hu; rcases hu with rfl | rfl | rfl <;> rfl) (by unfold maxLen; omega) (by omega) ?k2)
          case k2 =>
          intro a7 c7 w7 o7 k7
          have q7 := (o7.up 2).cell 1
          have ql7 := (o7.up 2).celLt
          go_wp2_with (at_builtin; refine wpList_append_src rfl _ _ rfl Tryz.tagT rfl o7 rfl (SRC.out _ _ _) (by unfold maxLen; omega) (by omega) ?k3)
          case k3 =>
          intro a9 c9 w9 o9 k9
          have q9 := (o9.up 2).cell 1
          have qf9 := (o9.up 2).frozen
          have ql9 := (o9.up 2).celLt
          have oE := joinT_end (L2 := insT ⟨f, wt, xs⟩ []) (by rw [HI.out]; rfl) (by rw [HI.out]; rfl) o9
          rw [HO2.out, HXS.out] at oE
          go_wp2
          go_ret
          exact ⟨_, PExtT.trans (PExtT.add _ _) (PExtT.add _ _), rfl, oE, kK.trans (Calm.trans ⟨k5.os, k5.tape, k5.output⟩ (k7.al.trans (k9.trans ⟨rfl, rfl, rfl⟩)))⟩
        · have b0 : (0 : Int) ≤ (k : Int) := by omega
          have b1 : (k : Int) ≤ (c : Int) := by omega
          have b1' : k ≤ c := by omega
          have b2 : (k : Int) ≤ (L.length : Int) := by omega
          have s1 := tags_cut (i := 0) (k := k) (c := c) hP1 (by omega) (oZ.up 4)
          rw [Nat.zero_mul, Nat.add_zero, List.drop_zero] at s1
          by_cases hkc : k = c
          · subst hkc
            have hkL : L.length = k := by omega
            have hdz : L.drop k = [] := List.drop_eq_nil_of_le (by omega)
            have HDZ := Lib.hid hdz
            have z0 : L.length - k = 0 := by omega
            have z1 : (L.length : Int) ≤ (k : Int) := by omega
            have HKL := Lib.hid hkL
            clear hdz hkL
            go_wp2_with (at_builtin; refine wpList_append_src rfl _ _ rfl Tryz.tagT rfl oZ rfl s1 (by unfold maxLen; omega) (by omega) ?k1)
            case k1 =>
            intro a5 c5 w5 o5 k5
            have q2 := (o5.up 1).cell 1
            have x0 := (o5.up 3).cell 0
            have x1 := (o5.up 3).cell 1
            have x2 := (o5.up 3).cell 2
            have oN := (o5.alloc (.cells #[.int .i64 f, .int .i64 wt, .int .i64 xs] 128)).re [1, 0, 2, 3, 4, 5]
            have hnw := Own.news (T := 128) (vs := [.int .i64 f, .int .i64 wt, .int .i64 xs]) (o5.alloc _)
            go_wp2_with (at_builtin; refine wpList_append_slc rfl _ _ rfl Tryz.tagT rfl oN ⟨w5.heap.size, 0, none⟩ 1 1 [.int .i64 f, .int .i64 wt, .int .i64 xs] rfl rfl hnw (by intro u hu; simp at hu; rcases hu with rfl | rfl | rfl <;> rfl) (by unfold maxLen; omega) (by omega) ?k2)
            case k2 =>
            intro a7 c7 w7 o7 k7
            have q7 := (o7.up 2).cell 1
            have ql7 := (o7.up 2).celLt
            go_wp2_with (at_builtin; refine wpList_append_src rfl _ _ rfl Tryz.tagT rfl o7 rfl (SRC.out _ _ _) (by unfold maxLen; omega) (by omega) ?k3)
            case k3 =>
            intro a9 c9 w9 o9 k9
            have q9 := (o9.up 2).cell 1
            have qf9 := (o9.up 2).frozen
            have ql9 := (o9.up 2).celLt
            have oE := joinT_end (L2 := insT ⟨f, wt, xs⟩ L) (by rw [HI.out]; rw [HDZ.out, List.append_nil, flat_append]; rfl) (by rw [HI.out]; rw [HDZ.out, List.append_nil, List.length_append, List.length_take, HKL.out]; simp) o9
            rw [HO2.out, HXS.out] at oE
            go_wp2
            go_ret
            exact ⟨_, PExtT.trans (PExtT.add _ _) (PExtT.add _ _), rfl, oE, kK.trans (Calm.trans ⟨k5.os, k5.tape, k5.output⟩ (k7.al.trans (k9.trans ⟨rfl, rfl, rfl⟩)))⟩
          · have hkc1 : ((k : Int) == (c : Int)) = false := by rw [beq_eq_false_iff_ne]; omega
            have hkc2 : ¬ c = k := by omega
            have hkc3 : ¬ k = c := hkc
            have hdr : (L.drop k).take (L.length - k) = L.drop k := List.take_of_length_le (by rw [List.length_drop]; omega)
            have HDR := Lib.hid hdr
            clear hdr
            go_wp2_with (at_builtin; refine wpList_append_src rfl _ _ rfl Tryz.tagT rfl oZ rfl s1 (by unfold maxLen; omega) (by omega) ?k1)
            case k1 =>
            intro a5 c5 w5 o5 k5
            have q2 := (o5.up 1).cell 1
            have x0 := (o5.up 3).cell 0
            have x1 := (o5.up 3).cell 1
            have x2 := (o5.up 3).cell 2
            have oN := (o5.alloc (.cells #[.int .i64 f, .int .i64 wt, .int .i64 xs] 128)).re [1, 0, 2, 3, 4, 5]
            have hnw := Own.news (T := 128) (vs := [.int .i64 f, .int .i64 wt, .int .i64 xs]) (o5.alloc _)
            go_wp2_with (at_builtin; refine wpList_append_slc rfl _ _ rfl Tryz.tagT rfl oN ⟨w5.heap.size, 0, none⟩ 1 1 [.int .i64 f, .int .i64 wt, .int .i64 xs] rfl rfl hnw (by intro u hu; simp at hu; rcases hu with rfl | rfl | rfl <;> rfl) (by unfold maxLen; omega) (by omega) ?k2)
            case k2 =>
            intro a7 c7 w7 o7 k7
            have q7 := (o7.up 2).cell 1
            have ql7 := (o7.up 2).celLt
            have s2 := tags_cut (i := k) (k := L.length - k) (c := c - k) hP1 (by omega) (o7.up 5)
            rw [HDR.out, Nat.zero_add] at s2
            go_wp2_with (at_builtin; refine wpList_append_src rfl _ _ rfl Tryz.tagT rfl o7 rfl s2 (by unfold maxLen; omega) (by omega) ?k3)
            case k3 =>
            intro a9 c9 w9 o9 k9
            have q9 := (o9.up 2).cell 1
            have qf9 := (o9.up 2).frozen
            have ql9 := (o9.up 2).celLt
            have oE := joinT_end (L2 := insT ⟨f, wt, xs⟩ L) (by rw [HI.out]; rw [flat_append, flat_append]; simp [flat, tagC]) (by rw [HI.out]; rw [List.length_append, List.length_append, List.length_take, List.length_drop]; simp; omega) o9
            rw [HO2.out, HXS.out] at oE
            go_wp2
            go_ret
            exact ⟨_, PExtT.trans (PExtT.add _ _) (PExtT.add _ _), rfl, oE, kK.trans (Calm.trans ⟨k5.os, k5.tape, k5.output⟩ (k7.al.trans (k9.trans ⟨rfl, rfl, rfl⟩)))⟩
end
end Go.Proofs.YtkmlkpfabkhleaaGreat

/- The reference of chapter 12: ValidTags, Least, Select, Cost, Finish. -/
namespace Go.Proofs.YtkmlkpfabkhleaaGreat
open Go.RowKit
open SP
section
variable {P : SP} {W w w' : World} {R : List SP} {b : Nat} {at_ now aw : Int} {L O : List Tg}
theorem quiet_form {g : Nat} {args : Array Value} {v : Value} {w : World} (h : Calls Tryz.prog g args w (IsRet v w)) : Calls Tryz.prog g args w (fun e w' => e = .returned v ∧ w' = w) := h.mono (by rintro e w' ⟨rfl, rfl⟩; exact ⟨rfl, rfl⟩)
def VtRel (L : List Tg) (Sp : SP) (R : List SP) (w : World) (v3 : Value) (wr : World) : Prop :=
  ∃ (i : Nat), v3 = .int .i64 (i : Int) ∧ i ≤ L.length ∧ Own wr (Sp :: R) ∧ Calm w wr
set_option maxHeartbeats 3200000 in
set_option maxRecDepth 100000 in
theorem validT_spec {Sp : SP} {L : List Tg} {a : Option Addr} {n c : Nat} (hS : TagsAt Sp a L) (hok : LOk L) (hn : n = L.length) (o : Own w (Sp :: R)) :
    Calls Tryz.prog 177 #[.slice a n c] w (Ret (.bool true) (Sp :: R) w) := by
  have hT : VtRel L Sp R w (.int .i64 0) w := ⟨0, rfl, by omega, o, Calm.refl w⟩
  have hl := hok.len
  have hn2 : n ≤ 32 := by omega
  have Hn := Lib.hid hn
  clear hn
  go_enter Tryz.func177, Tryz.ntmps177
  go_wp2
  go_loopw [3] (fun v3 wr => VtRel L Sp R w v3 wr) (fun v3 _ => n - (intOf v3).toNat)
  case atStart => exact hT
  case round =>
    clear hT
    obtain ⟨i, rfl, hi, oR, kR⟩ := hrel
    by_cases hlt : i < n
    · obtain ⟨t, ht⟩ : ∃ t, L[i]? = some t := ⟨_, List.getElem?_eq_getElem (by have := Hn.out; omega)⟩
      obtain ⟨g, so, rfl, d0, d1, d2⟩ := hS _ _ oR i _ ht
      have h2 := hok.rng t (List.mem_of_getElem? ht)
      have hprev : ∀ j, i = j + 1 → ∃ u, L[j]? = some u ∧ u.f < t.f := fun j hj => by
        have hjl : j < L.length := by have := (List.getElem?_eq_some_iff.1 ht).1; omega
        refine ⟨_, List.getElem?_eq_getElem hjl, ?_⟩
        have := List.pairwise_iff_getElem.1 hok.asc j i hjl (List.getElem?_eq_some_iff.1 ht).1 (by omega)
        rw [(List.getElem?_eq_some_iff.1 ht).2] at this
        exact this
      obtain ⟨x, y, z⟩ := t
      dsimp only at d0 d1 d2 h2 hprev
      clear ht
      obtain ⟨h2, h3, h4, h5, h6, h7⟩ := h2
      have hx0 : decide (x < 0) = false := by simp; omega
      have hx1 : decide (32 ≤ x) = false := by simp; omega
      have hz0 : decide (z < 0) = false := by simp; omega
      have hz1 : decide (1099511627776 < z) = false := by simp; omega
      have hw : decide (1 ≤ y ∧ y ≤ 16) = true := by simp; omega
      have hwt := fun w => goodW_spec y w
      rw [hw] at hwt
      clear hw
      by_cases hi0 : i = 0
      · subst hi0
        clear hprev
        simp only [Nat.zero_mul, Nat.add_zero] at d0 d1 d2
        go_wp2
        go_quiet ((go_at_call 123; exact Calls.quiet_of_same (quiet_form (hwt _))))
        go_wp2
        go_roundw
        case rel => exact ⟨0 + 1, by go_num, by have := Hn.out; omega, oR.drewN _, ⟨kR.os, kR.tape, kR.output⟩⟩
        case measure => simp [intOf]; omega
      · obtain ⟨j, hj⟩ : ∃ j, i = j + 1 := ⟨i - 1, by omega⟩
        obtain ⟨u, hu, hlt2⟩ := hprev j hj
        obtain ⟨g', so', hgg, e0, _, _⟩ := hS _ _ oR j _ hu
        cases hgg
        obtain ⟨x', y', z'⟩ := u
        dsimp only at e0 hlt2
        have hle : decide (x ≤ x') = false := by simp; omega
        have hi9 : decide (0 < i) = true := by simp; omega
        have hw1 : IntKind.i64.wrap ((i : Int) - 1) = (j : Int) := by rw [IntKind.wrap_i64]; omega
        have hj0 : (0 : Int) < (i : Int) := by omega
        have hj1 : (0 : Int) ≤ (j : Int) := by omega
        have hj2 : (j : Int) < (n : Int) := by omega
        have hj3 : j < n := by omega
        clear hu hprev hj hi0
        go_wp2
        go_quiet ((go_at_call 123; exact Calls.quiet_of_same (quiet_form (hwt _))))
        go_wp2
        go_roundw
        case rel => exact ⟨i + 1, by go_num, by have := Hn.out; omega, oR.drewN _, ⟨kR.os, kR.tape, kR.output⟩⟩
        case measure => simp [intOf]; omega
    · go_wp2
      go_ret
      exact ⟨rfl, oR, kR⟩
end
end Go.Proofs.YtkmlkpfabkhleaaGreat

/- The reference of chapter 12: Least, Select, Cost, Finish. -/
namespace Go.Proofs.YtkmlkpfabkhleaaGreat
open Go.RowKit
open SP
section
variable {P : SP} {W w w' : World} {R : List SP} {b : Nat} {at_ now aw : Int} {L O : List Tg}
theorem leastN_one : ∀ {L : List Tg}, L ≠ [] → leastG L (L.drop 1) 1 0 = leastN L
  | [], h => absurd rfl h
  | t0 :: L0, _ => by
    unfold leastN
    conv => rhs; unfold leastG
    rw [if_neg (by show ¬ t0.s < t0.s; omega)]
    rfl
set_option maxHeartbeats 3200000 in
set_option maxRecDepth 100000 in
theorem leastT_spec {Sp : SP} {L : List Tg} {a : Option Addr} {n c : Nat} (hS : TagsAt Sp a L) (hok : LOk L) (hn : n = L.length) (o : Own w (Sp :: R)) :
    Calls Tryz.prog 152 #[.slice a n c] w (Ret (.int .i64 (if L = [] then -1 else (leastN L : Int))) (Sp :: R) w) := by
  have hv := validT_spec (c := c) hS hok hn o
  by_cases hz : L = []
  · rw [if_pos hz]
    have hn0 : n = 0 := by rw [hn, hz]; rfl
    subst hn0
    clear hn hz
    go_enter Tryz.func152, Tryz.ntmps152
    go_wp2_with fail
    refine hv.mono ?_
    rintro e w1 ⟨rfl, o1, k1⟩
    go_wp2
    go_ret
    exact ⟨rfl, o1, k1⟩
  · rw [if_neg hz]
    have hpos : 0 < n := by rw [hn]; exact List.length_pos_iff.2 hz
    have hl := hok.len
    have hn2 : n ≤ 32 := by omega
    have hT0 := leastN_one hz
    generalize leastN L = T at *
    have HT0 := Lib.hid hT0
    have Hn := Lib.hid hn
    have hnb : ((n : Int) == 0) = false := by rw [beq_eq_false_iff_ne]; omega
    clear hn hz hT0
    go_enter Tryz.func152, Tryz.ntmps152
    go_wp2_with fail
    refine hv.mono ?_
    rintro e w1 ⟨rfl, o1, k1⟩
    have hT : LeastRelT L T Sp R w (.int .i64 0) (.int .i64 1) w1 := ⟨1, 0, rfl, rfl, by have := Hn.out; omega, by have := Hn.out; omega, HT0.out, o1, k1⟩
    go_wp2
    go_loopw [3, 4] (fun v3 v4 wr => LeastRelT L T Sp R w v3 v4 wr) (fun _ v4 _ => n - (intOf v4).toNat)
    case atStart => exact hT
    case round =>
      clear hT hv
      obtain ⟨i, best, rfl, rfl, hi, hb, hE, oR, kR⟩ := hrel
      have HT := Lib.hid hE
      clear hE
      by_cases hlt : i < n
      · obtain ⟨t, ht⟩ : ∃ t, L[i]? = some t := ⟨_, List.getElem?_eq_getElem (by have := Hn.out; omega)⟩
        obtain ⟨u, hu⟩ : ∃ u, L[best]? = some u := ⟨_, List.getElem?_eq_getElem (by have := Hn.out; omega)⟩
        obtain ⟨g, so, rfl, d0, d1, d2⟩ := hS _ _ oR i _ ht
        obtain ⟨g', so', hgg, _, _, e2⟩ := hS _ _ oR best _ hu
        cases hgg
        have hstep : leastG L (L.drop i) i best = leastG L (L.drop (i + 1)) (i + 1) (if t.s < u.s then i else best) := by
          rw [drop_at ht, leastG, List.getD_eq_getElem?_getD, hu]; rfl
        have Hstep := Lib.hid hstep
        have hbn : best < n := by have := Hn.out; omega
        obtain ⟨x, y, z⟩ := t
        obtain ⟨x', y', z'⟩ := u
        dsimp only at d0 d1 d2 e2 Hstep
        clear ht hu hstep
        by_cases hc : z < z'
        · have hd : decide (z < z') = true := by simpa using hc
          go_wp2
          go_quiet (fail)
          go_wp2
          go_roundw
          case rel => exact ⟨i + 1, i, by go_num, rfl, by have := Hn.out; omega, by have := Hn.out; omega, by rw [← HT.out, Hstep.out, if_pos hc], oR.drewN _, ⟨kR.os, kR.tape, kR.output⟩⟩
          case measure => simp [intOf]; omega
        · have hd : decide (z < z') = false := by simpa using hc
          go_wp2
          go_quiet (fail)
          go_wp2
          go_roundw
          case rel => exact ⟨i + 1, best, by go_num, rfl, by have := Hn.out; omega, hb, by rw [← HT.out, Hstep.out, if_neg (by omega)], oR.drewN _, ⟨kR.os, kR.tape, kR.output⟩⟩
          case measure => simp [intOf]; omega
      · go_wp2
        go_ret
        have hbT : best = T := by rw [← HT.out, List.drop_eq_nil_of_le (by have := Hn.out; omega)]; rfl
        exact ⟨by rw [hbT]; rfl, oR, kR⟩
set_option maxHeartbeats 1600000 in
set_option maxRecDepth 100000 in
theorem selectT_spec (hok : LOk L) (o : Own w (RefT P b at_ L O now aw :: P :: R)) :
    Calls Tryz.prog 149 #[.pointer (some ⟨b, 0, none⟩)] w (Ret (.tuple #[.int .i64 (selT L).1, .int .i64 (selT L).2]) (RefT P b at_ L O now aw :: P :: R) w) := by
  obtain ⟨a, c, a2, c2, ⟨⟨hP, hs⟩, hc, hP2⟩, o1⟩ := RefT.iff.1 o
  have c1 := o1.cell 1
  have hle := leastT_spec (c := c) hP hok rfl (o1.up 1)
  have hl := hok.len
  by_cases hz : L = []
  · rw [if_pos hz] at hle
    have e : selT L = (0, 5) := if_pos hz
    rw [e]; clear e hz
    go_enter Tryz.func149, Tryz.ntmps149
    go_wp2_with fail
    refine hle.mono ?_
    rintro e w1 ⟨rfl, o2, k2⟩
    go_wp2
    go_ret2
    exact ⟨rfl, RefT.iff.2 ⟨a, c, a2, c2, ⟨⟨hP, hs⟩, hc, hP2⟩, o2.re [1, 0]⟩, k2⟩
  · rw [if_neg hz] at hle
    have e : selT L = ((lst L).f, 0) := if_neg hz
    rw [e]; clear e
    have hlt := leastN_lt hz
    have hg : L[leastN L]? = some (lst L) := by
      unfold lst
      rw [List.getD_eq_getElem?_getD, List.getElem?_eq_getElem hlt]; rfl
    generalize leastN L = T at *
    generalize lst L = tt at *
    obtain ⟨x, y, z⟩ := tt
    clear hz
    go_enter Tryz.func149, Tryz.ntmps149
    go_wp2_with fail
    refine hle.mono ?_
    rintro e w1 ⟨rfl, o2, k2⟩
    obtain ⟨g, so, hag, d0, d1, d2⟩ := hP _ _ o2 T _ hg
    subst hag
    dsimp only at d0 d1 d2
    have q1 := (o2.up 1).cell 1
    clear hg
    go_wp2
    go_ret2
    exact ⟨rfl, RefT.iff.2 ⟨_, c, a2, c2, ⟨⟨hP, hs⟩, hc, hP2⟩, o2.re [1, 0]⟩, k2⟩
set_option maxHeartbeats 1600000 in
theorem costT_spec (len wt : Int) (h1 : 1 ≤ len ∧ len ≤ 4096) (h2 : 1 ≤ wt ∧ wt ≤ 16) (w : World) : Calls Tryz.prog 154 #[.int .i64 len, .int .i64 wt] w (IsRet (.tuple #[.int .i64 (cst len wt), .int .i64 0]) w) := by
  have hw := goodW_spec wt w
  have hd : decide (1 ≤ wt ∧ wt ≤ 16) = true := by simp; exact h2
  rw [hd] at hw
  obtain ⟨a1, a2⟩ := h1
  obtain ⟨b1, b2⟩ := h2
  obtain ⟨c1, c2⟩ := cst_range b1 b2 a1 a2
  obtain ⟨u1, u2⟩ := unit1_range b1 b2
  have hq : IntKind.i64.wrap (Int.tdiv 720720 wt) = unit1 wt := by
    show IntKind.i64.wrap (unit1 wt) = unit1 wt
    rw [IntKind.wrap_i64]; omega
  have hm : IntKind.i64.wrap (len * unit1 wt) = cst len wt := by
    show IntKind.i64.wrap (cst len wt) = cst len wt
    rw [IntKind.wrap_i64]; omega
  have hz : wt ≠ 0 := by omega
  clear hd
  go_enter Tryz.func154, Tryz.ntmps154
  go_wp2_with fail
  refine hw.mono ?_
  rintro e1 w1 ⟨rfl, rfl⟩
  go_wp2
  go_ret2
  exact ⟨rfl, rfl⟩
set_option maxHeartbeats 1600000 in
theorem finishT_spec (s len wt : Int) (h1 : 1 ≤ len ∧ len ≤ 4096) (h2 : 1 ≤ wt ∧ wt ≤ 16) (hs : 0 ≤ s ∧ s ≤ 1099511627776) (w : World) :
    Calls Tryz.prog 151 #[.int .i64 s, .int .i64 len, .int .i64 wt] w (IsRet (.tuple #[.int .i64 (finF s len wt).1, .int .i64 (finF s len wt).2]) w) := by
  have hc := costT_spec len wt h1 h2 w
  obtain ⟨c1, c2⟩ := cst_range h2.1 h2.2 h1.1 h1.2
  have hb : ¬ (badLW len wt ∨ s < 0 ∨ 1099511627776 < s) := by unfold badLW; omega
  obtain ⟨s1, s2⟩ := hs
  unfold finF
  rw [if_neg hb]
  generalize cst len wt = z at *
  clear hb h1 h2
  have hw : IntKind.i64.wrap (s + z) = s + z := by rw [IntKind.wrap_i64]; omega
  by_cases h3 : 1099511627776 < s + z
  · rw [if_pos h3]
    go_enter Tryz.func151, Tryz.ntmps151
    go_wp2_with fail
    refine hc.mono ?_
    rintro e1 w1 ⟨rfl, rfl⟩
    go_wp2
    go_ret2
    exact ⟨rfl, rfl⟩
  · rw [if_neg h3]
    go_enter Tryz.func151, Tryz.ntmps151
    go_wp2_with fail
    refine hc.mono ?_
    rintro e1 w1 ⟨rfl, rfl⟩
    go_wp2
    go_ret2
    exact ⟨rfl, rfl⟩
end
end Go.Proofs.YtkmlkpfabkhleaaGreat

/- The reference of chapter 13: SetWeight, lower. -/
namespace Go.Proofs.YtkmlkpfabkhleaaGreat
open Go.RowKit
open SP
theorem setT_at {L : List Tg} (h : LOk L) {i : Nat} {t x : Tg} (ht : L[i]? = some t) (hx : x.f = t.f) : L.set i x = setT x L := setT_atP h.asc ht hx
section
variable {P : SP} {W w w' : World} {R : List SP} {b : Nat} {at_ now aw : Int} {L O : List Tg}
/-- A list of the state's own goes to the pool. -/
theorem refT_newL {a9 a2 : Option Addr} {n9 c9 c2 : Nat} {L2 : List Tg} (hn : n9 = L2.length) (hP2 : (TagsAt P a2 O ∧ SlOk a2 c2) ∧ O.length ≤ c2)
    (o : Own w (slc 128 3 a9 n9 c9 (flat tagC L2) :: cel b 60 [.int .i64 at_, .slice a9 n9 c9, .slice a2 O.length c2, .int .i64 now, .int .i64 aw] :: P :: R)) :
    Own w (RefT (st [slc 128 3 a9 n9 c9 (flat tagC L2), P]) b at_ L2 O now aw :: st [slc 128 3 a9 n9 c9 (flat tagC L2), P] :: R) := by
  subst hn
  have h1 := slOk_slc o
  have n1 := o.slc_len.2.1
  have oC : Own w (st [slc 128 3 a9 L2.length c9 (flat tagC L2), P] :: _) := Own.st.2 (o.re [0, 2, 1])
  exact RefT.iff.2 ⟨a9, c9, a2, c2, ⟨⟨(tagsAt_slc _ _ _ _ rfl).new, h1⟩, n1, ⟨PExtT.add _ _ _ _ hP2.1.1, hP2.1.2⟩, hP2.2⟩, oC.swap⟩
def SetWT (b : Nat) (at_ : Int) (L O : List Tg) (now aw : Int) (P : SP) (R : List SP) (w : World) (er : Int) (e : Ending) (w' : World) : Prop :=
  ∃ P', PExtT P P' ∧ Ret (.int .i64 er) (RefT P' b at_ L O now aw :: P' :: R) w e w'
set_option maxHeartbeats 3200000 in
set_option maxRecDepth 100000 in
theorem setWT_err (f wt : Int) (hL : L.length ≤ 1000) (he : fget L f = none ∨ ¬ (1 ≤ wt ∧ wt ≤ 16)) (o : Own w (RefT P b at_ L O now aw :: P :: R)) :
    Calls Tryz.prog 75 #[.pointer (some ⟨b, 0, none⟩), .int .i64 f, .int .i64 wt] w (IsRet (.int .i64 (if fget L f = none then 6 else 1)) w) := by
  have hat := index_spec f hL o
  have hgw := goodW_spec wt w
  cases hf : fget L f with
  | none =>
    rw [idxT_none 0 L hf] at hat
    rw [if_pos rfl]
    clear he hf
    go_enter Tryz.func75, Tryz.ntmps75
    go_wp2_with fail
    refine hat.mono ?_
    rintro e1 w1 ⟨rfl, rfl⟩
    go_wp2
    go_ret
    exact ⟨rfl, rfl⟩
  | some t =>
    obtain ⟨i, hi, hai⟩ := idxT_some 0 L hf
    rw [hai, Nat.zero_add] at hat
    rw [if_neg (by simp)]
    have hd : decide (1 ≤ wt ∧ wt ≤ 16) = false := by
      rcases he with he | he
      · rw [hf] at he; cases he
      · simp only [decide_eq_false_iff_not]; exact he
    rw [hd] at hgw
    clear he hd hf hai hi
    go_enter Tryz.func75, Tryz.ntmps75
    go_wp2_with fail
    refine hat.mono ?_
    rintro e1 w1 ⟨rfl, rfl⟩
    go_wp2_with fail
    refine hgw.mono ?_
    rintro e2 w2 ⟨rfl, rfl⟩
    go_wp2
    go_ret
    exact ⟨rfl, rfl⟩
set_option maxHeartbeats 3200000 in
set_option maxRecDepth 100000 in
theorem setWT_ok (f wt : Int) {t : Tg} (hok : LOk L) (hw : 1 ≤ wt ∧ wt ≤ 16) (hf : fget L f = some t) (o : Own w (RefT P b at_ L O now aw :: P :: R)) :
    Calls Tryz.prog 75 #[.pointer (some ⟨b, 0, none⟩), .int .i64 f, .int .i64 wt] w (SetWT b at_ (setT ⟨t.f, wt, t.s⟩ L) O now aw P R w 0) := by
  have hL := hok.len
  have hat := index_spec f (by omega) o
  have hgw := goodW_spec wt w
  have hd : decide (1 ≤ wt ∧ wt ≤ 16) = true := by simp; exact hw
  rw [hd] at hgw
  obtain ⟨i, hi, hai⟩ := idxT_some 0 L hf
  rw [hai, Nat.zero_add] at hat
  have hil := (List.getElem?_eq_some_iff.1 hi).1
  have hset := setT_at (x := ⟨t.f, wt, t.s⟩) hok hi rfl
  have hfs := flat_set tagC_len L i 1 t ⟨t.f, wt, t.s⟩ (.int .i64 wt) hi (by omega) rfl
  have HS := Lib.hid hset
  have HF := Lib.hid hfs
  obtain ⟨a, c, a2, c2, ⟨⟨hP, hs⟩, hc, hP2⟩, o1⟩ := RefT.iff.1 o
  have c1 := o1.cell 1
  have cl := o1.celLt
  have cf := o1.frozen
  have oZ := slc_zero (e := 128) (size := 3) ((o1.alloc (.cells #[] 128)))
  have hsrc := tags_src (c := c) hP rfl (oZ.up 2)
  have hfg := flat_get tagC_len L i 1 t hi (by omega)
  have HFG := Lib.hid hfg
  clear hd hw hf hai hi hset hfs hfg
  go_enter Tryz.func75, Tryz.ntmps75
  go_wp2_with fail
  refine hat.mono ?_
  rintro e1 w1 ⟨rfl, rfl⟩
  go_wp2_with fail
  refine hgw.mono ?_
  rintro e2 w2 ⟨rfl, rfl⟩
  go_wp2_with (at_builtin; refine wpList_append_src rfl _ _ rfl Tryz.tagT rfl oZ rfl hsrc (by unfold maxLen; omega) (by omega) ?k1)
  case k1 =>
  intro a5 c5 w5 o5 k5
  have o5z := o5
  have q1 := (o5z.up 1).cell 1
  have ql := (o5z.up 1).celLt
  have qf := (o5z.up 1).frozen
  have oS := ((o5z.up 1).setCell 1 (.slice a5 L.length c5))
  have s1 := oS.cell 1
  rcases Own.slc.1 (oS.up 1) with ⟨_, hz, _⟩ | ⟨g, sp, rfl, _, hcm, _, _, _⟩
  · omega
  · obtain ⟨g', hg', hc', hf', hl'⟩ := (oS.up 1).slc_cell (by omega)
    cases hg'
    have d1 := hc' (i * 3 + 1) _ HFG.out
    have df := hf'
    have o7 := (oS.up 1).slc_set (i * 3 + 1) (.int .i64 wt) (by rw [flat_length tagC_len]; omega)
    rw [← HF.out, HS.out] at o7
    have hlen : L.length = (setT ⟨t.f, wt, t.s⟩ L).length := by rw [← HS.out, List.length_set]
    have oE := refT_newL (L2 := setT ⟨t.f, wt, t.s⟩ L) hlen hP2 o7
    clear hlen
    go_wp2
    go_ret
    exact ⟨_, PExtT.add _ _, rfl, oE, Calm.trans ⟨k5.os, k5.tape, k5.output⟩ ⟨rfl, rfl, rfl⟩⟩
end
end Go.Proofs.YtkmlkpfabkhleaaGreat
