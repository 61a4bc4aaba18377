/- Texts that the law rests on, put together by a program. -/
import Derived.Test.YtkmlkpfabkhleaaGreatIwfqScriptI
import Derived.Test.YtkmlkpfabkhleaaGreatIwfqScriptF
import Derived.Deep.RegionLaw
import Derived.Test.YtkmlkpfabkhleaaGreatIwfqScriptK
import Derived.Test.YtkmlkpfabkhleaaGreatIwfqScriptE
import Derived.Test.YtkmlkpfabkhleaaGreatIwfqScriptC
/- The reference of iwfq: a slot. -/
namespace Go.Proofs.YtkmlkpfabkhleaaGreat
open Go.RowKit
open SP
section
variable {w w' : World} {R : List SP} {b pr : Nat} {at_ : Int} {O : List Tg} {P Sp : SP} {S : St} {m : List (Int × Acc)}

theorem Tryz.i64Iw : ElemT Tryz.prog 45 2 1 8 := ElemT.mk' Tryz.underlying45 (z := .int .i64 0) (by kernel_rfl) (by kernel_rfl) (by omega)
theorem take_i {α : Type} {L : List Tg} {i : Nat} {t : Tg} (g : Tg → α) (h : L[i]? = some t) : (L.take (i + 1)).map g = (L.take i).map g ++ [g t] := by
  rw [List.take_add_one, h, List.map_append]; rfl
def keyL (key : Tg → Int) (L : List Tg) : List Value := (L.map key).map (Value.int .i64)
theorem keyL_snoc (key : Tg → Int) {L : List Tg} {i : Nat} {t : Tg} (h : L[i]? = some t) : keyL key (L.take (i + 1)) = keyL key (L.take i) ++ [.int .i64 (key t)] := by
  unfold keyL
  rw [take_i key h, List.map_append]; rfl
theorem orderN_spec {T : TypeId} {a : Option Addr} {n c : Nat} {ks : List Int} (hn : n = ks.length) (hl : n ≤ 32) (o : Own w (slc T 1 a n c (ks.map (Value.int .i64)) :: R)) :
    Calls Tryz.prog 131 #[.slice a n c] w (fun e w' => ∃ (os : List Nat) (a' : Option Addr) (c' : Nat), OrdN ks n os ∧ Ret (.slice a' n c') (slc 3 1 a' n c' (natI os) :: slc T 1 a n c (ks.map (Value.int .i64)) :: R) w e w') := by
  subst hn
  exact order_spec hl o
theorem head_f {H : List Head} {L : List Tg} (hf : H.map (·.f) = L.map (·.f)) {q : Nat} {x : Head} {t : Tg} (hx : H[q]? = some x) (ht : L[q]? = some t) : x.f = t.f := by
  have := congrArg (fun l => l[q]?) hf
  simp only [List.getElem?_map, hx, ht] at this
  exact Option.some.inj this
theorem idx_f {L : List Tg} (hL : L.Pairwise (fun a b => a.f < b.f)) {k j : Nat} {tk tj : Tg} (hk : L[k]? = some tk) (hj : L[j]? = some tj) : k = j ↔ tk.f = tj.f := by
  obtain ⟨k1, k2⟩ := List.getElem?_eq_some_iff.1 hk
  obtain ⟨j1, j2⟩ := List.getElem?_eq_some_iff.1 hj
  constructor
  · rintro rfl
    rw [hk] at hj
    rw [Option.some.inj hj]
  · intro h
    rcases Nat.lt_trichotomy k j with e | e | e
    · have := List.pairwise_iff_getElem.1 hL k j k1 j1 e; rw [k2, j2] at this; omega
    · exact e
    · have := List.pairwise_iff_getElem.1 hL j k j1 k1 e; rw [k2, j2] at this; omega
theorem pickI {at_ : Int} {S : St} {m : List (Int × Acc)} {k j : Nat} {tk tj : Tg} {len : Int} (hc : (chargeR at_ S tk.f len).1 = 0) (hkj : k = j ↔ tk.f = tj.f) :
    ∃ m', (if (chargeR at_ S tk.f len).1 ≠ 0 then (ch0, (chargeR at_ S tk.f len).1, ({ R := S, m := m } : Iw))
      else if tk.f = tj.f then (⟨tk.f, tk.f, 1⟩, 0, { R := (chargeR at_ S tk.f len).2, m := m })
      else (⟨tk.f, tj.f, 5⟩, 0, { R := (chargeR at_ S tk.f len).2, m := mput (mput m tk.f (accP (accO m tk.f) len)) tj.f (accP (accO m tj.f) (-len)) }))
      = (⟨tk.f, tj.f, whyI k j⟩, 0, { R := (chargeR at_ S tk.f len).2, m := m' }) ∧
      ∀ f, accO (mput (mput m tk.f (accP (accO m tk.f) len)) tj.f (accP (accO (mput m tk.f (accP (accO m tk.f) len)) tj.f) (-len))) f = accO m' f := by
  rw [if_neg (by rw [hc]; simp)]
  by_cases h : tk.f = tj.f
  · refine ⟨m, ?_, fun f => ?_⟩
    · rw [if_pos h]; unfold whyI; rw [if_pos (hkj.2 h), ← h]
    · rw [accO_mput, ← h]
      split
      · rename_i e
        rw [accO_mput, if_pos rfl, e]
        unfold accP
        obtain ⟨x, y⟩ := accO m tk.f
        refine Prod.ext ?_ rfl
        show x + len + -len = x
        omega
      · rename_i e
        rw [accO_mput, if_neg e]
  · refine ⟨_, by rw [if_neg h]; unfold whyI; rw [if_neg (fun e => h (hkj.1 e))], fun f => ?_⟩
    rw [accO_mput m tk.f tj.f, if_neg (fun e => h e.symm)]
def KyRel (P0 : List SP) (L : List Tg) (m : List (Int × Acc)) (w : World) (v6 v7 v8 : Value) (wr : World) : Prop :=
  ∃ (i : Nat) (a6 a7 : Option Addr) (c6 c7 : Nat), v6 = .slice a6 i c6 ∧ v7 = .slice a7 i c7 ∧ v8 = .int .i64 (i : Int) ∧ i ≤ L.length ∧
    Own wr (slc 2 1 a6 i c6 (keyL (·.s) (L.take i)) :: slc 2 1 a7 i c7 (keyL (svcI m) (L.take i)) :: P0) ∧ Calm w wr

set_option maxHeartbeats 12800000 in
set_option maxRecDepth 100000 in
theorem refStepI_spec {reb : Int} (Q : St → List Tg → Prop) (hQ0 : Q S O) {a : Option Addr} {n c : Nat} {H : List Head} (hm : AccOk m) (hok : LOk S.L) (h1 : HeadsAt Sp a H) (hn : n = H.length) (hf : fitsH S.L H = true) (hne : H ≠ [])
    (hB : ∀ (f len : Int), f ∈ S.L.map (·.f) → 1 ≤ len → len ≤ 4096 → ∃ O', Q (chargeR at_ S f len).2 O' ∧ (chargeR at_ S f len).1 = 0 ∧ (chargeR at_ S f len).2.L.map (·.f) = S.L.map (·.f) ∧ ∀ (P : SP) (b : Nat) (w : World) (R : List SP), Own w (RefT P b at_ S.L O S.tm S.aw :: P :: R) → Calls Tryz.prog 116 #[.pointer (some ⟨b, 0, none⟩), .int .i64 f, .int .i64 len] w (SetWT b at_ (chargeR at_ S f len).2.L O' (chargeR at_ S f len).2.tm (chargeR at_ S f len).2.aw P R w 0))
    (o : Own w (IwT P b at_ S O m :: P :: Sp :: R)) :
    Calls Tryz.prog 78 #[.pointer (some ⟨b, 0, none⟩), .slice a n c] w
      (fun e w' => ∃ (P' : SP) (O' : List Tg), Q (stepI at_ ⟨S, m⟩ H).2.2.R O' ∧ Ret (.tuple #[chV (stepI at_ ⟨S, m⟩ H).1, .int .i64 (stepI at_ ⟨S, m⟩ H).2.1]) (IwT P' b at_ (stepI at_ ⟨S, m⟩ H).2.2.R O' (stepI at_ ⟨S, m⟩ H).2.2.m :: P' :: Sp :: R) w e w') := by
  obtain ⟨pr, aB, cB, o1⟩ := IwT.iff.1 o
  obtain ⟨f1, f2⟩ := fits_len hf
  have hlen := hok.len
  have hLl : S.L.length = n := by have := congrArg List.length f1; simp only [List.length_map] at this; omega
  have hLne : S.L ≠ [] := fun e => by rw [e] at hLl; simp at hLl; exact hne (List.eq_nil_of_length_eq_zero (by omega))
  have hn1 : 1 ≤ n := by have : S.L.length ≠ 0 := fun e => hLne (List.eq_nil_of_length_eq_zero e); omega
  have hn32 : n ≤ 32 := by omega
  have oA : Own (w.alloc (.cells #[.int .i64 0, .int .i64 0, .int .i64 0] 38)) (choC w.heap.size 0 0 0 :: IwTc b pr aB S.L.length cB :: RefT P pr at_ S.L O S.tm S.aw :: bdS aB cB m S.L :: P :: Sp :: R) := o1.alloc _
  have b0 := o1.cell 0
  have bl := o1.celLt
  have hhd := headsOK_spec (c := c) h1 hn (by omega) (oA.re [2, 4, 5])
  rw [hf] at hhd
  have hst := stepI_eq (reb := at_) (s := ⟨S, m⟩) hf hne
  dsimp only at hst
  obtain ⟨RS, hRS⟩ : ∃ RS, stepI at_ ⟨S, m⟩ H = RS := ⟨_, rfl⟩
  rw [hRS] at hst ⊢
  have HST := Lib.hid hst
  have HN := Lib.hid hn
  have HLL := Lib.hid hLl
  have HF := Lib.hid hf
  have HQ0 := Lib.hid hQ0
  clear hQ0
  have hn0 : ((n : Int) == 0) = false := by simpa using (by omega : ¬ (n : Int) = 0)
  clear hst hRS hn hLl hf hne o1 o
  go_enter Tryz.func78, Tryz.ntmps78
  go_wp2_with fail
  refine hhd.mono ?_
  rintro e1 w1 ⟨rfl, o2, k2⟩
  clear hhd b0 bl
  have K2 : Calm w w1 := (qcalm_alloc (Calm.refl w)).trans k2
  have hT : KyRel (IwTc b pr aB S.L.length cB :: RefT P pr at_ S.L O S.tm S.aw :: bdS aB cB m S.L :: P :: Sp :: choC w.heap.size 0 0 0 :: R) S.L m w (.slice none 0 0) (.slice none 0 0) (.int .i64 0) w1 := ⟨0, none, none, 0, 0, rfl, rfl, rfl, Nat.zero_le _, Own.slc_nil (Own.slc_nil (o2.re [4, 0, 5, 1, 2, 3])), K2⟩
  clear o2 k2 K2 oA
  go_wp2
  go_loopw [6, 7, 8] (fun v6 v7 v8 wr => KyRel (IwTc b pr aB S.L.length cB :: RefT P pr at_ S.L O S.tm S.aw :: bdS aB cB m S.L :: P :: Sp :: choC w.heap.size 0 0 0 :: R) S.L m w v6 v7 v8 wr) (fun _ _ v _ => n - (Lib.intOf v).toNat)
  case atStart => exact hT
  case round =>
    clear hT
    obtain ⟨i, a6, a7, c6, c7, rfl, rfl, rfl, hi, oR, kR⟩ := hrel
    by_cases hlt : i < n
    · obtain ⟨t, ht⟩ : ∃ t, S.L[i]? = some t := ⟨_, List.getElem?_eq_getElem (by have := HLL.out; omega)⟩
      have hrt := hok.rng t (List.mem_of_getElem? ht)
      have hTR : TgR t := ⟨hrt.2.2.1, hrt.2.2.2.1, hrt.2.2.2.2.1, hrt.2.2.2.2.2⟩
      have c0 := (oR.up 2).cell 0
      have cl := (oR.up 2).celLt
      obtain ⟨a1, c1', a2, c2, ⟨⟨hP, hs⟩, hc, hP2⟩, o3⟩ := RefT.iff.1 (oR.up 3)
      have e1 := o3.cell 1
      have el := o3.celLt
      obtain ⟨g', so, rfl, t0, t1, t2⟩ := hP _ _ (oR.up 5) i _ ht
      have HS := Lib.hid (keyL_snoc (·.s) ht)
      have HV := Lib.hid (keyL_snoc (svcI m) ht)
      have HT := Lib.hid ht
      have hi32 : i ≤ 32 := by omega
      have hiL : i < S.L.length := (List.getElem?_eq_some_iff.1 ht).1
      clear ht hP hs hc hP2 hrt o3
      have oN := oR.alloc (.cells #[.int .i64 t.s] 2)
      go_wp2_with (at_builtin; refine wpList_append_slc rfl _ _ rfl Tryz.i64Iw rfl (oN.up 1) ⟨wr.heap.size, 0, none⟩ 1 1 [.int .i64 t.s] rfl rfl ?c1 ?c2 ?c3 ?c4 ?c5)
      case c1 => exact Own.news (T := 2) oN
      case c2 => intro u hu; simp at hu; rcases hu with rfl; rfl
      case c3 => unfold maxLen; omega
      case c4 => omega
      case c5 =>
      intro a8 c8 w5 o5 k5
      have o5 := o5.re [1] 1
      rw [← HS.out] at o5
      have K5 := kR.trans ((qcalm_alloc (x := .cells #[.int .i64 t.s] 2) (Calm.refl wr)).trans k5)
      have hsv := refSvc_spec hm.lag HT.out hTR (o5.re [2, 3, 4, 5])
      obtain ⟨V, hV⟩ : ∃ V, svcI m t = V := ⟨_, rfl⟩
      rw [hV] at hsv
      have HVV := Lib.hid hV
      clear oN oR kR k5 c0 cl e1 el t0 t1 t2 hV
      go_wp2_with fail
      refine hsv.mono ?_
      rintro e6 w6 ⟨rfl, g6⟩
      have o6 := o5.grw g6
      clear hsv o5
      have oN2 := o6.alloc (.cells #[.int .i64 V] 2)
      go_wp2_with (at_builtin; refine wpList_append_slc rfl _ _ rfl Tryz.i64Iw rfl (oN2.up 2) ⟨w6.heap.size, 0, none⟩ 1 1 [.int .i64 V] rfl rfl ?d1 ?d2 ?d3 ?d4 ?d5)
      case d1 => exact Own.news (T := 2) oN2
      case d2 => intro u hu; simp at hu; rcases hu with rfl; rfl
      case d3 => unfold maxLen; omega
      case d4 => omega
      case d5 =>
      intro a9 c9 w9 o9 k9
      have o9 := o9.re [1, 2, 0] 1
      rw [← HVV.out, ← HV.out] at o9
      have K9 := K5.trans (g6.calm.trans ((qcalm_alloc (x := .cells #[.int .i64 V] 2) (Calm.refl w6)).trans k9))
      clear K5 k9 oN2 o6
      go_wp2
      go_roundw
      case rel => exact ⟨i + 1, a8, a9, c8, c9, rfl, rfl, by go_num, by omega, o9, K9⟩
      case measure => simp [Lib.intOf]; omega
    · have hin : i = S.L.length := by have := HLL.out; omega
      rw [List.take_of_length_le (by rw [hin]; exact Nat.le_refl _)] at oR
      have hiN : i = n := by have := HLL.out; omega
      have HIN := Lib.hid hin
      have HIn := Lib.hid hiN
      have hi32 : i ≤ 32 := by omega
      have hnl : ¬ i < n := hlt
      clear hin hiN hi
      have oK1 : Own wr (slc 2 1 a6 i c6 ((S.L.map (·.s)).map (Value.int .i64)) :: slc 2 1 a7 i c7 ((S.L.map (svcI m)).map (Value.int .i64)) :: IwTc b pr aB S.L.length cB :: RefT P pr at_ S.L O S.tm S.aw :: bdS aB cB m S.L :: P :: Sp :: choC w.heap.size 0 0 0 :: R) := oR
      have ho1 := orderN_spec (by rw [List.length_map]; exact HIN.out) (by omega) oK1
      clear oK1 oR
      go_wp2_with fail
      refine ho1.mono ?_
      rintro e4 w4 ⟨os, a4, c4, hO, rfl, o4, k4⟩
      clear ho1
      have ho2 := orderN_spec (by rw [List.length_map]; exact HIN.out) (by omega) (o4.re [2])
      go_wp2_with fail
      refine ho2.mono ?_
      rintro e5 w5 ⟨ps, a5, c5, hO2, rfl, o5, k5⟩
      have o6 := o5.re [3, 1] 2
      have K6 := kR.trans (k4.trans k5)
      clear ho2 o4 o5 k4 k5 kR
      have hOO := hO
      have hOP := hO2
      have hi : i = S.L.length := HIN.out
      have hst := HST.out
      rw [hi] at hOO hOP
      rw [← ord_srt hok.asc hOO, ← ord_srt hok.asc hOP] at hst
      have hol := hO.len
      have hpl := hO2.len
      have HOS := Lib.hid hO
      have HPS := Lib.hid hO2
      have HST := Lib.hid hst
      have HOL := Lib.hid hol
      have HPL := Lib.hid hpl
      clear hO hO2 hOO hOP hi hst hol hpl
      have hT : OuRel i (okI m H) (os.map (atT S.L)) (ps.map (atT S.L)) (slc 3 1 a5 i c5 (natI ps) :: slc 3 1 a4 i c4 (natI os) :: IwTc b pr aB S.L.length cB :: RefT P pr at_ S.L O S.tm S.aw :: bdS aB cB m S.L :: P :: Sp :: choC w.heap.size 0 0 0 :: R) w (.int .i64 0) w5 := ⟨0, rfl, Nat.zero_le _, by simp, o6, K6⟩
      clear o6 K6
      go_wp2
      go_loopw [11] (fun v wr => OuRel i (okI m H) (os.map (atT S.L)) (ps.map (atT S.L)) (slc 3 1 a5 i c5 (natI ps) :: slc 3 1 a4 i c4 (natI os) :: IwTc b pr aB S.L.length cB :: RefT P pr at_ S.L O S.tm S.aw :: bdS aB cB m S.L :: P :: Sp :: choC w.heap.size 0 0 0 :: R) w v wr) (fun v _ => i - (Lib.intOf v).toNat)
      case atStart => exact hT
      case round =>
        clear hT
        obtain ⟨q, rfl, hq, hno, oR, kR⟩ := hrel
        by_cases hlt : q < i
        · obtain ⟨k, hk⟩ : ∃ k, os[q]? = some k := ⟨_, List.getElem?_eq_getElem (by have := HOL.out; omega)⟩
          obtain ⟨gk, rfl, _, _, _⟩ := (oR.up 1).slc_cell (by omega)
          have hki : k < S.L.length := by have h1 := HOS.out.lt (List.mem_of_getElem? hk); have h2 := HIN.out; omega
          obtain ⟨tk, htk⟩ : ∃ tk, S.L[k]? = some tk := ⟨_, List.getElem?_eq_getElem hki⟩
          have hK : (os.map (atT S.L))[q]? = some tk := by rw [List.getElem?_map, hk, ← atT_get htk]; rfl
          have HK := Lib.hid hK
          have HTK := Lib.hid htk
          have HNO := Lib.hid hno
          have HKI := Lib.hid hk
          clear hk hno hK htk
          have hT : InRel i (okI m H tk) (ps.map (atT S.L)) (slc 3 1 a5 i c5 (natI ps) :: slc 3 1 (some ⟨gk, 0, none⟩) i c4 (natI os) :: IwTc b pr aB S.L.length cB :: RefT P pr at_ S.L O S.tm S.aw :: bdS aB cB m S.L :: P :: Sp :: choC w.heap.size 0 0 0 :: R) w (.int .i64 0) wr := ⟨0, rfl, Nat.zero_le _, by simp, oR, kR⟩
          clear oR kR
          go_wp2
          go_loopw [12] (fun v wr => InRel i (okI m H tk) (ps.map (atT S.L)) (slc 3 1 a5 i c5 (natI ps) :: slc 3 1 (some ⟨gk, 0, none⟩) i c4 (natI os) :: IwTc b pr aB S.L.length cB :: RefT P pr at_ S.L O S.tm S.aw :: bdS aB cB m S.L :: P :: Sp :: choC w.heap.size 0 0 0 :: R) w v wr) (fun v _ => i - (Lib.intOf v).toNat)
          case atStart => exact hT
          case round =>
            clear hT
            obtain ⟨y, rfl, hy, hny, oR, kR⟩ := hrel
            by_cases hlty : y < i
            · obtain ⟨j, hj⟩ : ∃ j, ps[y]? = some j := ⟨_, List.getElem?_eq_getElem (by have := HPL.out; omega)⟩
              obtain ⟨gj, rfl, hcj, _, hjl⟩ := oR.slc_cell (by omega)
              have dj := hcj y _ (natI_get hj)
              obtain ⟨gk', hgk, hck, _, hkl⟩ := (oR.up 1).slc_cell (by omega)
              cases hgk
              have dk := hck q _ (natI_get HKI.out)
              have hji : j < S.L.length := by have h1 := HPS.out.lt (List.mem_of_getElem? hj); have h2 := HIN.out; omega
              obtain ⟨tj, htj⟩ : ∃ tj, S.L[j]? = some tj := ⟨_, List.getElem?_eq_getElem hji⟩
              obtain ⟨x, hx⟩ : ∃ x, H[j]? = some x := ⟨_, List.getElem?_eq_getElem (by have h1 := HN.out; have h2 := HLL.out; omega)⟩
              obtain ⟨z, hz⟩ : ∃ z, H[k]? = some z := ⟨_, List.getElem?_eq_getElem (by have h1 := HN.out; have h2 := HLL.out; omega)⟩
              have hJ : (ps.map (atT S.L))[y]? = some tj := by rw [List.getElem?_map, hj, ← atT_get htj]; rfl
              have hxl := f2 x (List.mem_of_getElem? hx)
              have hkj := idx_f hok.asc HTK.out htj
              have hho := headOf_idxI f1 hok.asc hx
              rw [atT_get htj] at hho
              have hp := refPermitted_spec (c := c) hm HTK.out htj hkj hx HN.out hxl.1 hxl.2 h1 (oR.drew.re [2, 3, 4, 5, 6])
              have hokk : okI m H tk tj = (x.good && permI m tk.f tj.f x.len) := by unfold okI; rw [hho]
              obtain ⟨B, hB'⟩ : ∃ B, (x.good && permI m tk.f tj.f x.len) = B := ⟨_, rfl⟩
              rw [hB'] at hp hokk
              have HJ := Lib.hid hJ
              have HJI := Lib.hid hj
              have HTJ := Lib.hid htj
              have HX := Lib.hid hx
              have HZ := Lib.hid hz
              have HHO := Lib.hid hho
              have HNY := Lib.hid hny
              have HOK := Lib.hid hokk
              have HKJ := Lib.hid hkj
              clear hcj hck hj hny hJ htj hx hz hho hokk hB' hkj
              cases B with
              | false =>
                go_upto_region 17 with fail
                refine wp_region_tail 10 (by kernel_rfl) (by kernel_rfl) ?_
                simp only [List.take_succ_cons, List.take_zero, List.drop_succ_cons, List.drop_zero]
                repeat still_step
                refine wpStill_nil ?_
                go_wp2_with fail
                refine hp.mono ?_
                rintro e7 w7 ⟨rfl, g7⟩
                have o7 := oR.drew.grw g7
                go_wp2
                go_roundw
                case rel => exact ⟨y + 1, by go_num, by omega, take_step HJ.out HNY.out HOK.out, o7, (qcalm_drew kR).trans g7.calm⟩
                case measure => simp [Lib.intOf]; omega
              | true =>
                have hrs := HST.out
                rw [pairI_at HK.out HNO.out HJ.out HNY.out HOK.out] at hrs
                dsimp only at hrs
                rw [HHO.out] at hrs
                have hmem : tk.f ∈ S.L.map (·.f) := List.mem_map.2 ⟨tk, List.mem_of_getElem? HTK.out, rfl⟩
                obtain ⟨O', hQ1, hc0, hLf, hch⟩ := hB tk.f x.len hmem hxl.1 hxl.2
                obtain ⟨m', hpk, hm'⟩ := pickI (m := m) (k := k) (j := j) (tj := tj) hc0 HKJ.out
                rw [hpk] at hrs
                have HRS := Lib.hid hrs
                have HQ1 := Lib.hid hQ1
                clear hrs hpk hQ1
                have hsv := fun w0 R0 (o : Own w0 (IwTc b pr aB S.L.length cB :: RefT P pr at_ S.L O S.tm S.aw :: bdS aB cB m S.L :: P :: Sp :: R0)) => refServeI_spec (c := c) (m' := m') hm hok HTK.out HTJ.out HX.out HZ.out (head_f f1 HZ.out HTK.out) (head_f f1 HX.out HTJ.out) HN.out hxl.1 hxl.2 h1 hch hLf.symm (fun t _ => hm' t.f) o
                unfold chV at hsv
                clear hm' hch
                go_upto_region 17 with fail
                refine wp_region_tail 10 (by kernel_rfl) (by kernel_rfl) ?_
                simp only [List.take_succ_cons, List.take_zero, List.drop_succ_cons, List.drop_zero]
                repeat still_step
                refine wpStill_nil ?_
                go_wp2_with fail
                refine hp.mono ?_
                rintro e7 w7 ⟨rfl, g7⟩
                have o7 := oR.drew.grw g7
                have K7 := (qcalm_drew kR).trans g7.calm
                clear oR kR g7 dk dj hkl hjl
                obtain ⟨gj', hgj, hcj, _, hjl⟩ := o7.slc_cell (by omega)
                cases hgj
                have dj := hcj y _ (natI_get HJI.out)
                obtain ⟨gk', hgk, hck, _, hkl⟩ := (o7.up 1).slc_cell (by omega)
                cases hgk
                have dk := hck q _ (natI_get HKI.out)
                clear hcj hck
                have hsw := hsv w7.drew _ (o7.drew.re [2, 3, 4, 5, 6])
                clear hp hsv
                have hkl2 : q < i := hlt
                go_upto_region 18 with fail
                go_region_held3 (fun w' => w'.cell? ⟨gk, q, none⟩ = some (.int .i64 (k : Int)) ∧ w'.cell? ⟨gj, y, none⟩ = some (.int .i64 (j : Int))) (go_keep) (first
                  | (go_at_call 133; (with_reducible refine hsw.mono ?_); rintro e8 w8 ⟨P', rfl, o8, k8⟩; obtain ⟨gj2, hgj2, hcj2, _, _⟩ := (o8.up 3).slc_cell (by omega); cases hgj2; have dj2 := hcj2 y _ (natI_get HJI.out); obtain ⟨gk2, hgk2, hck2, _, _⟩ := (o8.up 4).slc_cell (by omega); cases hgk2; have dk2 := hck2 q _ (natI_get HKI.out); have z0 := Own.cell (T := 38) (vs := [.int .i64 0, .int .i64 0, .int .i64 0]) (o8.up 5) 0; have z1 := Own.cell (T := 38) (vs := [.int .i64 0, .int .i64 0, .int .i64 0]) (o8.up 5) 1; have z2 := Own.cell (T := 38) (vs := [.int .i64 0, .int .i64 0, .int .i64 0]) (o8.up 5) 2; have zf := Own.frozen (T := 38) (vs := [.int .i64 0, .int .i64 0, .int .i64 0]) (o8.up 5); have zl := Own.celLt (T := 38) (vs := [.int .i64 0, .int .i64 0, .int .i64 0]) (o8.up 5); have oC := choSet (x := tk.f) (y := tj.f) (z := whyI k j) (o8.up 5); obtain ⟨gj3, hgj3, hcj3, _, _⟩ := (oC.up 4).slc_cell (by omega); cases hgj3; have dj3 := hcj3 y _ (natI_get HJI.out); obtain ⟨gk3, hgk3, hck3, _, _⟩ := (oC.up 5).slc_cell (by omega); cases hgk3; have dk3 := hck3 q _ (natI_get HKI.out)))
                clear hsw
                go_wp2
                refine bodyPost_ret (v := .tuple #[chV ⟨tk.f, tj.f, whyI k j⟩, .int .i64 0]) ?_ rfl ?_
                · exact chRow2 (p := w.heap.size) rfl rfl rfl oC
                · refine ⟨P', O', ?_⟩
                  rw [HRS.out]
                  exact ⟨HQ1.out, rfl, oC.re [0, 4, 5] 3, qcalm_set (qcalm_set (qcalm_set ((qcalm_drew K7).trans k8)))⟩
            · have hyn : y = i := by omega
              rw [List.take_of_length_le (by rw [List.length_map]; have := HPL.out; omega)] at hny
              have HNY := Lib.hid hny
              have hyl : ¬ y < i := hlty
              clear hny
              go_wp2
              go_roundw
              case rel => exact ⟨q + 1, by go_num, by omega, take_step HK.out HNO.out HNY.out, oR, kR⟩
              case measure => simp [Lib.intOf]; omega
        · rw [List.take_of_length_le (by rw [List.length_map]; have := HOL.out; omega)] at hno
          have hrs := HST.out
          rw [pairI_end hno] at hrs
          dsimp only at hrs
          have HRS := Lib.hid hrs
          clear hrs hno
          have z0 := Own.cell (T := 38) (vs := [.int .i64 0, .int .i64 0, .int .i64 0]) (oR.up 7) 0
          have z1 := Own.cell (T := 38) (vs := [.int .i64 0, .int .i64 0, .int .i64 0]) (oR.up 7) 1
          have z2 := Own.cell (T := 38) (vs := [.int .i64 0, .int .i64 0, .int .i64 0]) (oR.up 7) 2
          have zf := Own.frozen (T := 38) (vs := [.int .i64 0, .int .i64 0, .int .i64 0]) (oR.up 7)
          have zl := Own.celLt (T := 38) (vs := [.int .i64 0, .int .i64 0, .int .i64 0]) (oR.up 7)
          have oC := choSet (x := -1) (y := -1) (z := 6) (oR.up 7)
          go_wp2
          refine bodyPost_ret (v := .tuple #[chV ⟨-1, -1, 6⟩, .int .i64 0]) ?_ rfl ?_
          · exact chRow2 (p := w.heap.size) rfl rfl rfl oC
          · refine ⟨P, O, ?_⟩
            rw [HRS.out]
            exact ⟨HQ0.out, rfl, IwT.iff.2 ⟨pr, aB, cB, oC.re [0, 1, 2] 3⟩, qcalm_set (qcalm_set (qcalm_set kR))⟩
end
end Go.Proofs.YtkmlkpfabkhleaaGreat

/- Iwfq: a slot with heads that do not fit, or with none, on both sides; SetWeight, Rebased. -/
namespace Go.Proofs.YtkmlkpfabkhleaaGreat
open Go.RowKit
open SP
section
variable {w w' : World} {R : List SP} {b pr : Nat} {reb at_ : Int} {O : List Tg} {P Sp : SP} {S : St} {m : List (Int × Acc)} {s : Iw}

set_option maxHeartbeats 3200000 in
set_option maxRecDepth 100000 in
theorem equalFuncI_short {a a' : Option Addr} {n c n' c' : Nat} (hne : n ≠ n') (w : World) :
    Calls Tryz.prog 85 #[.slice a n c, .slice a' n' c', .func (.func 124) #[] #[]] w (IsRet (.bool false) w) := by
  have hb : ((n : Int) == (n' : Int)) = false := by simpa using (by omega : ¬ (n : Int) = (n' : Int))
  have hb2 : ((n : Int) != (n' : Int)) = true := by simpa using (by omega : ¬ (n : Int) = (n' : Int))
  go_enter Tryz.func85, Tryz.ntmps85
  go_wp2
  go_ret
  exact ⟨rfl, rfl⟩
set_option maxHeartbeats 3200000 in
set_option maxRecDepth 100000 in
theorem headsOK_short {L : List Tg} {rb : Nat} {now aw : Int} {a : Option Addr} {n c : Nat} (hne : n ≠ L.length) (o : Own w (RefT P rb at_ L O now aw :: R)) :
    Calls Tryz.prog 111 #[.pointer (some ⟨rb, 0, none⟩), .slice a n c] w (IsRet (.bool false) w) := by
  obtain ⟨a1, c1, a2, c2, _, o1⟩ := RefT.iff.1 o
  have e1 := o1.cell 1
  have hb : ((n : Int) == (L.length : Int)) = false := by simpa using (by omega : ¬ (n : Int) = (L.length : Int))
  have hb2 : ((n : Int) != (L.length : Int)) = true := by simpa using (by omega : ¬ (n : Int) = (L.length : Int))
  go_enter Tryz.func111, Tryz.ntmps111
  go_wp2
  go_ret
  exact ⟨rfl, rfl⟩

set_option maxHeartbeats 3200000 in
set_option maxRecDepth 100000 in
theorem iwStep_unfit {a : Option Addr} {n c : Nat} {H : List Head} (hok : LOk s.R.L) (h1 : n = H.length ∧ HeadsAt Sp a H ∨ n ≠ s.R.L.length) (hl : n ≤ 33) (hf : fitsH s.R.L H = false) (o : Own w (IwR b reb s :: Sp :: R)) :
    Calls Tryz.prog 77 #[.pointer (some ⟨b, 0, none⟩), .slice a n c] w
      (Ret (.tuple #[chV (stepI reb s H).1, .int .i64 (stepI reb s H).2.1]) (IwR b reb (stepI reb s H).2.2 :: Sp :: R) w) := by
  have e : stepI reb s H = (ch0, 1, s) := by unfold stepI; rw [if_pos hf]
  rw [e]
  clear e
  have hL32 := hok.len
  obtain ⟨rp, ab, o1⟩ := IwR.iff.1 o
  have oA : Own (w.alloc (.cells #[.int .i64 0, .int .i64 0, .int .i64 0] 38)) (choC w.heap.size 0 0 0 :: IwC b rp ab :: SfqR rp reb s.R :: mpI accI ab s.m :: Sp :: R) := o1.alloc _
  have c0 := (oA.up 1).cell 0
  have cl := (oA.up 1).celLt
  have HN := Lib.hid h1
  clear h1
  go_enter Tryz.func77, Tryz.ntmps77
  go_wp2_with fail
  refine (sfqTags_spec (oA.re [2])).mono ?_
  rintro e1 w1 ⟨a', c', rfl, o2, k1⟩
  have he : Calls Tryz.prog 85 #[.slice a n c, .slice a' s.R.L.length c', .func (.func 124) #[] #[]] w1 (Ret (.bool false) (Sp :: slc 128 3 a' s.R.L.length c' (flat tagC s.R.L) :: SfqR rp reb s.R :: choC w.heap.size 0 0 0 :: IwC b rp ab :: mpI accI ab s.m :: R) w1) := by
    rcases HN.out with ⟨hn, h1⟩ | hne
    · have he := equalFuncI_spec (n := n) (c := c) (n' := s.R.L.length) (c' := c') h1 (tagsAt_slc a' s.R.L.length c' s.R.L rfl) hn rfl (by omega) (o2.re [5, 0])
      rw [fitsL_eq, hf] at he
      exact he
    · refine (equalFuncI_short (a := a) (a' := a') (c := c) (c' := c') hne w1).mono ?_
      rintro e2 w2 ⟨rfl, rfl⟩
      exact ⟨rfl, o2.re [5, 0], Calm.refl _⟩
  clear hf
  go_wp2_with fail
  refine he.mono ?_
  rintro e2 w2 ⟨rfl, o3, k2⟩
  clear he c0 cl
  have z0 := Own.cell (T := 38) (vs := [.int .i64 0, .int .i64 0, .int .i64 0]) (o3.up 3) 0
  have z1 := Own.cell (T := 38) (vs := [.int .i64 0, .int .i64 0, .int .i64 0]) (o3.up 3) 1
  have z2 := Own.cell (T := 38) (vs := [.int .i64 0, .int .i64 0, .int .i64 0]) (o3.up 3) 2
  have zf := Own.frozen (T := 38) (vs := [.int .i64 0, .int .i64 0, .int .i64 0]) (o3.up 3)
  have zl := Own.celLt (T := 38) (vs := [.int .i64 0, .int .i64 0, .int .i64 0]) (o3.up 3)
  have oC := choSet (x := 0) (y := 0) (z := 0) (o3.up 3)
  have KC := qcalm_set (x := ⟨w.heap.size, 2, none⟩) (v := .int .i64 0) (qcalm_set (x := ⟨w.heap.size, 1, none⟩) (v := .int .i64 0) (qcalm_set (x := ⟨w.heap.size, 0, none⟩) (v := .int .i64 0) ((qcalm_alloc (x := .cells #[.int .i64 0, .int .i64 0, .int .i64 0] 38) (Calm.refl w)).trans (k1.trans k2))))
  go_wp2
  refine bodyPost_ret (v := .tuple #[chV ⟨0, 0, 0⟩, .int .i64 1]) ?_ rfl ?_
  · exact chRow2 (p := w.heap.size) rfl rfl rfl oC
  · exact ⟨rfl, IwR.iff.2 ⟨rp, ab, (oC.re [0, 2] 2).re [2, 1, 3, 0]⟩, KC⟩

set_option maxHeartbeats 3200000 in
set_option maxRecDepth 100000 in
theorem refStepI_unfit {a : Option Addr} {n c : Nat} {H : List Head} (hok : LOk S.L) (h1 : n = H.length ∧ HeadsAt Sp a H ∨ n ≠ S.L.length) (_ : n ≤ 33) (hf : fitsH S.L H = false) (o : Own w (IwT P b at_ S O m :: P :: Sp :: R)) :
    Calls Tryz.prog 78 #[.pointer (some ⟨b, 0, none⟩), .slice a n c] w
      (Ret (.tuple #[chV ch0, .int .i64 1]) (IwT P b at_ S O m :: P :: Sp :: R) w) := by
  have hL32 := hok.len
  obtain ⟨pr, aB, cB, o1⟩ := IwT.iff.1 o
  have oA : Own (w.alloc (.cells #[.int .i64 0, .int .i64 0, .int .i64 0] 38)) (choC w.heap.size 0 0 0 :: IwTc b pr aB S.L.length cB :: RefT P pr at_ S.L O S.tm S.aw :: bdS aB cB m S.L :: P :: Sp :: R) := o1.alloc _
  have b0 := o1.cell 0
  have bl := o1.celLt
  have hhd : Calls Tryz.prog 111 #[.pointer (some ⟨pr, 0, none⟩), .slice a n c] (w.alloc (.cells #[.int .i64 0, .int .i64 0, .int .i64 0] 38)) (Ret (.bool false) (RefT P pr at_ S.L O S.tm S.aw :: P :: Sp :: choC w.heap.size 0 0 0 :: IwTc b pr aB S.L.length cB :: bdS aB cB m S.L :: R) (w.alloc (.cells #[.int .i64 0, .int .i64 0, .int .i64 0] 38))) := by
    rcases h1 with ⟨hn, h1⟩ | hne
    · have hhd := headsOK_spec (n := n) (c := c) h1 hn (by omega) (oA.re [2, 4, 5])
      rw [hf] at hhd
      exact hhd
    · refine (headsOK_short (a := a) (c := c) hne (oA.re [2])).mono ?_
      rintro e2 w2 ⟨rfl, rfl⟩
      exact ⟨rfl, oA.re [2, 4, 5], Calm.refl _⟩
  clear hf
  go_enter Tryz.func78, Tryz.ntmps78
  go_wp2_with fail
  refine hhd.mono ?_
  rintro e1 w1 ⟨rfl, o2, k2⟩
  clear hhd b0 bl
  have z0 := Own.cell (T := 38) (vs := [.int .i64 0, .int .i64 0, .int .i64 0]) (o2.up 3) 0
  have z1 := Own.cell (T := 38) (vs := [.int .i64 0, .int .i64 0, .int .i64 0]) (o2.up 3) 1
  have z2 := Own.cell (T := 38) (vs := [.int .i64 0, .int .i64 0, .int .i64 0]) (o2.up 3) 2
  have zf := Own.frozen (T := 38) (vs := [.int .i64 0, .int .i64 0, .int .i64 0]) (o2.up 3)
  have zl := Own.celLt (T := 38) (vs := [.int .i64 0, .int .i64 0, .int .i64 0]) (o2.up 3)
  have oC := choSet (x := 0) (y := 0) (z := 0) (o2.up 3)
  have KC := qcalm_set (x := ⟨w.heap.size, 2, none⟩) (v := .int .i64 0) (qcalm_set (x := ⟨w.heap.size, 1, none⟩) (v := .int .i64 0) (qcalm_set (x := ⟨w.heap.size, 0, none⟩) (v := .int .i64 0) ((qcalm_alloc (x := .cells #[.int .i64 0, .int .i64 0, .int .i64 0] 38) (Calm.refl w)).trans k2)))
  go_wp2
  refine bodyPost_ret (v := .tuple #[chV ⟨0, 0, 0⟩, .int .i64 1]) ?_ rfl ?_
  · exact chRow2 (p := w.heap.size) rfl rfl rfl oC
  · exact ⟨rfl, IwT.iff.2 ⟨pr, aB, cB, oC.drop.re [3, 0, 4, 1, 2]⟩, KC⟩

set_option maxHeartbeats 3200000 in
set_option maxRecDepth 100000 in
theorem iwStep_empty {a : Option Addr} {c : Nat} (h1 : HeadsAt Sp a []) (hL : s.R.L = []) (o : Own w (IwR b reb s :: Sp :: R)) :
    Calls Tryz.prog 77 #[.pointer (some ⟨b, 0, none⟩), .slice a 0 c] w
      (Ret (.tuple #[chV (stepI reb s []).1, .int .i64 (stepI reb s []).2.1]) (IwR b reb (stepI reb s []).2.2 :: Sp :: R) w) := by
  have hf : fitsH s.R.L [] = true := by rw [hL]; rfl
  have e : stepI reb s [] = (ch0, 5, s) := by unfold stepI; rw [if_neg (by rw [hf]; simp), if_pos rfl]
  rw [e]
  clear e
  have hL32 : s.R.L.length ≤ 32 := by rw [hL]; exact Nat.zero_le _
  have hn : 0 = ([] : List Head).length := rfl
  have HL0 := Lib.hid hL
  clear hL
  obtain ⟨rp, ab, o1⟩ := IwR.iff.1 o
  have oA : Own (w.alloc (.cells #[.int .i64 0, .int .i64 0, .int .i64 0] 38)) (choC w.heap.size 0 0 0 :: IwC b rp ab :: SfqR rp reb s.R :: mpI accI ab s.m :: Sp :: R) := o1.alloc _
  have c0 := (oA.up 1).cell 0
  have cl := (oA.up 1).celLt
  have HN := Lib.hid hn
  clear hn
  go_enter Tryz.func77, Tryz.ntmps77
  go_wp2_with fail
  refine (sfqTags_spec (oA.re [2])).mono ?_
  rintro e1 w1 ⟨a', c', rfl, o2, k1⟩
  have he := equalFuncI_spec (n := 0) (c := c) (n' := s.R.L.length) (c' := c') h1 (tagsAt_slc a' s.R.L.length c' s.R.L rfl) HN.out rfl (by omega) (o2.re [5, 0])
  rw [fitsL_eq, hf] at he
  clear hf
  go_wp2_with fail
  refine he.mono ?_
  rintro e2 w2 ⟨rfl, o3, k2⟩
  clear he c0 cl
  have z0 := Own.cell (T := 38) (vs := [.int .i64 0, .int .i64 0, .int .i64 0]) (o3.up 3) 0
  have z1 := Own.cell (T := 38) (vs := [.int .i64 0, .int .i64 0, .int .i64 0]) (o3.up 3) 1
  have z2 := Own.cell (T := 38) (vs := [.int .i64 0, .int .i64 0, .int .i64 0]) (o3.up 3) 2
  have zf := Own.frozen (T := 38) (vs := [.int .i64 0, .int .i64 0, .int .i64 0]) (o3.up 3)
  have zl := Own.celLt (T := 38) (vs := [.int .i64 0, .int .i64 0, .int .i64 0]) (o3.up 3)
  have oC := choSet (x := 0) (y := 0) (z := 0) (o3.up 3)
  have KC := qcalm_set (x := ⟨w.heap.size, 2, none⟩) (v := .int .i64 0) (qcalm_set (x := ⟨w.heap.size, 1, none⟩) (v := .int .i64 0) (qcalm_set (x := ⟨w.heap.size, 0, none⟩) (v := .int .i64 0) ((qcalm_alloc (x := .cells #[.int .i64 0, .int .i64 0, .int .i64 0] 38) (Calm.refl w)).trans (k1.trans k2))))
  go_wp2
  refine bodyPost_ret (v := .tuple #[chV ⟨0, 0, 0⟩, .int .i64 5]) ?_ rfl ?_
  · exact chRow2 (p := w.heap.size) rfl rfl rfl oC
  · exact ⟨rfl, IwR.iff.2 ⟨rp, ab, (oC.re [0, 2] 2).re [2, 1, 3, 0]⟩, KC⟩

set_option maxHeartbeats 3200000 in
set_option maxRecDepth 100000 in
theorem refStepI_empty {a : Option Addr} {c : Nat} (h1 : HeadsAt Sp a []) (hL : S.L = []) (o : Own w (IwT P b at_ S O m :: P :: Sp :: R)) :
    Calls Tryz.prog 78 #[.pointer (some ⟨b, 0, none⟩), .slice a 0 c] w
      (Ret (.tuple #[chV ch0, .int .i64 5]) (IwT P b at_ S O m :: P :: Sp :: R) w) := by
  have hf : fitsH S.L [] = true := by rw [hL]; rfl
  have hL32 : S.L.length ≤ 32 := by rw [hL]; exact Nat.zero_le _
  have hn : 0 = ([] : List Head).length := rfl
  have HL0 := Lib.hid hL
  clear hL
  obtain ⟨pr, aB, cB, o1⟩ := IwT.iff.1 o
  have oA : Own (w.alloc (.cells #[.int .i64 0, .int .i64 0, .int .i64 0] 38)) (choC w.heap.size 0 0 0 :: IwTc b pr aB S.L.length cB :: RefT P pr at_ S.L O S.tm S.aw :: bdS aB cB m S.L :: P :: Sp :: R) := o1.alloc _
  have b0 := o1.cell 0
  have bl := o1.celLt
  have hhd := headsOK_spec (n := 0) (c := c) h1 hn (by omega) (oA.re [2, 4, 5])
  rw [hf] at hhd
  have HN := Lib.hid hn
  clear hn hf
  go_enter Tryz.func78, Tryz.ntmps78
  go_wp2_with fail
  refine hhd.mono ?_
  rintro e1 w1 ⟨rfl, o2, k2⟩
  clear hhd b0 bl
  have z0 := Own.cell (T := 38) (vs := [.int .i64 0, .int .i64 0, .int .i64 0]) (o2.up 3) 0
  have z1 := Own.cell (T := 38) (vs := [.int .i64 0, .int .i64 0, .int .i64 0]) (o2.up 3) 1
  have z2 := Own.cell (T := 38) (vs := [.int .i64 0, .int .i64 0, .int .i64 0]) (o2.up 3) 2
  have zf := Own.frozen (T := 38) (vs := [.int .i64 0, .int .i64 0, .int .i64 0]) (o2.up 3)
  have zl := Own.celLt (T := 38) (vs := [.int .i64 0, .int .i64 0, .int .i64 0]) (o2.up 3)
  have oC := choSet (x := 0) (y := 0) (z := 0) (o2.up 3)
  have KC := qcalm_set (x := ⟨w.heap.size, 2, none⟩) (v := .int .i64 0) (qcalm_set (x := ⟨w.heap.size, 1, none⟩) (v := .int .i64 0) (qcalm_set (x := ⟨w.heap.size, 0, none⟩) (v := .int .i64 0) ((qcalm_alloc (x := .cells #[.int .i64 0, .int .i64 0, .int .i64 0] 38) (Calm.refl w)).trans k2)))
  go_wp2
  refine bodyPost_ret (v := .tuple #[chV ⟨0, 0, 0⟩, .int .i64 5]) ?_ rfl ?_
  · exact chRow2 (p := w.heap.size) rfl rfl rfl oC
  · exact ⟨rfl, IwT.iff.2 ⟨pr, aB, cB, oC.drop.re [3, 0, 4, 1, 2]⟩, KC⟩

theorem iwSetW_spec (f wt : Int) (o : Own w (IwR b reb s :: R)) :
    Calls Tryz.prog 74 #[.pointer (some ⟨b, 0, none⟩), .int .i64 f, .int .i64 wt] w (Ret (.int .i64 (setWR s.R f wt).1) (IwR b reb ⟨(setWR s.R f wt).2, s.m⟩ :: R) w) := by
  obtain ⟨rp, ab, o1⟩ := IwR.iff.1 o
  have c0 := o1.cell 0
  have hq := sfqSetW_spec f wt (o1.re [1])
  go_enter Tryz.func74, Tryz.ntmps74
  go_wp2_with fail
  refine hq.mono ?_
  rintro e1 w1 ⟨rfl, o2, k2⟩
  go_wp2
  go_ret
  exact ⟨rfl, IwR.iff.2 ⟨rp, ab, o2.re [1, 0]⟩, k2⟩
theorem iwRebased_spec (o : Own w (IwR b reb s :: R)) :
    Calls Tryz.prog 31 #[.pointer (some ⟨b, 0, none⟩)] w (IsRet (.int .i64 s.R.aw) w) := by
  obtain ⟨rp, ab, o1⟩ := IwR.iff.1 o
  have c0 := o1.cell 0
  have hq := sfqRebased_spec (o1.re [1])
  go_enter Tryz.func31, Tryz.ntmps31
  go_wp2_with fail
  refine hq.mono ?_
  rintro e1 w1 ⟨rfl, rfl⟩
  go_wp2
  go_ret
  exact ⟨rfl, rfl⟩
end
end Go.Proofs.YtkmlkpfabkhleaaGreat

/- Iwfq: Sum, SetBounds. -/
namespace Go.Proofs.YtkmlkpfabkhleaaGreat
open Go.RowKit
open SP
section
variable {w w' : World} {R : List SP} {b rp N : Nat} {reb : Int} {O : List Tg} {s : Iw} {m : List (Int × Acc)}

/-- The sum over the entries that have been visited. -/
def sumVA (S : Int → Bool) (m : List (Int × Acc)) : Int := sumI (m.map fun p => if S p.1 then p.2.1 else 0)
theorem sumVA_none (m : List (Int × Acc)) : sumVA (fun _ => false) m = 0 := by
  unfold sumVA
  induction m with
  | nil => rfl
  | cons p m ih => rw [List.map_cons, sumI_cons, ih]; rfl
theorem sumVA_next {S : Int → Bool} {k : Int} : ∀ {m : List (Int × Acc)} (_ : Uniq m) {t : Acc} (_ : mget m k = some t) (_ : S k = false), sumVA (fun z => S z || z == k) m = sumVA S m + t.1
  | [], _, t, h, _ => by simp [mget] at h
  | (k0, u) :: m, hu, t, h, hS => by
    unfold Uniq at hu
    rw [List.map_cons, List.nodup_cons] at hu
    unfold sumVA
    rw [List.map_cons, List.map_cons, sumI_cons, sumI_cons]
    unfold mget at h
    by_cases hk : k = k0
    · subst hk
      rw [if_pos rfl] at h
      obtain rfl := Option.some.inj h
      have e : m.map (fun p => if (S p.1 || p.1 == k) = true then p.2.1 else 0) = m.map (fun p => if S p.1 = true then p.2.1 else 0) := by
        refine List.map_congr_left fun p hp => ?_
        have : p.1 ≠ k := fun e => hu.1 (List.mem_map.2 ⟨p, hp, e⟩)
        simp [this]
      rw [e]
      simp [hS]; omega
    · rw [if_neg hk] at h
      have ih := sumVA_next (S := S) (k := k) (m := m) hu.2 h hS
      unfold sumVA at ih
      rw [ih]
      have : (k0 == k) = false := by simpa using fun e => hk e.symm
      simp [this]; omega
theorem sumVA_all {S : Int → Bool} {m : List (Int × Acc)} (h : ∀ x ∈ m, S x.1 = true) : sumVA S m = sumI (m.map fun p => p.2.1) := by
  have e : m.map (fun p => if S p.1 = true then p.2.1 else 0) = m.map fun p => p.2.1 := List.map_congr_left fun p hp => by rw [if_pos (h p hp)]
  unfold sumVA
  rw [e]
theorem sumVA_abs (S : Int → Bool) {m : List (Int × Acc)} (h : ∀ p ∈ m, ab p.2.1 ≤ 1099511627776) : ab (sumVA S m) ≤ 1099511627776 * (m.length : Int) := by
  unfold sumVA
  induction m with
  | nil => show ab 0 ≤ _; simp [ab]
  | cons p m ih =>
    have h1 := ih fun q hq => h q (by simp [hq])
    have h2 := h p (by simp)
    rw [List.map_cons, sumI_cons, List.length_cons]
    generalize sumI (m.map fun p => if S p.1 = true then p.2.1 else 0) = q at *
    unfold ab at *
    push_cast
    split <;> omega
def SumRelI (b rp ab ib : Nat) (reb : Int) (s : Iw) (R : List SP) (w : World) (v3 : Value) (wr : World) : Prop :=
  ∃ (S : Int → Bool) (cur : Option Int), v3 = .int .i64 (sumVA S s.m) ∧ Own wr (rng accI ab ib s.m S cur :: IwC b rp ab :: SfqR rp reb s.R :: R) ∧ Calm w wr
set_option maxHeartbeats 3200000 in
set_option maxRecDepth 100000 in
theorem iwSum_spec (hI : IwS N s O) (o : Own w (IwR b reb s :: R)) :
    Calls Tryz.prog 37 #[.pointer (some ⟨b, 0, none⟩)] w (Ret (.int .i64 0) (IwR b reb s :: R) w) := by
  obtain ⟨rp, ab, o1⟩ := IwR.iff.1 o
  have c1 := o1.cell 1
  have hum := hI.un
  obtain ⟨w5, hr5, o9, k9⟩ := run_range_mpI (P := Tryz.prog) Tryz.underlying137 (o1.up 2)
  have hT : SumRelI b rp ab w.heap.size reb s R w (.int .i64 0) w5 := ⟨fun _ => false, none, by rw [sumVA_none], o9, k9⟩
  have hml : s.m.length ≤ 32 := by
    have h1 := hI.ks.length_eq
    rw [List.length_map, List.length_map] at h1
    rw [h1]; exact hI.rel.ok.ok.len
  have hbd : ∀ S : Int → Bool, Go.Proofs.YtkmlkpfabkhleaaGreat.ab (sumVA S s.m) ≤ 35184372088832 := fun S => by
    have := sumVA_abs S (m := s.m) fun p hp => by
      have h1 := hI.acc p.1
      have : accO s.m p.1 = p.2 := by unfold accO; rw [mget_mem hI.un hp]; rfl
      rw [this] at h1
      unfold accIn at h1
      unfold Go.Proofs.YtkmlkpfabkhleaaGreat.ab
      omega
    omega
  have hsum := hI.sumM
  have HBd := Lib.hid hbd
  generalize hib : w.heap.size = ib at *
  have HS := Lib.hid hsum
  clear o9 k9 hib hbd hI hml hsum
  go_enter Tryz.func37, Tryz.ntmps37
  go_wp2
  go_loopw [3] (fun v wr => SumRelI b rp ab ib reb s R w v wr) (fun _ wr => rleft wr ab ib)
  case atStart => exact hT
  case round =>
    clear hT hr5 c1 o1 o
    obtain ⟨S, cur, rfl, oR, kR⟩ := hrel
    rcases run_next_rng (P := Tryz.prog) 0 hum oR with ⟨hd, hr⟩ | ⟨x, w6, hx, hS, hr, o10, k10⟩
    · have hall := sumVA_all hd
      rw [hall, HS.out]
      have oD := oR.rng_done
      go_wp2
      go_ret
      exact ⟨rfl, IwR.iff.2 ⟨rp, ab, oD.re [1, 2]⟩, kR⟩
    · have hmv := mget_mem hum hx
      have hen := run_entry_rng (P := Tryz.prog) hum o10 hmv
      obtain ⟨k, t0, t1, t2⟩ := x
      dsimp only at hS hmv hen o10
      have hnx := sumVA_next hum hmv hS
      have b1 := HBd.out S
      have b2 := HBd.out (fun z => S z || z == k)
      rw [hnx] at b2
      unfold accI at hen
      dsimp only at hnx b2 hen
      obtain ⟨s0, hs0⟩ : ∃ s0, sumVA S s.m = s0 := ⟨_, rfl⟩
      rw [hs0] at hnx b1 b2 ⊢
      have hw : IntKind.i64.wrap (s0 + t0) = s0 + t0 := by unfold Go.Proofs.YtkmlkpfabkhleaaGreat.ab at b1 b2; rw [IntKind.wrap_i64]; omega
      have HNX := Lib.hid hnx
      clear hnx b1 b2 hs0
      have oA := o10.alloc (.cells #[.int .i64 t0, .int .i64 t1, .int .i64 t2] 143)
      go_wp2
      go_roundw
      case rel => exact ⟨_, _, by rw [HNX.out], oA.drop, ⟨k10.os.trans kR.os, k10.tape.trans kR.tape, k10.output.trans kR.output⟩⟩
      case measure =>
        rw [oA.drop.rleft, oR.rleft]
        exact kleft_lt hx hS

theorem lookI2 (o : Own w (mpI accI b m :: R)) (k : Int) :
    (Instr.lookup 137 (.map (some b)) (.int .i64 k) true).run Tryz.prog w = .ok (.tuple #[accI (accO m k), .bool (mget m k).isSome]) w := by
  rw [run_lookup_mpI Tryz.underlying137 Tryz.underlying3 Tryz.zeroIw o k true]
  unfold accO
  cases mget m k <;> rfl
set_option maxHeartbeats 3200000 in
set_option maxRecDepth 100000 in
theorem iwSetB_spec (f x y : Int) (hI : IwS N s O) (o : Own w (IwR b reb s :: R)) :
    Calls Tryz.prog 34 #[.pointer (some ⟨b, 0, none⟩), .int .i64 f, .int .i64 x, .int .i64 y] w (Ret (.int .i64 (setBI s.m s.R.L f x y).1) (IwR b reb ⟨s.R, (setBI s.m s.R.L f x y).2⟩ :: R) w) := by
  obtain ⟨rp, ab, o1⟩ := IwR.iff.1 o
  have c1 := o1.cell 1
  have cl := o1.celLt
  have hlk := lookI2 (o1.up 2) f
  have hks : (mget s.m f).isSome = (fget s.R.L f).isSome := by
    cases hf : fget s.R.L f with
    | some t =>
      obtain ⟨hm, e⟩ := fget_some hf
      obtain ⟨a, ha⟩ := hI.get hm
      rw [e] at ha
      rw [ha]; rfl
    | none =>
      cases hm : mget s.m f with
      | none => rfl
      | some a =>
        have h1 : (f, a) ∈ s.m := mem_of_mget hm
        have h2 : f ∈ s.R.L.map (·.f) := hI.ks.mem_iff.1 (List.mem_map.2 ⟨_, h1, rfl⟩)
        obtain ⟨t, ht, e⟩ := List.mem_map.1 h2
        exact absurd e (fget_none.1 hf t ht)
  have ha := hI.acc f
  rw [hks] at hlk
  have hbo := bounded_spec x y w
  unfold accIn at ha
  obtain ⟨RS, hRS⟩ : ∃ RS, setBI s.m s.R.L f x y = RS := ⟨_, rfl⟩
  rw [hRS]
  unfold setBI at hRS
  unfold accI at hlk
  obtain ⟨q1, q2, q3, hq⟩ : ∃ q1 q2 q3, accO s.m f = (q1, q2, q3) := ⟨_, _, _, rfl⟩
  rw [hq] at hlk ha hRS
  dsimp only at hlk ha hRS
  cases hf : fget s.R.L f with
  | none =>
    rw [hf] at hlk hRS
    rw [if_pos rfl] at hRS
    subst hRS
    clear hf hI hks ha hq hbo
    go_enter Tryz.func34, Tryz.ntmps34
    go_wp2
    go_ret
    exact ⟨rfl, IwR.iff.2 ⟨rp, ab, (o1.alloc _).drop⟩, ⟨rfl, rfl, rfl⟩⟩
  | some t =>
    rw [hf] at hlk hRS
    rw [if_neg (by simp)] at hRS
    have oA := o1.alloc (.cells #[.int .i64 q1, .int .i64 q2, .int .i64 q3] 143)
    cases hb : bndI x y with
    | false =>
      rw [hb, if_pos rfl] at hRS
      rw [hb] at hbo
      subst hRS
      have hbo2 : ∀ w, Calls Tryz.prog 79 #[.int .i64 x, .int .i64 y] w (IsRet (.bool false) w) := fun w => by have := bounded_spec x y w; rw [hb] at this; exact this
      clear hf hI hks ha hq hb hbo
      go_enter Tryz.func34, Tryz.ntmps34
      go_wp2_with fail
      refine (hbo2 _).mono ?_
      rintro e2 w2 ⟨rfl, rfl⟩
      go_wp2
      go_ret
      exact ⟨rfl, IwR.iff.2 ⟨rp, ab, oA.drop⟩, ⟨rfl, rfl, rfl⟩⟩
    | true =>
      rw [hb, if_neg (by simp)] at hRS
      have hbo2 : ∀ w, Calls Tryz.prog 79 #[.int .i64 x, .int .i64 y] w (IsRet (.bool true) w) := fun w => by have := bounded_spec x y w; rw [hb] at this; exact this
      obtain ⟨z0, z1, z2, z3⟩ := bndI_rng hb
      have wy := IntWalk.i64_in (-y) (by omega)
      have e0 := oA.cell (T := 143) (vs := [.int .i64 q1, .int .i64 q2, .int .i64 q3]) 0
      have e1 := oA.cell (T := 143) (vs := [.int .i64 q1, .int .i64 q2, .int .i64 q3]) 1
      have e2 := oA.cell (T := 143) (vs := [.int .i64 q1, .int .i64 q2, .int .i64 q3]) 2
      have ef := oA.frozen (T := 143) (vs := [.int .i64 q1, .int .i64 q2, .int .i64 q3])
      have el := oA.celLt (T := 143) (vs := [.int .i64 q1, .int .i64 q2, .int .i64 q3])
      clear hI hks ha hf hq hb z0 z1 z2 z3
      by_cases hst : x < q1 ∨ q1 < -y
      · rw [if_pos hst] at hRS
        subst hRS
        by_cases hx : x < q1
        · have hxd : decide (x < q1) = true := decide_eq_true hx
          clear hst
          go_enter Tryz.func34, Tryz.ntmps34
          go_wp2_with fail
          refine (hbo2 _).mono ?_
          rintro e2 w2 ⟨rfl, rfl⟩
          go_wp2
          go_ret
          exact ⟨rfl, IwR.iff.2 ⟨rp, ab, oA.drop⟩, ⟨rfl, rfl, rfl⟩⟩
        · have hxd : decide (x < q1) = false := decide_eq_false hx
          have hyd : decide (q1 < -y) = true := decide_eq_true (by omega)
          clear hst
          go_enter Tryz.func34, Tryz.ntmps34
          go_wp2_with fail
          refine (hbo2 _).mono ?_
          rintro e2 w2 ⟨rfl, rfl⟩
          go_wp2
          go_ret
          exact ⟨rfl, IwR.iff.2 ⟨rp, ab, oA.drop⟩, ⟨rfl, rfl, rfl⟩⟩
      · rw [if_neg hst] at hRS
        subst hRS
        have hxd : decide (x < q1) = false := decide_eq_false (by omega)
        have hyd : decide (q1 < -y) = false := decide_eq_false (by omega)
        clear hst
        have oS := o1.alloc (.cells #[.int .i64 q1, .int .i64 x, .int .i64 y] 143)
        go_enter Tryz.func34, Tryz.ntmps34
        go_wp2_with fail
        refine (hbo2 _).mono ?_
        rintro e2 w2 ⟨rfl, rfl⟩
        go_upto_region 9 with fail
        obtain ⟨tb, htb⟩ : ∃ tb, w.heap.size = tb := ⟨_, rfl⟩
        rw [htb] at oS ⊢
        have KS : Calm w (w.alloc (.cells #[.int .i64 q1, .int .i64 x, .int .i64 y] 143)) := ⟨rfl, rfl, rfl⟩
        obtain ⟨wS, hwS⟩ : ∃ wS, w.alloc (.cells #[.int .i64 q1, .int .i64 x, .int .i64 y] 143) = wS := ⟨_, rfl⟩
        rw [hwS] at oS KS ⊢
        clear hwS htb e0 e1 e2 ef el oA hlk c1 cl hbo hbo2
        have e0 := oS.cell (T := 143) (vs := [.int .i64 q1, .int .i64 x, .int .i64 y]) 0
        have e1 := oS.cell (T := 143) (vs := [.int .i64 q1, .int .i64 x, .int .i64 y]) 1
        have e2 := oS.cell (T := 143) (vs := [.int .i64 q1, .int .i64 x, .int .i64 y]) 2
        have c1 := (oS.up 1).cell 1
        refine wp_region_tail 6 (by kernel_rfl) (by kernel_rfl) ?_
        simp only [List.take_succ_cons, List.take_zero, List.drop_succ_cons, List.drop_zero]
        repeat still_step
        refine wpStill_nil ?_
        go_wp2_with (at_mapUpdate; refine wpList_mapUpdate_mpI (f := accI) rfl _ _ _ rfl Tryz.underlying137 Tryz.underlying3 ((oS.up 3).drew) f (q1, x, y) rfl rfl rfl ?_)
        intro w4 o4 k4
        go_wp2
        go_ret
        exact ⟨rfl, IwR.iff.2 ⟨rp, ab, (o4.re [1] 1).re [1, 2, 0]⟩, KS.trans ⟨k4.os, k4.tape, k4.output⟩⟩
end
end Go.Proofs.YtkmlkpfabkhleaaGreat

/- Iwfq: Leave. -/
namespace Go.Proofs.YtkmlkpfabkhleaaGreat
open Go.RowKit
open SP
section
variable {w w' : World} {R : List SP} {b rp ab N : Nat} {reb : Int} {O : List Tg} {s : Iw} {m : List (Int × Acc)}

theorem Tryz.i64tW : ElemT Tryz.prog 45 2 1 8 := ElemT.mk' Tryz.underlying45 (z := .int .i64 0) (by kernel_rfl) (by kernel_rfl) (by omega)
def LwP (b rp ab : Nat) (reb : Int) (S2 : St) (at_ : Option Addr) (tc : Nat) (had : Int) (m1 : List (Int × Acc)) (R : List SP) (w : World) (v9 v10 v49 : Value) (wr : World) : Prop :=
  ∃ (k : Nat) (a9 a10 : Option Addr) (c9 c10 : Nat), v49 = .int .i64 (k : Int) ∧ v9 = .slice a9 k c9 ∧ v10 = .slice a10 k c10 ∧ k ≤ S2.L.length ∧
    Own wr (slc 162 2 a9 k c9 (flat part (ptsOf (S2.L.take k))) :: slc 2 1 a10 k c10 (i64s ((S2.L.take k).map (capI had m1))) :: slc 128 3 at_ S2.L.length tc (flat tagC S2.L) :: IwC b rp ab :: mpI accI ab m1 :: SfqR rp reb S2 :: R) ∧ Calm w wr
def LwG (b rp ab : Nat) (reb : Int) (S2 : St) (ax : Option Addr) (cx : Nat) (a9 : Option Addr) (c9 : Nat) (sg : Int) (G : List Int) (m1 : List (Int × Acc)) (R : List SP) (w : World) (v99 : Value) (wr : World) : Prop :=
  ∃ k : Nat, v99 = .int .i64 (k : Int) ∧ k ≤ S2.L.length ∧
    Own wr (slc 2 1 ax S2.L.length cx (i64s G) :: slc 162 2 a9 S2.L.length c9 (flat part (ptsOf S2.L)) :: IwC b rp ab :: mpI accI ab (giveI sg ((S2.L.zip G).take k) m1) :: SfqR rp reb S2 :: R) ∧ Calm w wr
theorem sg_le {had g : Int} (h0 : 0 ≤ g) (h1 : g ≤ 2199023255552) : -2199023255552 ≤ sgI had * g ∧ sgI had * g ≤ 2199023255552 := by
  unfold sgI
  split
  · rw [Int.neg_one_mul]; omega
  · rw [Int.one_mul]; omega

set_option maxHeartbeats 12800000 in
set_option maxRecDepth 100000 in
theorem iwLeave_spec (f : Int) (hN : N ≤ 1000) (hI : IwS N s O) (o : Own w (IwR b reb s :: R)) :
    Calls Tryz.prog 72 #[.pointer (some ⟨b, 0, none⟩), .int .i64 f] w (Ret (.tuple #[.int .i64 (leaveI s f).1.1, .int .i64 (leaveI s f).1.2]) (IwR b reb (leaveI s f).2 :: R) w) := by
  obtain ⟨rp, ab, o1⟩ := IwR.iff.1 o
  have c0 := o1.cell 0
  have hq := sfqLeave_spec f (o1.re [1])
  cases hf : fget s.R.L f with
  | none =>
    have e : leaveI s f = ((0, 6), s) := by unfold leaveI; rw [if_pos hf]
    have e2 : leaveR s.R f = (6, s.R) := by unfold leaveR; rw [hf]
    rw [e]
    rw [e2] at hq
    clear e e2 hf
    go_enter Tryz.func72, Tryz.ntmps72
    go_wp2_with fail
    refine hq.mono ?_
    rintro e1 w1 ⟨rfl, o2, k2⟩
    go_wp2
    go_ret2
    exact ⟨rfl, IwR.iff.2 ⟨rp, ab, o2.re [1, 0]⟩, k2⟩
  | some t =>
    have e : leaveI s f = (((accO s.m f).1, 0), ⟨(leaveR s.R f).2, handI (accO s.m f).1 (mdel s.m f) (leaveR s.R f).2.L⟩) := by unfold leaveI; rw [if_neg (by rw [hf]; simp)]
    obtain ⟨er, S2, O', e2, hr, _⟩ := leave_both hI.rel hN reb f
    have he0 : er = 0 := by have := (leave_L hf).1; rw [e2] at this; exact congrArg Prod.fst this
    subst he0
    rw [e2] at e hq
    rw [e]
    dsimp only at hq ⊢
    have hm1 : ∀ g, accIn (accO (mdel s.m f) g) := fun g => by
      rw [accO_mdel hI.un]
      split
      · unfold accIn; decide
      · exact hI.acc g
    have hmf := hI.acc f
    unfold accIn at hmf
    have HOK := Lib.hid hr.ok.ok
    have hl32 : S2.L.length ≤ 32 := hr.ok.ok.len
    have HM1 := Lib.hid hm1
    obtain ⟨had, h1, h2⟩ : ∃ A B, accO s.m f = (A, B) := ⟨_, _, rfl⟩
    obtain ⟨mo, le⟩ := h1
    have hlag : -1099511627776 ≤ had ∧ had ≤ 1099511627776 := by rw [h2] at hmf; dsimp only at hmf; omega
    have HLAG := Lib.hid hlag
    have hlk : ∀ (w : World) (R : List SP), Own w (mpI accI ab s.m :: R) → (Instr.lookup 137 (.map (some ab)) (.int .i64 f) false).run Tryz.prog w = .ok (.agg #[.int .i64 had, .int .i64 mo, .int .i64 le]) w := fun w R o => by
      have := lookI o f
      rw [h2] at this
      exact this
    have HLK := Lib.hid hlk
    rw [h2]
    dsimp only
    clear hlk e e2 hf hI hm1 hr hmf h2 hlag
    go_enter Tryz.func72, Tryz.ntmps72
    go_wp2_with fail
    refine hq.mono ?_
    rintro e1 w1 ⟨rfl, o2, k2⟩
    clear hq c0
    have oo := o2.re [1, 2]
    have c1 := oo.cell 1
    have c0 := oo.cell 0
    have hlk := HLK.out _ _ (oo.up 1)
    have hfi := fun w => (Tryz.fieldI (.int .i64 had) (.int .i64 mo) (.int .i64 le) w).1
    go_wp2_with (first | fail | (at_delete; refine wpList_delete_mpI rfl _ _ rfl Tryz.underlying137 Tryz.underlying3 (oo.up 1) f rfl rfl ?c2))
    case c2 =>
    intro w2 o3 k3
    obtain ⟨m1, hm1⟩ : ∃ m1, mdel s.m f = m1 := ⟨_, rfl⟩
    rw [hm1] at o3 HM1
    have HMD := Lib.hid hm1
    clear hlk c1 c0 hm1 HLK oo o2 hfi
    have o4 : Own w2 (IwC b rp ab :: mpI accI ab m1 :: SfqR rp reb S2 :: R) := o3.re [1, 0]
    have K2 := k2.trans k3
    have c0 := o4.cell 0
    have hcl := o4.celLt
    clear o3 k2 k3
    have HSG := Lib.hid (show sgI had = if decide (had < 0) = true then -1 else 1 from by unfold sgI; by_cases h : had < 0 <;> simp [h])
    obtain ⟨Z, hZ⟩ : ∃ Z, decide (had < 0) = Z := ⟨_, rfl⟩
    rw [hZ] at HSG
    go_upto_if 42 with fail
    go_cut [8] (fun v wc => v = .int .i64 (sgI had) ∧ wc = w2)
    case first =>
      cases Z with
      | true =>
        go_wp2
        go_meet
        exact ⟨by rw [HSG.out]; rfl, rfl⟩
      | false =>
        go_wp2
        go_meet
        exact ⟨by rw [HSG.out]; rfl, rfl⟩
    case rest =>
      obtain ⟨rfl, rfl⟩ := hcut
      clear HSG hZ
      go_wp2_with fail
      refine (sfqTags_spec (o4.re [2])).mono ?_
      rintro e5 w5 ⟨at_, tc, rfl, o5, k5⟩
      have hT : LwP b rp ab reb S2 at_ tc had m1 R w (.slice none 0 0) (.slice none 0 0) (.int .i64 0) w5 := ⟨0, none, none, 0, 0, rfl, rfl, rfl, Nat.zero_le _, Own.slc_nil (Own.slc_nil (o5.re [0, 2, 3])), K2.trans k5⟩
      clear o5 k5 o4 K2 c0 hcl
      go_wp2
      go_loopw [9, 10, 49] (fun v9 v10 v49 wr => LwP b rp ab reb S2 at_ tc had m1 R w v9 v10 v49 wr) (fun _ _ v _ => S2.L.length - (ivOf v).toNat)
      case atStart => exact hT
      case round =>
        clear hT
        obtain ⟨k, a9, a10, c9, c10, rfl, rfl, rfl, hk, oR, kR⟩ := hrel
        by_cases hlt : k < S2.L.length
        · obtain ⟨t', ht⟩ : ∃ t, S2.L[k]? = some t := ⟨_, List.getElem?_eq_getElem hlt⟩
          have HPV := Lib.hid (ptV_snoc ht)
          have hcv := capV_snoc ht had m1
          have HIN := HM1.out t'.f
          have hcapE : capI had m1 t' = if 0 < had then (accO m1 t'.f).2.1 - (accO m1 t'.f).1 else (accO m1 t'.f).2.2 + (accO m1 t'.f).1 := rfl
          have hlk0 : ∀ (w : World) (R : List SP), Own w (mpI accI ab m1 :: R) → (Instr.lookup 137 (.map (some ab)) (.int .i64 t'.f) false).run Tryz.prog w = .ok (accI (accO m1 t'.f)) w := fun w R o => lookI o t'.f
          obtain ⟨g, so, rfl, t0, t1, t2⟩ := tagsAt_slc at_ S2.L.length tc S2.L rfl _ _ (oR.up 2) k _ ht
          have oP := oR.alloc (.cells #[.int .i64 t'.f, .int .i64 t'.w, .int .i64 t'.s] 128)
          clear ht
          obtain ⟨y1, y2, y3, y4, y5, y6⟩ := HIN
          generalize accO m1 t'.f = cn at *
          obtain ⟨q1, q2, q3⟩ := cn
          unfold accI at hlk0
          dsimp only at *
          have wA := IntWalk.i64_in (q2 - q1) (by omega)
          have wB := IntWalk.i64_in (q3 + q1) (by omega)
          have hk32 : k ≤ 32 := by omega
          clear y1 y2 y3 y4 y5 y6
          have p0 := oP.cell (T := 128) (vs := [.int .i64 t'.f, .int .i64 t'.w, .int .i64 t'.s]) 0
          have p1 := oP.cell (T := 128) (vs := [.int .i64 t'.f, .int .i64 t'.w, .int .i64 t'.s]) 1
          have pl := oP.celLt (T := 128) (vs := [.int .i64 t'.f, .int .i64 t'.w, .int .i64 t'.s])
          have b1 := (oP.up 4).cell 1
          have bl := (oP.up 4).celLt
          have oPA := oP.alloc (.cells #[.int .i64 0, .int .i64 0, .int .i64 0] 143)
          have p0a := (oPA.up 1).cell (T := 128) (vs := [.int .i64 t'.f, .int .i64 t'.w, .int .i64 t'.s]) 0
          have b1a := (oPA.up 5).cell 1
          have hlk := hlk0 _ _ (oP.drew.up 5)
          have hlk2 := hlk0 _ _ ((oP.alloc (.cells #[.int .i64 0, .int .i64 0, .int .i64 0] 143)).drew.up 6)
          have HL0 := Lib.hid hlk0
          clear hlk0
          go_upto_region 14 with fail
          go_cut [13] (fun v wc => v = .pointer (some ⟨wr.heap.size + 1, 0, none⟩) ∧ wc = ((wr.alloc (.cells #[.int .i64 t'.f, .int .i64 t'.w, .int .i64 t'.s] 128)).alloc (.cells #[.int .i64 q1, .int .i64 q2, .int .i64 q3] 143)).drew)
          case first =>
            go_region_law (fail)
            all_goals go_wp2
            all_goals go_meet
            all_goals exact ⟨rfl, rfl⟩
          case rest =>
            obtain ⟨rfl, rfl⟩ := hcut
            have oQ : Own ((wr.alloc (.cells #[.int .i64 t'.f, .int .i64 t'.w, .int .i64 t'.s] 128)).alloc (.cells #[.int .i64 q1, .int .i64 q2, .int .i64 q3] 143)).drew (cel (wr.heap.size + 1) 143 [.int .i64 q1, .int .i64 q2, .int .i64 q3] :: cel wr.heap.size 128 [.int .i64 t'.f, .int .i64 t'.w, .int .i64 t'.s] :: slc 162 2 a9 k c9 (flat part (ptsOf (S2.L.take k))) :: slc 2 1 a10 k c10 (i64s ((S2.L.take k).map (capI had m1))) :: slc 128 3 (some ⟨g, so, none⟩) S2.L.length tc (flat tagC S2.L) :: IwC b rp ab :: mpI accI ab m1 :: SfqR rp reb S2 :: R) := by
              have := (oP.alloc (.cells #[.int .i64 q1, .int .i64 q2, .int .i64 q3] 143)).drew
              rw [World.size_alloc] at this
              exact this
            have KQ : Calm w ((wr.alloc (.cells #[.int .i64 t'.f, .int .i64 t'.w, .int .i64 t'.s] 128)).alloc (.cells #[.int .i64 q1, .int .i64 q2, .int .i64 q3] 143)).drew := ⟨kR.os, kR.tape, kR.output⟩
            obtain ⟨tb, htb⟩ : ∃ tb, wr.heap.size = tb := ⟨_, rfl⟩
            rw [htb] at oQ ⊢
            obtain ⟨wq, hwq⟩ : ∃ wq, ((wr.alloc (.cells #[.int .i64 t'.f, .int .i64 t'.w, .int .i64 t'.s] 128)).alloc (.cells #[.int .i64 q1, .int .i64 q2, .int .i64 q3] 143)).drew = wq := ⟨_, rfl⟩
            rw [hwq] at oQ KQ ⊢
            clear hwq htb oP oPA oR kR p0 p1 pl b1 bl p0a b1a hlk hlk2 HL0 t0 t1 t2
            have p0 := (oQ.up 1).cell (T := 128) (vs := [.int .i64 t'.f, .int .i64 t'.w, .int .i64 t'.s]) 0
            have p1 := (oQ.up 1).cell (T := 128) (vs := [.int .i64 t'.f, .int .i64 t'.w, .int .i64 t'.s]) 1
            have oX := oQ.alloc (.cells #[.int .i64 t'.f, .int .i64 t'.w] 162)
            go_wp2_with (at_builtin; refine wpList_append_slc rfl _ _ rfl Tryz.partT rfl (oX.up 3) ⟨wq.heap.size, 0, none⟩ 1 1 [.int .i64 t'.f, .int .i64 t'.w] rfl rfl (Own.news (T := 162) (vs := [.int .i64 t'.f, .int .i64 t'.w]) oX) (by intro u hu; simp at hu; rcases hu with rfl | rfl <;> rfl) (by unfold maxLen; omega) (by omega) ?k2)
            case k2 =>
            intro a5 c5 w5 o5 k5
            rw [← HPV.out] at o5
            have o6 := o5.re [1] 1
            have K5 := KQ.trans k5.al
            have e0 := (o6.up 1).cell (T := 143) (vs := [.int .i64 q1, .int .i64 q2, .int .i64 q3]) 0
            have e1 := (o6.up 1).cell (T := 143) (vs := [.int .i64 q1, .int .i64 q2, .int .i64 q3]) 1
            have e2 := (o6.up 1).cell (T := 143) (vs := [.int .i64 q1, .int .i64 q2, .int .i64 q3]) 2
            clear o5 k5 oQ KQ oX p0 p1
            obtain ⟨Z, hZ⟩ : ∃ Z, decide (0 < had) = Z := ⟨_, rfl⟩
            cases Z with
            | true =>
              have hp : 0 < had := by simpa using hZ
              rw [if_pos hp] at hcapE
              rw [hcapE] at hcv
              simp only [List.map_take] at hcv
              have HCV := Lib.hid hcv
              clear hcv hcapE hp
              have oY := o6.alloc (.cells #[.int .i64 (q2 - q1)] 2)
              go_wp2_with (at_builtin; refine wpList_append_slc rfl _ _ rfl Tryz.i64tW rfl (oY.up 4) ⟨w5.heap.size, 0, none⟩ 1 1 [.int .i64 (q2 - q1)] rfl rfl (Own.news (T := 2) (vs := [.int .i64 (q2 - q1)]) oY) (by intro u hu; simp at hu; rcases hu with rfl; rfl) (by unfold maxLen; omega) (by omega) ?k3)
              case k3 =>
              intro a7 c7 w7 o7 k7
              rw [← HCV.out] at o7
              go_wp2
              go_roundw
              case rel => exact ⟨k + 1, a5, a7, c5, c7, by go_num, rfl, rfl, by omega, by rw [List.map_take]; exact (o7.re [1, 3, 4] 3).re [1, 0], K5.trans k7.al⟩
              case measure => simp [ivOf]; omega
            | false =>
              have hp : ¬ 0 < had := by simpa using hZ
              rw [if_neg hp] at hcapE
              rw [hcapE] at hcv
              simp only [List.map_take] at hcv
              have HCV := Lib.hid hcv
              clear hcv hcapE hp
              have oY := o6.alloc (.cells #[.int .i64 (q3 + q1)] 2)
              go_wp2_with (at_builtin; refine wpList_append_slc rfl _ _ rfl Tryz.i64tW rfl (oY.up 4) ⟨w5.heap.size, 0, none⟩ 1 1 [.int .i64 (q3 + q1)] rfl rfl (Own.news (T := 2) (vs := [.int .i64 (q3 + q1)]) oY) (by intro u hu; simp at hu; rcases hu with rfl; rfl) (by unfold maxLen; omega) (by omega) ?k3)
              case k3 =>
              intro a7 c7 w7 o7 k7
              rw [← HCV.out] at o7
              go_wp2
              go_roundw
              case rel => exact ⟨k + 1, a5, a7, c5, c7, by go_num, rfl, rfl, by omega, by rw [List.map_take]; exact (o7.re [1, 3, 4] 3).re [1, 0], K5.trans k7.al⟩
              case measure => simp [ivOf]; omega
        · have hkn : k = S2.L.length := by omega
          subst hkn
          rw [List.take_length] at oR
          have hmx := sgI_mul had
          have hrf := shFill_spec (a := sgI had * had) (l := ptsOf S2.L) (cs := S2.L.map (capI had m1)) (n := S2.L.length) (pc := c9) (cc := c10) (by rw [hmx]; omega) (by rw [hmx]; have := HLAG.out; omega) (ptOk_of HOK.out) (ptsOf_len S2.L).symm (List.length_map _).symm (caps_rng HM1.out had S2.L) oR
          rw [pts_ws] at hrf
          have wn := IntWalk.i64_in (sgI had * had) (by rw [hmx]; have := HLAG.out; omega)
          unfold FilPost at hrf
          have hgv : (fillI (sgI had * had) (S2.L.map (·.w)) (S2.L.map (capI had m1))).1 = gvI had m1 S2.L := rfl
          rw [hgv] at hrf
          obtain ⟨rr, hrr⟩ : ∃ rr, (fillI (sgI had * had) (S2.L.map (·.w)) (S2.L.map (capI had m1))).2 = rr := ⟨_, rfl⟩
          rw [hrr] at hrf
          have HG1 := Lib.hid (fun k hk => gv_get (had := had) (k := k) HM1.out HOK.out hk)
          have HGL := Lib.hid (gv_ok (had := had) HM1.out HOK.out).2.1
          have HHN := Lib.hid (show handI had m1 S2.L = giveI (sgI had) (S2.L.zip (gvI had m1 S2.L)) m1 from rfl)
          have HSL := Lib.hid (fun (g : Int) (h0 : 0 ≤ g) (h1 : g ≤ 2199023255552) => sg_le (had := had) h0 h1)
          obtain ⟨G, hG⟩ : ∃ G, gvI had m1 S2.L = G := ⟨_, rfl⟩
          rw [hG] at hrf HG1 HGL HHN
          obtain ⟨sg, hsg⟩ : ∃ sg, sgI had = sg := ⟨_, rfl⟩
          rw [hsg] at HHN HSL wn hrf ⊢
          clear hmx hgv hrr hG hsg hlt hk
          go_wp2_with fail
          refine hrf.mono ?_
          rintro e7 w7 ⟨ax, cx, rfl, o7, k7⟩
          clear hrf
          have hT : LwG b rp ab reb S2 ax cx a9 c9 sg G m1 R w (.int .i64 0) w7 := ⟨0, rfl, Nat.zero_le _, (o7.re [2, 3] 2), kR.trans k7⟩
          clear o7 k7 kR oR wn
          go_wp2
          go_loopw [99] (fun v99 wr => LwG b rp ab reb S2 ax cx a9 c9 sg G m1 R w v99 wr) (fun v _ => S2.L.length - (ivOf v).toNat)
          case atStart => exact hT
          case round =>
            clear hT
            obtain ⟨k, rfl, hk, oR, kR⟩ := hrel
            by_cases hlt : k < S2.L.length
            · obtain ⟨t', ht⟩ : ∃ t, S2.L[k]? = some t := ⟨_, List.getElem?_eq_getElem hlt⟩
              obtain ⟨g, hg, hg0, hg1, hgz⟩ := HG1.out k hlt
              have hac := accO_take (m := m1) (sg := sg) (G := G) HOK.out.asc ht
              have hgt := give_take (m := m1) (sg := sg) ht hg
              have hIN := HM1.out t'.f
              have hsl := HSL.out g hg0 hg1
              obtain ⟨mk, hmk⟩ : ∃ mk, giveI sg ((S2.L.zip G).take k) m1 = mk := ⟨_, rfl⟩
              rw [hmk] at hac hgt oR
              rw [← hac] at hIN
              clear hac hmk hgz hg0 hg1
              have hlk0 : ∀ (w : World) (R : List SP), Own w (mpI accI ab mk :: R) → (Instr.lookup 137 (.map (some ab)) (.int .i64 t'.f) false).run Tryz.prog w = .ok (accI (accO mk t'.f)) w := fun w R o => lookI o t'.f
              obtain ⟨gx, rfl, hcx, _, _⟩ := oR.slc_cell (by omega)
              have d0 := hcx k _ (i64s_get hg)
              obtain ⟨gp, rfl, d1, d2⟩ := part_cells (oR.up 1) (i := k) (y := (t'.f, t'.w)) (by unfold ptsOf; rw [List.getElem?_map, ht]; rfl) (by omega)
              dsimp only at d1 d2
              have c1 := (oR.up 2).cell 1
              unfold accIn at hIN
              unfold accP at hgt
              have hpt : (ptsOf S2.L)[k]? = some (t'.f, t'.w) := by unfold ptsOf; rw [List.getElem?_map, ht]; rfl
              have HPT := Lib.hid hpt
              clear hcx ht hg hpt
              generalize accO mk t'.f = cn at *
              obtain ⟨q1, q2, q3⟩ := cn
              unfold accI at hlk0
              dsimp only at *
              obtain ⟨y, hy⟩ : ∃ y, sg * g = y := ⟨_, rfl⟩
              rw [hy] at hgt hsl
              have wA := IntWalk.i64_in y (by omega)
              have wB := IntWalk.i64_in (q1 + y) (by omega)
              have HGT := Lib.hid hgt
              have lbl := (oR.up 2).celLt
              have hgpw : gp < wr.heap.size := World.block_lt_of_cell? _ _ d1
              have oA := oR.alloc (.cells #[.int .i64 0, .int .i64 0, .int .i64 0] 143)
              have c1a := (oA.up 3).cell 1
              have hlk := hlk0 _ _ (oR.drew.up 3)
              have hlk2 := hlk0 _ _ (oA.drew.up 4)
              obtain ⟨gp2, hgp2, f1, f2⟩ := part_cells (oA.up 2) (i := k) (y := (t'.f, t'.w)) HPT.out (by omega)
              cases hgp2
              dsimp only at f1 f2
              have HL0 := Lib.hid hlk0
              clear hlk0
              go_upto_region 24 with fail
              go_cut [19] (fun v wc => v = .pointer (some ⟨wr.heap.size, 0, none⟩) ∧ wc = (wr.alloc (.cells #[.int .i64 q1, .int .i64 q2, .int .i64 q3] 143)).drew)
              case first =>
                go_region_law (fail)
                all_goals go_wp2
                all_goals go_meet
                all_goals exact ⟨rfl, rfl⟩
              case rest =>
                obtain ⟨rfl, rfl⟩ := hcut
                have oQ := (oR.alloc (.cells #[.int .i64 q1, .int .i64 q2, .int .i64 q3] 143)).drew
                have KQ : Calm w (wr.alloc (.cells #[.int .i64 q1, .int .i64 q2, .int .i64 q3] 143)).drew := ⟨kR.os, kR.tape, kR.output⟩
                obtain ⟨tb, htb⟩ : ∃ tb, wr.heap.size = tb := ⟨_, rfl⟩
                rw [htb] at oQ ⊢
                obtain ⟨wq, hwq⟩ : ∃ wq, (wr.alloc (.cells #[.int .i64 q1, .int .i64 q2, .int .i64 q3] 143)).drew = wq := ⟨_, rfl⟩
                rw [hwq] at oQ KQ ⊢
                clear hwq htb oA oR kR c1 c1a d0 d1 d2 f1 f2 hlk hlk2 hgpw lbl HL0
                have e0 := oQ.cell (T := 143) (vs := [.int .i64 q1, .int .i64 q2, .int .i64 q3]) 0
                have ef := oQ.frozen (T := 143) (vs := [.int .i64 q1, .int .i64 q2, .int .i64 q3])
                have el := oQ.celLt (T := 143) (vs := [.int .i64 q1, .int .i64 q2, .int .i64 q3])
                have oS : Own (wq.setCell ⟨tb, 0, none⟩ (.int .i64 (q1 + y))) (cel tb 143 [.int .i64 (q1 + y), .int .i64 q2, .int .i64 q3] :: _) := oQ.setCell (T := 143) (vs := [.int .i64 q1, .int .i64 q2, .int .i64 q3]) 0 (.int .i64 (q1 + y))
                have KS := qcalm_set (x := ⟨tb, 0, none⟩) (v := .int .i64 (q1 + y)) KQ
                go_upto_region 26 with fail
                obtain ⟨wS, hwS⟩ : ∃ wS, wq.setCell ⟨tb, 0, none⟩ (.int .i64 (q1 + y)) = wS := ⟨_, rfl⟩
                rw [hwS] at oS KS ⊢
                clear hwS oQ KQ e0 ef el
                have e0 := oS.cell (T := 143) (vs := [.int .i64 (q1 + y), .int .i64 q2, .int .i64 q3]) 0
                have e1 := oS.cell (T := 143) (vs := [.int .i64 (q1 + y), .int .i64 q2, .int .i64 q3]) 1
                have e2 := oS.cell (T := 143) (vs := [.int .i64 (q1 + y), .int .i64 q2, .int .i64 q3]) 2
                have c1 := (oS.up 3).cell 1
                obtain ⟨gp2, hgp2, f1, f2⟩ := part_cells (oS.up 2) (i := k) (y := (t'.f, t'.w)) HPT.out (by omega)
                cases hgp2
                dsimp only at f1 f2
                refine wp_region_tail 10 (by kernel_rfl) (by kernel_rfl) ?_
                simp only [List.take_succ_cons, List.take_zero, List.drop_succ_cons, List.drop_zero]
                repeat still_step
                refine wpStill_nil ?_
                go_wp2_with (at_mapUpdate; refine wpList_mapUpdate_mpI (f := accI) rfl _ _ _ rfl Tryz.underlying137 Tryz.underlying3 ((oS.up 4).drew) t'.f (q1 + y, q2, q3) rfl rfl rfl ?_)
                intro w4 o4 k4
                go_wp2
                go_roundw
                case rel => exact ⟨k + 1, by go_num, by omega, by rw [HGT.out]; exact (o4.re [1] 1).re [1, 2, 3, 0], KS.trans ⟨k4.os, k4.tape, k4.output⟩⟩
                case measure => simp [ivOf]; omega
            · have hkn : k = S2.L.length := by omega
              rw [hkn, zip_full HGL.out] at oR
              clear hkn
              go_wp2
              go_ret2
              refine ⟨rfl, IwR.iff.2 ⟨rp, ab, ?_⟩, kR⟩
              dsimp only
              rw [HMD.out, HHN.out]
              exact (oR.re [0, 1] 2).re [0, 2, 1]
end
end Go.Proofs.YtkmlkpfabkhleaaGreat

/- Iwfq: each call on both sides. -/
namespace Go.Proofs.YtkmlkpfabkhleaaGreat
open Go.RowKit
open SP
section
variable {w w' : World} {R : List SP} {b N : Nat} {reb : Int} {O : List Tg} {P Sp : SP} {s : Iw} {m : List (Int × Acc)}

/-- What a call of the reference does: the value, the state behind it. -/
def RefDoes (reb : Int) (s : Iw) (O : List Tg) (fn : Nat) (args : Value → Array Value) (v : Value) (s' : Iw) (O' : List Tg) : Prop :=
  ∀ (P : SP) (b : Nat) (w : World) (R : List SP), Own w (IwT P b reb s.R O s.m :: P :: R) → Calls Tryz.prog fn (args (.pointer (some ⟨b, 0, none⟩))) w
    (fun e w' => ∃ P', Ret v (IwT P' b reb s'.R O' s'.m :: P' :: R) w e w')
theorem isRet_does {b : Nat} {v : Value} (o : Own w (IwT P b reb s.R O s.m :: P :: R)) {e : Ending} (h : IsRet v w e w') : ∃ P', Ret v (IwT P' b reb s.R O s.m :: P' :: R) w e w' := by
  obtain ⟨rfl, rfl⟩ := h
  exact ⟨P, rfl, o, Calm.refl _⟩

theorem IwS.with (h : IwS N s O) {O' : List Tg} (hr : RelT N s.R O') : IwS N s O' := ⟨hr, h.tb, h.acc, h.un, h.ks, h.sum⟩
theorem joinI_both (h : IwS N s O) (hN : N ≤ 1000) (reb f wt x y : Int) : ∃ O', IwS (N + 1) (joinI s f wt x y).2 O' ∧
    RefDoes reb s O 33 (fun p => #[p, .int .i64 f, .int .i64 wt, .int .i64 x, .int .i64 y]) (.int .i64 (joinI s f wt x y).1) (joinI s f wt x y).2 O' := by
  by_cases hb : bndI x y = false
  · have e : joinI s f wt x y = (1, s) := by unfold joinI; rw [if_pos hb]
    rw [e]
    exact ⟨O, h.next, fun P b w R o => (refJoinI_bad hb w).mono fun e w' he => isRet_does o he⟩
  · have hb' : bndI x y = true := by simpa using hb
    obtain ⟨er, S', O', e, hr, hB⟩ := join_both h.rel hN reb f wt
    by_cases he : joinE s.R f wt = 0
    · have e1 : joinR s.R f wt = (0, joinS s.R f wt) := by unfold joinR; rw [if_pos he, he]
      rw [e1] at e
      cases e
      have e2 : joinI s f wt x y = (0, ⟨joinS s.R f wt, mput s.m f (0, x, y)⟩) := by unfold joinI; rw [if_neg hb, if_pos he]
      rw [e2]
      have hno := (h.rel.ok.join he).2.1
      refine ⟨O', h.join hr he hb', fun P b w R o => ?_⟩
      exact refJoinI_ok (S' := joinS s.R f wt) (X := ⟨f, wt, max s.R.tm (s.R.old f)⟩) hb' hr.ok.ok (fget_none.1 hno) rfl rfl hB.ref o
    · have e1 : joinR s.R f wt = (joinE s.R f wt, s.R) := by unfold joinR; rw [if_neg he]
      rw [e1] at e
      cases e
      have e2 : joinI s f wt x y = (joinE s.R f wt, s) := by unfold joinI; rw [if_neg hb, if_neg he]
      rw [e2]
      have hno : ∀ (b : Nat) (w : World) (P : SP) (R : List SP), Own w (RefT P b reb s.R.L O s.R.tm s.R.aw :: P :: R) → Calls Tryz.prog 82 #[.pointer (some ⟨b, 0, none⟩), .int .i64 f, .int .i64 wt] w (IsRet (.int .i64 (joinE s.R f wt)) w) := fun b w P R o => by
        have hlen := h.rel.ok.ok.len
        unfold joinE at he ⊢
        by_cases hbad : f < 0 ∨ 32 ≤ f ∨ wt < 1 ∨ 16 < wt
        · rw [if_pos hbad]
          exact joinT_bad f wt hbad
        · rw [if_neg hbad] at he ⊢
          cases hf : fget s.R.L f with
          | none => rw [hf] at he; exact absurd rfl he
          | some t => exact joinT_dup f wt (by omega) (by omega) hf (by omega) o
      exact ⟨O, h.next, fun P b w R o => (refJoinI_err (S := s.R) (m := s.m) hb' he (fun b w R o => hno b w P R o) o).mono fun e w' he => isRet_does o he⟩

theorem leaveI_both (h : IwS N s O) (hN : N ≤ 1000) (reb f : Int) : ∃ O', IwS (N + 1) (leaveI s f).2 O' ∧
    RefDoes reb s O 73 (fun p => #[p, .int .i64 f]) (.tuple #[.int .i64 (leaveI s f).1.1, .int .i64 (leaveI s f).1.2]) (leaveI s f).2 O' := by
  cases hf : fget s.R.L f with
  | none =>
    have e : leaveI s f = ((0, 6), s) := by unfold leaveI; rw [if_pos hf]
    rw [e]
    exact ⟨O, h.next, fun P b w R o => (refLeaveI_none h.rel.ok.ok hf o).mono fun e w' he => isRet_does o he⟩
  | some t =>
    obtain ⟨er, S', O', e3, hr, hB⟩ := leave_both h.rel hN reb f
    have e4 := (leave_L hf).1
    rw [e3] at e4
    have e5 : er = 0 := congrArg Prod.fst e4
    subst e5
    have e6 : S' = (leaveR s.R f).2 := by rw [e3]
    subst e6
    obtain ⟨_, hO⟩ := h.leave hN reb f
    have hO : IwS (N + 1) (leaveI s f).2 O' := hO.with (by
      have : (leaveI s f).2.R = (leaveR s.R f).2 := by unfold leaveI; rw [if_neg (by rw [hf]; simp)]
      rw [this]; exact hr)
    have e : leaveI s f = (((accO s.m f).1, 0), ⟨(leaveR s.R f).2, handI (accO s.m f).1 (mdel s.m f) (leaveR s.R f).2.L⟩) := by unfold leaveI; rw [if_neg (by rw [hf]; simp)]
    refine ⟨O', hO, fun P b w R o => ?_⟩
    rw [e] at hO ⊢
    obtain ⟨e1, e2⟩ := leave_L hf
    exact refLeaveI_ok (S' := (leaveR s.R f).2) h.rel.ok.ok hO.rel.ok.ok h.un h.acc hf (by rw [e1]; exact e2) hB.ref o

theorem setWI_both (h : IwS N s O) (hN : N ≤ 1000) (reb f wt : Int) : ∃ O', IwS (N + 1) ⟨(setWR s.R f wt).2, s.m⟩ O' ∧
    ∀ (P : SP) (b : Nat) (w : World) (R : List SP), Own w (RefT P b reb s.R.L O s.R.tm s.R.aw :: P :: R) → Calls Tryz.prog 75 #[.pointer (some ⟨b, 0, none⟩), .int .i64 f, .int .i64 wt] w (SetWT b reb (setWR s.R f wt).2.L O' (setWR s.R f wt).2.tm (setWR s.R f wt).2.aw P R w (setWR s.R f wt).1) := by
  obtain ⟨er, S', O', e, hr, hB⟩ := setW_both h.rel reb f wt
  obtain ⟨_, hO⟩ := h.setW hN reb f wt
  rw [e] at hO ⊢
  exact ⟨O', hO.with hr, hB.ref⟩
theorem setWR_flows (S : St) (f wt : Int) : (setWR S f wt).2.L.map (·.f) = S.L.map (·.f) := by
  unfold setWR
  split
  · rfl
  · split
    · rfl
    · exact setT_flows

theorem setBI_both (h : IwS N s O) (reb f x y : Int) : IwS (N + 1) ⟨s.R, (setBI s.m s.R.L f x y).2⟩ O ∧
    RefDoes reb s O 35 (fun p => #[p, .int .i64 f, .int .i64 x, .int .i64 y]) (.int .i64 (setBI s.m s.R.L f x y).1) ⟨s.R, (setBI s.m s.R.L f x y).2⟩ O := by
  refine ⟨h.setB f x y, fun P b w R o => ?_⟩
  unfold setBI
  cases hf : fget s.R.L f with
  | none =>
    rw [if_pos rfl]
    exact (refSetB_none h.rel.ok.ok hf o).mono fun e w' he => isRet_does o he
  | some t =>
    rw [if_neg (by simp)]
    have htf := (fget_some hf).2
    by_cases hb : bndI x y = false
    · rw [if_pos hb]
      exact (refSetB_bad h.rel.ok.ok hf hb o).mono fun e w' he => isRet_does o he
    · rw [if_neg hb]
      by_cases hs : x < (accO s.m f).1 ∨ (accO s.m f).1 < -y
      · rw [if_pos hs]
        exact (refSetB_state h.rel.ok.ok hf htf (by simpa using hb) hs o).mono fun e w' he => isRet_does o he
      · rw [if_neg hs]
        exact (refSetB_ok h.rel.ok.ok hf htf (by simpa using hb) hs o).mono fun e w' he => ⟨P, he⟩

/-- The heads of a slot: read behind Sp; or so many that nothing is read. -/
def HdsOk (L : List Tg) (Sp : SP) (a : Option Addr) (n : Nat) (H : List Head) : Prop := n ≤ 33 ∧ (n = H.length ∧ HeadsAt Sp a H ∨ n ≠ L.length ∧ fitsH L H = false)
theorem stepP_both {a : Option Addr} {n c : Nat} {H : List Head} (h : IwS N s O) (hN : N ≤ 371) (hH : HdsOk s.R.L Sp a n H) (o : Own w (IwR b reb s :: Sp :: R)) :
    Calls Tryz.prog 77 #[.pointer (some ⟨b, 0, none⟩), .slice a n c] w
      (Ret (.tuple #[chV (stepI reb s H).1, .int .i64 (stepI reb s H).2.1]) (IwR b reb (stepI reb s H).2.2 :: Sp :: R) w) := by
  obtain ⟨hl, hH⟩ := hH
  by_cases hf : fitsH s.R.L H = true
  · rcases hH with ⟨hn, h1⟩ | ⟨_, h2⟩
    · by_cases hne : H = []
      · subst hne
        have hn0 : n = 0 := hn
        subst hn0
        have hL : s.R.L = [] := by
          have := congrArg List.length (fits_len hf).1
          simp at this
          exact List.eq_nil_of_length_eq_zero this.symm
        exact iwStep_empty h1 hL o
      · exact iwStep_spec (h.ok hN reb) h1 hn hf hne o
    · rw [hf] at h2; cases h2
  · refine iwStep_unfit h.rel.ok.ok ?_ hl (by simpa using hf) o
    rcases hH with h1 | ⟨h1, _⟩
    · exact .inl h1
    · exact .inr h1
theorem stepR_both {a : Option Addr} {n c : Nat} {H : List Head} (h : IwS N s O) (hN : N ≤ 371) (reb : Int) (hH : HdsOk s.R.L Sp a n H) : 
    ∀ (P : SP) (b : Nat) (w : World) (R : List SP), Own w (IwT P b reb s.R O s.m :: P :: Sp :: R) → 
      Calls Tryz.prog 78 #[.pointer (some ⟨b, 0, none⟩), .slice a n c] w
      (fun e w' => ∃ (P' : SP) (O' : List Tg), IwS (N + 1) (stepI reb s H).2.2 O' ∧ Ret (.tuple #[chV (stepI reb s H).1, .int .i64 (stepI reb s H).2.1]) (IwT P' b reb (stepI reb s H).2.2.R O' (stepI reb s H).2.2.m :: P' :: Sp :: R) w e w') := by
  intro P b w R o
  obtain ⟨hl, hH⟩ := hH
  obtain ⟨_, hO⟩ := h.step hN reb H
  by_cases hf : fitsH s.R.L H = true
  · rcases hH with ⟨hn, h1⟩ | ⟨_, h2⟩
    · by_cases hne : H = []
      · subst hne
        have hn0 : n = 0 := hn
        subst hn0
        have hL : s.R.L = [] := by
          have := congrArg List.length (fits_len hf).1
          simp at this
          exact List.eq_nil_of_length_eq_zero this.symm
        have e : stepI reb s [] = (ch0, 5, s) := by unfold stepI; rw [if_neg (by rw [hf]; simp), if_pos rfl]
        rw [e]
        exact (refStepI_empty h1 hL o).mono fun e w' he => ⟨P, O, h.next, he⟩
      · have := refStepI_spec (reb := reb) (at_ := reb) (m := s.m) (c := c) (RelT (N + 1)) h.rel.next h.accOk h.rel.ok.ok h1 hn hf hne (fun f len hfm l1 l2 => by
          obtain ⟨t, ht, rfl⟩ := List.mem_map.1 hfm
          obtain ⟨c1, c2, c3⟩ := h.tb.charge hN ht l1 l2 reb
          obtain ⟨er, S', O', e, hr, hB⟩ := charge_both h.rel (by omega) reb t.f len
          rw [e] at c1 c3 ⊢
          dsimp only at c1 c3
          subst c1
          refine ⟨O', hr, rfl, ?_, hB.ref⟩
          have := congrArg (List.map Prod.fst) c3
          rw [List.map_map, List.map_map] at this
          exact this) o
        refine this.mono ?_
        rintro e w' ⟨P', O', hQ, he⟩
        exact ⟨P', O', hO.with hQ, he⟩
    · rw [hf] at h2; cases h2
  · have e : stepI reb s H = (ch0, 1, s) := by unfold stepI; rw [if_pos (by simpa using hf)]
    rw [e]
    refine (refStepI_unfit h.rel.ok.ok ?_ hl (by simpa using hf) o).mono fun e w' he => ⟨P, O, h.next, he⟩
    rcases hH with h1 | ⟨h1, _⟩
    · exact .inl h1
    · exact .inr h1
end
end Go.Proofs.YtkmlkpfabkhleaaGreat

/- Iwfq: the accounts. -/
namespace Go.Proofs.YtkmlkpfabkhleaaGreat
open Go.RowKit
open SP
section
variable {w w' : World} {R : List SP} {b rp ab : Nat} {reb : Int} {s : Iw} {m : List (Int × Acc)}

def accCI (m : List (Int × Acc)) (t : Tg) : List Value := [.int .i64 t.f, .int .i64 t.w, .int .i64 (accO m t.f).1, .int .i64 t.s, .int .i64 0, .int .i64 0, .int .i64 0, .int .i64 0, .int .i64 (accO m t.f).2.1, .int .i64 (accO m t.f).2.2]
theorem accCI_len (m : List (Int × Acc)) (t : Tg) : (accCI m t).length = 10 := rfl
theorem Tryz.accTI : ElemT Tryz.prog 55 54 10 80 := ElemT.mk' (z := .agg #[.int .i64 0, .int .i64 0, .int .i64 0, .int .i64 0, .int .i64 0, .int .i64 0, .int .i64 0, .int .i64 0, .int .i64 0, .int .i64 0]) Tryz.underlying55 (by kernel_rfl) rfl (by decide)
theorem flat_appendI {α : Type} (g : α → List Value) (xs ys : List α) : flat g (xs ++ ys) = flat g xs ++ flat g ys := by unfold flat; rw [List.flatMap_append]

def AcIRel (b : Nat) (reb : Int) (rp ab : Nat) (s : Iw) (at_ : Option Addr) (tc : Nat) (R : List SP) (w : World) (v3 v13 : Value) (wr : World) : Prop :=
  ∃ (i : Nat) (a' : Option Addr) (c' : Nat), v13 = .int .i64 (i : Int) ∧ i ≤ s.R.L.length ∧ v3 = .slice a' i c' ∧
    Own wr (slc 54 10 a' i c' (flat (accCI s.m) (s.R.L.take i)) :: slc 128 3 at_ s.R.L.length tc (flat tagC s.R.L) :: SfqR rp reb s.R :: IwC b rp ab :: mpI accI ab s.m :: R) ∧ Calm w wr
def AccIPost (b : Nat) (reb : Int) (s : Iw) (R : List SP) (w : World) (e : Ending) (w' : World) : Prop :=
  ∃ (a : Option Addr) (c : Nat), Ret (.slice a s.R.L.length c) (slc 54 10 a s.R.L.length c (flat (accCI s.m) s.R.L) :: IwR b reb s :: R) w e w'

set_option maxHeartbeats 6400000 in
set_option maxRecDepth 100000 in
theorem iwAcc_spec (hl : s.R.L.length ≤ 32) (o : Own w (IwR b reb s :: R)) :
    Calls Tryz.prog 29 #[.pointer (some ⟨b, 0, none⟩)] w (AccIPost b reb s R w) := by
  obtain ⟨rp, ab, o1⟩ := IwR.iff.1 o
  have c2 := o1.cell 0
  have cl := o1.celLt
  go_enter Tryz.func29, Tryz.ntmps29
  go_wp2_with fail
  refine (sfqTags_spec (o1.re [1])).mono ?_
  rintro e2 w2 ⟨at_, tc, rfl, o2, k2⟩
  have hT : AcIRel b reb rp ab s at_ tc R w (.slice none 0 0) (.int .i64 0) w2 := ⟨0, none, 0, rfl, by omega, rfl, Own.slc_nil o2, k2⟩
  clear o2 k2 c2 cl o1 o
  go_wp2
  go_loopw [3, 13] (fun v3 v13 wr => AcIRel b reb rp ab s at_ tc R w v3 v13 wr) (fun _ v _ => s.R.L.length - (Lib.intOf v).toNat)
  case atStart => exact hT
  case round =>
    clear hT
    obtain ⟨i, a', c', rfl, hi, rfl, oR, kR⟩ := hrel
    by_cases hlt : i < s.R.L.length
    · obtain ⟨t, ht⟩ : ∃ t, s.R.L[i]? = some t := ⟨_, List.getElem?_eq_getElem (by omega)⟩
      have htk : s.R.L.take (i + 1) = s.R.L.take i ++ [t] := by rw [List.take_add_one, ht]; rfl
      have HTK := Lib.hid htk
      obtain ⟨g, rfl, hc, _, _⟩ := (oR.up 1).slc_cell (by omega)
      have d0 := hc (i * 3 + 0) _ (flat_get tagC_len s.R.L i 0 t ht (by omega))
      rw [Nat.add_zero] at d0
      have d1 := hc (i * 3 + 1) _ (flat_get tagC_len s.R.L i 1 t ht (by omega))
      have d2 := hc (i * 3 + 2) _ (flat_get tagC_len s.R.L i 2 t ht (by omega))
      change wr.cell? ⟨g, i * 3, none⟩ = some (.int .i64 t.f) at d0
      change wr.cell? ⟨g, i * 3 + 1, none⟩ = some (.int .i64 t.w) at d1
      change wr.cell? ⟨g, i * 3 + 2, none⟩ = some (.int .i64 t.s) at d2
      have HAC := Lib.hid (show flat (accCI s.m) (s.R.L.take i) ++ accCI s.m t = flat (accCI s.m) (s.R.L.take (i + 1)) from by rw [htk, flat_appendI]; show _ = _ ++ (accCI s.m t ++ []); rw [List.append_nil])
      clear hc ht htk
      have oA := oR.alloc (.cells #[.int .i64 t.f, .int .i64 t.w, .int .i64 t.s] 128)
      have K3 : Calm w (wr.alloc (.cells #[.int .i64 t.f, .int .i64 t.w, .int .i64 t.s] 128)) := qcalm_alloc kR
      have hlk := fun (w : World) (R : List SP) (o : Own w (mpI accI ab s.m :: R)) => lookI o t.f
      unfold accI at hlk
      have hacc : accCI s.m t = [.int .i64 t.f, .int .i64 t.w, .int .i64 (accO s.m t.f).1, .int .i64 t.s, .int .i64 0, .int .i64 0, .int .i64 0, .int .i64 0, .int .i64 (accO s.m t.f).2.1, .int .i64 (accO s.m t.f).2.2] := rfl
      have hac := HAC.out
      rw [hacc] at hac
      generalize accO s.m t.f = cn at *
      obtain ⟨a1, a2, a3⟩ := cn
      dsimp only at hlk hac
      have HAC := Lib.hid hac
      have HLK := Lib.hid hlk
      clear hlk hacc hac
      go_wp2
      refine wp_region_draws (fun L v wc => Own wc (Pb (L 7) (L 8) (v 7) 143 [.int .i64 0, .int .i64 0, .int .i64 0] [.int .i64 a1, .int .i64 a2, .int .i64 a3] :: cel wr.heap.size 128 [.int .i64 t.f, .int .i64 t.w, .int .i64 t.s] :: slc 54 10 a' i c' (flat (accCI s.m) (s.R.L.take i)) :: slc 128 3 (some ⟨g, 0, none⟩) s.R.L.length tc (flat tagC s.R.L) :: SfqR rp reb s.R :: IwC b rp ab :: mpI accI ab s.m :: R) ∧ Calm w wc ∧ OVals (fun i => ([some (.pointer (some ⟨b, 0, none⟩)), some (.pointer (some ⟨b, 0, none⟩)), some (.pointer (some ⟨b, 1, none⟩)), some (.map (some ab)), some (.pointer (some ⟨wr.heap.size, 0, none⟩)), some (.int .i64 t.f), some (.agg #[.int .i64 a1, .int .i64 a2, .int .i64 a3]), none, none] : List (Option Value)).getD i none) L v) (by kernel_rfl) (by kernel_rfl) (by kernel_rfl) ?h0 ?step ?fin
      case h0 => exact ⟨Pb.no oA.drew, qcalm_drew K3, OVals.no⟩
      case step =>
        refine ⟨DrawStep.mk rfl ?_, DrawStep.mk rfl ?_, DrawStep.mk rfl ?_, DrawStep.mk rfl ?_, DrawStep.mk rfl ?_, DrawStep.mk rfl ?_, DrawStep.mk rfl ?_, DrawStep.mk rfl ?_, DrawStep.mk rfl ?_, trivial⟩
        all_goals intro L v actZ wc hL hd hA hI K' hK
        all_goals obtain ⟨oD, kD, hv⟩ := hI
        all_goals simp [Region.binds] at hd
        all_goals have HV := Lib.hid hv
        all_goals clear hv
        · have c0_ := hA.base 0 (by rfl)
          simp only [List.getElem?_toArray, List.getElem?_cons_zero, Option.getD_some] at c0_
          go_simp
          exact hK.out (.pointer (some ⟨b, 0, none⟩)) _ ⟨oD, kD, HV.out.put 0 (fun _ h => some_eq h)⟩
        · have h0_ : L 0 = true := by simp [hd]
          have c17_ : actZ.tmps[17]?.getD undef = .pointer (some ⟨b, 0, none⟩) := (hA.get 0 h0_).trans (HV.out 0 _ rfl h0_)
          go_simp
          exact hK.out (.pointer (some ⟨b, 0, none⟩)) _ ⟨oD, kD, HV.out.put 1 (fun _ h => some_eq h)⟩
        · have h1_ : L 1 = true := by simp [hd]
          have c18_ : actZ.tmps[18]?.getD undef = .pointer (some ⟨b, 0, none⟩) := (hA.get 1 h1_).trans (HV.out 1 _ rfl h1_)
          go_simp
          exact hK.out (.pointer (some ⟨b, 1, none⟩)) _ ⟨oD, kD, HV.out.put 2 (fun _ h => some_eq h)⟩
        · have h2_ : L 2 = true := by simp [hd]
          have c19_ : actZ.tmps[19]?.getD undef = .pointer (some ⟨b, 1, none⟩) := (hA.get 2 h2_).trans (HV.out 2 _ rfl h2_)
          have u_ := (oD.up 5).cell 1
          go_simp
          exact hK.out (.map (some ab)) _ ⟨oD, kD, HV.out.put 3 (fun _ h => some_eq h)⟩
        · have c5_ := hA.base 5 (by rfl)
          simp only [List.getElem?_toArray, List.getElem?_cons_zero, List.getElem?_cons_succ, Option.getD_some] at c5_
          go_simp
          exact hK.out (.pointer (some ⟨wr.heap.size, 0, none⟩)) _ ⟨oD, kD, HV.out.put 4 (fun _ h => some_eq h)⟩
        · have h4_ : L 4 = true := by simp [hd]
          have c21_ : actZ.tmps[21]?.getD undef = .pointer (some ⟨wr.heap.size, 0, none⟩) := (hA.get 4 h4_).trans (HV.out 4 _ rfl h4_)
          have u_ := Own.cell (T := 128) (vs := [.int .i64 t.f, .int .i64 t.w, .int .i64 t.s]) (oD.up 1) 0
          go_simp
          exact hK.out (.int .i64 t.f) _ ⟨oD, kD, HV.out.put 5 (fun _ h => some_eq h)⟩
        · have h3_ : L 3 = true := by simp [hd]
          have c20_ : actZ.tmps[20]?.getD undef = .map (some ab) := (hA.get 3 h3_).trans (HV.out 3 _ rfl h3_)
          have h5_ : L 5 = true := by simp [hd]
          have c22_ : actZ.tmps[22]?.getD undef = .int .i64 t.f := (hA.get 5 h5_).trans (HV.out 5 _ rfl h5_)
          have u_ := HLK.out _ _ (oD.up 6)
          go_simp
          exact hK.out (.agg #[.int .i64 a1, .int .i64 a2, .int .i64 a3]) _ ⟨oD, kD, HV.out.put 6 (fun _ h => some_eq h)⟩
        · rw [hL] at oD
          go_simp
          exact hK.out _ _ ⟨Pb.new oD, qcalm_alloc kD, HV.out.put 7 (fun _ h => by cases h)⟩
        · have h7_ : L 7 = true := by simp [hd]
          have c6_ := hA.get 7 h7_
          have h6_ : L 6 = true := by simp [hd]
          have c23_ : actZ.tmps[23]?.getD undef = .agg #[.int .i64 a1, .int .i64 a2, .int .i64 a3] := (hA.get 6 h6_).trans (HV.out 6 _ rfl h6_)
          rw [h7_, hL] at oD
          obtain ⟨gN, hgN, oN⟩ := Pb.val oD
          rw [hgN] at c6_
          have hgN := Lib.hid hgN
          have n0_ := oN.cell 0
          have n1_ := oN.cell 1
          have n2_ := oN.cell 2
          have nf_ := oN.frozen
          have nl_ := oN.celLt
          go_simp
          have oY := ((oN.setCell 0 (.int .i64 a1)).setCell 1 (.int .i64 a2)).setCell 2 (.int .i64 a3)
          have oQ := Pb.put (l := L 7) (v := v 7) (zs := [.int .i64 0, .int .i64 0, .int .i64 0]) oY h7_ hgN.out
          exact hK.out undef _ ⟨oQ, qcalm_set (qcalm_set (qcalm_set kD)), HV.out.put 8 (fun _ h => by cases h)⟩
      case fin =>
        rintro L v wc hall ⟨oD, kD, hv⟩
        rw [hall 7 (by decide), hall 8 (by decide)] at oD
        obtain ⟨gN, hgN, oN⟩ := Pb.got oD
        clear hv hall oD K3
        simp only [putAll, Act.put, List.setIfInBounds_toArray, List.set_cons_zero, List.set_cons_succ]
        rw [hgN]
        clear hgN
        have t0 := Own.cell (T := 128) (vs := [.int .i64 t.f, .int .i64 t.w, .int .i64 t.s]) (oN.up 1) 0
        have t1 := Own.cell (T := 128) (vs := [.int .i64 t.f, .int .i64 t.w, .int .i64 t.s]) (oN.up 1) 1
        have t2 := Own.cell (T := 128) (vs := [.int .i64 t.f, .int .i64 t.w, .int .i64 t.s]) (oN.up 1) 2
        have n0 := oN.cell 0
        have n1 := oN.cell 1
        have n2 := oN.cell 2
        have oX := oN.alloc (.cells #[.int .i64 t.f, .int .i64 t.w, .int .i64 a1, .int .i64 t.s, .int .i64 0, .int .i64 0, .int .i64 0, .int .i64 0, .int .i64 a2, .int .i64 a3] 54)
        have hnw := Own.news (T := 54) oX
        go_wp2_with (at_builtin; refine wpList_append_slc rfl _ _ rfl Tryz.accTI rfl (oX.up 3) ⟨wc.heap.size, 0, none⟩ 1 1 [.int .i64 t.f, .int .i64 t.w, .int .i64 a1, .int .i64 t.s, .int .i64 0, .int .i64 0, .int .i64 0, .int .i64 0, .int .i64 a2, .int .i64 a3] rfl rfl ?c1 ?c2 ?c3 ?c4 ?c5)
        case c1 => exact hnw
        case c2 => intro u hu; simp only [List.mem_cons, List.not_mem_nil, or_false] at hu; rcases hu with rfl | rfl | rfl | rfl | rfl | rfl | rfl | rfl | rfl | rfl <;> rfl
        case c3 => unfold maxLen; omega
        case c4 => omega
        case c5 =>
        intro aa cc w5 o5 k5
        rw [HAC.out] at o5
        have K5 := (qcalm_alloc (x := .cells #[.int .i64 t.f, .int .i64 t.w, .int .i64 a1, .int .i64 t.s, .int .i64 0, .int .i64 0, .int .i64 0, .int .i64 0, .int .i64 a2, .int .i64 a3] 54) kD).trans k5
        go_wp2
        go_roundw
        case rel => exact ⟨i + 1, aa, cc, by go_num, by omega, rfl, o5.re [1, 2, 3] 3, K5⟩
        case measure => simp [Lib.intOf]; omega
    · have hin : i = s.R.L.length := by omega
      subst hin
      rw [List.take_length] at oR
      go_wp2
      go_ret
      exact ⟨a', c', rfl, Own.swap (IwR.iff.2 ⟨rp, ab, oR.re [1, 3, 2, 4, 0] 1⟩), kR⟩
end
end Go.Proofs.YtkmlkpfabkhleaaGreat

/- Iwfq: lists of accounts are equal; the flows of the reference. -/
namespace Go.Proofs.YtkmlkpfabkhleaaGreat
open Go.RowKit
open SP
section
variable {w w' : World} {R : List SP} {b pr : Nat} {at_ : Int} {O : List Tg} {P : SP} {S : St} {m : List (Int × Acc)}

def EqRelA (n : Nat) (w : World) (v : Value) (wr : World) : Prop := ∃ (i q : Nat), v = .int .i64 (i : Int) ∧ i ≤ n ∧ wr = w.drewN q
theorem acc_cells {a : Option Addr} {n c : Nat} {L : List Tg} (o : Own w (slc 54 10 a n c (flat (accCI m) L) :: R)) {i : Nat} {t : Tg} (ht : L[i]? = some t) (hn : 0 < n) :
    ∃ (g : Nat) (l x y : Int), (l, x, y) = accO m t.f ∧ a = some ⟨g, 0, none⟩ ∧ w.cell? ⟨g, i * 10, none⟩ = some (.int .i64 t.f) ∧ w.cell? ⟨g, i * 10 + 1, none⟩ = some (.int .i64 t.w) ∧ w.cell? ⟨g, i * 10 + 2, none⟩ = some (.int .i64 l) ∧ w.cell? ⟨g, i * 10 + 3, none⟩ = some (.int .i64 t.s) ∧
      w.cell? ⟨g, i * 10 + 4, none⟩ = some (.int .i64 0) ∧ w.cell? ⟨g, i * 10 + 5, none⟩ = some (.int .i64 0) ∧ w.cell? ⟨g, i * 10 + 6, none⟩ = some (.int .i64 0) ∧ w.cell? ⟨g, i * 10 + 7, none⟩ = some (.int .i64 0) ∧ w.cell? ⟨g, i * 10 + 8, none⟩ = some (.int .i64 x) ∧ w.cell? ⟨g, i * 10 + 9, none⟩ = some (.int .i64 y) := by
  obtain ⟨g, rfl, hc, _, _⟩ := o.slc_cell hn
  refine ⟨g, (accO m t.f).1, (accO m t.f).2.1, (accO m t.f).2.2, rfl, rfl, ?_, ?_, ?_, ?_, ?_, ?_, ?_, ?_, ?_, ?_⟩
  · have := hc (i * 10 + 0) (.int .i64 t.f) (by rw [flat_get (accCI_len m) L i 0 t ht (by omega)]; rfl)
    rwa [Nat.add_zero] at this
  · exact hc (i * 10 + 1) _ (by rw [flat_get (accCI_len m) L i 1 t ht (by omega)]; rfl)
  · exact hc (i * 10 + 2) _ (by rw [flat_get (accCI_len m) L i 2 t ht (by omega)]; rfl)
  · exact hc (i * 10 + 3) _ (by rw [flat_get (accCI_len m) L i 3 t ht (by omega)]; rfl)
  · exact hc (i * 10 + 4) _ (by rw [flat_get (accCI_len m) L i 4 t ht (by omega)]; rfl)
  · exact hc (i * 10 + 5) _ (by rw [flat_get (accCI_len m) L i 5 t ht (by omega)]; rfl)
  · exact hc (i * 10 + 6) _ (by rw [flat_get (accCI_len m) L i 6 t ht (by omega)]; rfl)
  · exact hc (i * 10 + 7) _ (by rw [flat_get (accCI_len m) L i 7 t ht (by omega)]; rfl)
  · exact hc (i * 10 + 8) _ (by rw [flat_get (accCI_len m) L i 8 t ht (by omega)]; rfl)
  · exact hc (i * 10 + 9) _ (by rw [flat_get (accCI_len m) L i 9 t ht (by omega)]; rfl)
set_option maxHeartbeats 3200000 in
set_option maxRecDepth 100000 in
theorem equalA_spec {a1 a2 : Option Addr} {n c1 c2 : Nat} {L : List Tg} (hn : n = L.length) (hn2 : n ≤ 1000) (o : Own w (slc 54 10 a1 n c1 (flat (accCI m) L) :: slc 54 10 a2 n c2 (flat (accCI m) L) :: R)) :
    Calls Tryz.prog 19 #[.slice a1 n c1, .slice a2 n c2] w (Ret (.bool true) (slc 54 10 a1 n c1 (flat (accCI m) L) :: slc 54 10 a2 n c2 (flat (accCI m) L) :: R) w) := by
  have HN := Lib.hid hn
  clear hn
  go_enter Tryz.func19, Tryz.ntmps19
  go_wp2
  go_loopw [5] (fun v wr => EqRelA n w v wr) (fun v _ => n - (Lib.intOf v).toNat)
  case atStart => exact ⟨0, 0, rfl, by omega, rfl⟩
  case round =>
    obtain ⟨i, q, rfl, hi, rfl⟩ := hrel
    by_cases hlt : i < n
    · obtain ⟨t, ht⟩ : ∃ t, L[i]? = some t := ⟨_, List.getElem?_eq_getElem (by rw [← HN.out]; exact hlt)⟩
      obtain ⟨g1, l, x, y, hA, hg1, d0, d1, d2, d3, d4, d5, d6, d7, d8, d9⟩ := acc_cells o ht (by omega)
      obtain ⟨g2, l', x', y', hA', hg2, f0, f1, f2, f3, f4, f5, f6, f7, f8, f9⟩ := acc_cells (o.up 1) ht (by omega)
      rw [← hA] at hA'
      cases hA'
      subst hg1
      subst hg2
      clear hA ht
      go_wp2
      go_quiet (fail)
      go_wp2
      go_roundw
      case rel => exact ⟨i + 1, _, by go_num, by omega, rfl⟩
      case measure => simp [Lib.intOf]; omega
    · go_wp2
      go_ret
      exact ⟨rfl, o.drewN q, ⟨rfl, rfl, rfl⟩⟩

/-! ### The flows of the reference -/
def IdRel (b pr : Nat) (at_ : Int) (S : St) (O : List Tg) (aB : Option Addr) (cB : Nat) (m : List (Int × Acc)) (P : SP) (R : List SP) (w : World) (v3 v4 : Value) (wr : World) : Prop :=
  ∃ (i : Nat) (a' : Option Addr) (c' : Nat), v4 = .int .i64 (i : Int) ∧ v3 = .slice a' i c' ∧ i ≤ S.L.length ∧
    Own wr (slc 3 1 a' i c' ((S.L.take i).map fun t => Value.int .i64 t.f) :: IwTc b pr aB S.L.length cB :: RefT P pr at_ S.L O S.tm S.aw :: bdS aB cB m S.L :: P :: R) ∧ Calm w wr
def IdPost (b : Nat) (at_ : Int) (S : St) (O : List Tg) (m : List (Int × Acc)) (P : SP) (R : List SP) (w : World) (e : Ending) (w' : World) : Prop :=
  ∃ (a : Option Addr) (c : Nat), Ret (.slice a S.L.length c) (slc 3 1 a S.L.length c ((S.L.map (·.f)).map (Value.int .i64)) :: IwT P b at_ S O m :: P :: R) w e w'
set_option maxHeartbeats 3200000 in
set_option maxRecDepth 100000 in
theorem ids_spec (hok : LOk S.L) (o : Own w (IwT P b at_ S O m :: P :: R)) :
    Calls Tryz.prog 76 #[.pointer (some ⟨b, 0, none⟩)] w (IdPost b at_ S O m P R w) := by
  obtain ⟨pr, aB, cB, o1⟩ := IwT.iff.1 o
  have hlen := hok.len
  have hT : IdRel b pr at_ S O aB cB m P R w (.slice none 0 0) (.int .i64 0) w := ⟨0, none, 0, rfl, rfl, Nat.zero_le _, Own.slc_nil o1, Calm.refl w⟩
  clear o1 o
  go_enter Tryz.func76, Tryz.ntmps76
  go_wp2
  go_loopw [3, 4] (fun v3 v4 wr => IdRel b pr at_ S O aB cB m P R w v3 v4 wr) (fun _ v _ => S.L.length - (Lib.intOf v).toNat)
  case atStart => exact hT
  case round =>
    clear hT
    obtain ⟨i, a', c', rfl, rfl, hi, oR, kR⟩ := hrel
    have b0 := (oR.up 1).cell 0
    obtain ⟨a1, c1', a2, c2, ⟨⟨hP, hs⟩, hc, hP2⟩, o1⟩ := RefT.iff.1 (oR.up 2)
    have e1 := o1.cell 1
    by_cases hlt : i < S.L.length
    · obtain ⟨t, ht⟩ : ∃ t, S.L[i]? = some t := ⟨_, List.getElem?_eq_getElem hlt⟩
      obtain ⟨g, so, rfl, d0, d1, d2⟩ := hP _ _ (oR.up 4) i _ ht
      have HS := Lib.hid (show (S.L.take (i + 1)).map (fun t => Value.int .i64 t.f) = (S.L.take i).map (fun t => Value.int .i64 t.f) ++ [.int .i64 t.f] from by rw [List.take_add_one, ht, List.map_append]; rfl)
      clear ht hP hP2 hs hc
      have oA := oR.alloc (.cells #[.int .i64 t.f] 3)
      go_wp2_with (at_builtin; refine wpList_append_slc rfl _ _ rfl Tryz.intIw rfl (oA.up 1) ⟨wr.heap.size, 0, none⟩ 1 1 [.int .i64 t.f] rfl rfl ?c1 ?c2 ?c3 ?c4 ?c5)
      case c1 => exact Own.news (T := 3) oA
      case c2 => intro u hu; simp at hu; rcases hu with rfl; rfl
      case c3 => unfold maxLen; omega
      case c4 => omega
      case c5 =>
      intro a2 c2 w5 o5 k5
      go_wp2
      go_roundw
      case rel => exact ⟨i + 1, a2, c2, by go_num, rfl, by omega, by rw [HS.out]; rw [List.map_take]; exact o5.re [1] 1, kR.trans k5.al⟩
      case measure => simp [Lib.intOf]; omega
    · have hin : i = S.L.length := by omega
      subst hin
      clear hP hP2 hs hc o1
      rw [List.take_length] at oR
      go_wp2
      go_ret
      refine ⟨a', c', rfl, ?_, kR⟩
      rw [List.map_map]
      exact (IwT.iff.2 ⟨pr, aB, cB, oR.re [1, 2, 3]⟩).re [1, 0]
end
end Go.Proofs.YtkmlkpfabkhleaaGreat

/- Iwfq: the example of chapter 25. -/
namespace Go.Proofs.YtkmlkpfabkhleaaGreat
open Go.RowKit
open SP
section
variable {w w' : World} {R : List SP} {b : Nat}
theorem awStepI {k : Nat} (hk : k ≤ 2) {g c : Nat} (o : Own w (IwR b 1099511627776 (awI k) :: slc 35 3 (some ⟨g, 0, none⟩) 2 c (flat headC awHd) :: R)) :
    Calls Tryz.prog 77 #[.pointer (some ⟨b, 0, none⟩), .slice (some ⟨g, 0, none⟩) 2 c] w
      (Ret (.tuple #[chV (stepI 1099511627776 (awI k) awHd).1, .int .i64 0]) (IwR b 1099511627776 (awI (k + 1)) :: slc 35 3 (some ⟨g, 0, none⟩) 2 c (flat headC awHd) :: R) w) := by
  obtain ⟨h, _⟩ := awI_inv k (by omega)
  have hf := aw_fit k (by omega)
  have h0 := (h.step (reb := 1099511627776) (by omega) hf (by simp [awHd])).1
  have := iwStep_spec (c := c) (h.ok (by omega) 1099511627776) (headsAt_slc (T := 35) (some ⟨g, 0, none⟩) 2 c awHd rfl) rfl hf (by simp [awHd]) o
  rw [h0] at this
  exact this
set_option maxHeartbeats 6400000 in
set_option maxRecDepth 100000 in
theorem awake25_spec (o : Own w R) : Calls Tryz.prog 36 #[] w (Ret (.bool true) R w) := by
  go_enter Tryz.func36, Tryz.ntmps36
  go_wp2_with fail
  refine (iwNew_spec 1099511627776 (by decide) (by decide) o).mono ?_
  rintro e1 w1 ⟨b, rfl, o1, k1⟩
  have hj := iwJoin_spec 0 1 100 100 o1
  rw [aw_join.1] at hj
  dsimp only at hj
  go_wp2_with fail
  refine hj.mono ?_
  rintro e2 w2 ⟨rfl, o2, k2⟩
  clear hj
  have hj := iwJoin_spec 1 1 100 100 o2
  rw [aw_join.2] at hj
  dsimp only at hj
  go_wp2_with fail
  refine hj.mono ?_
  rintro e3 w3 ⟨rfl, o3, k3⟩
  clear hj
  have oH := o3.alloc (.cells #[.int .i64 0, .int .i64 100, .bool false, .int .i64 1, .int .i64 100, .bool true] 35)
  have oI := slc_new (size := 3) (n := 2) oH rfl (by omega)
  have h0 := awStepI (k := 0) (by decide) (oI.re [1, 0])
  rw [aw_res.1] at h0
  unfold chV at h0
  dsimp only at h0
  have K3 := k1.trans (k2.trans k3)
  clear o1 o2 k1 k2 k3
  go_wp2_with fail
  refine h0.mono ?_
  rintro e4 w4 ⟨rfl, o4, k4⟩
  clear h0
  have oA := o4.alloc (.cells #[.int .i64 0, .int .i64 1, .int .i64 5] 38)
  have h1 := awStepI (k := 1) (by decide) (oA.re [1, 2])
  rw [aw_res.2.1] at h1
  unfold chV at h1
  dsimp only at h1
  go_wp2_with fail
  refine h1.mono ?_
  rintro e5 w5 ⟨rfl, o5, k5⟩
  clear h1
  have oB := o5.alloc (.cells #[.int .i64 1, .int .i64 1, .int .i64 1] 38)
  have h2 := awStepI (k := 2) (by decide) (oB.re [1, 2])
  rw [aw_res.2.2.1] at h2
  unfold chV at h2
  dsimp only at h2
  go_wp2_with fail
  refine h2.mono ?_
  rintro e6 w6 ⟨rfl, o6, k6⟩
  clear h2
  have oO := o6.alloc (.cells #[.int .i64 1, .int .i64 1, .int .i64 1] 38)
  have a0 := Own.cell (T := 38) (vs := [.int .i64 1, .int .i64 1, .int .i64 1]) (oO.up 0) 0
  have a1 := Own.cell (T := 38) (vs := [.int .i64 1, .int .i64 1, .int .i64 1]) (oO.up 0) 1
  have a2 := Own.cell (T := 38) (vs := [.int .i64 1, .int .i64 1, .int .i64 1]) (oO.up 0) 2
  have p0 := Own.cell (T := 38) (vs := [.int .i64 1, .int .i64 1, .int .i64 1]) (oO.up 3) 0
  have p1 := Own.cell (T := 38) (vs := [.int .i64 1, .int .i64 1, .int .i64 1]) (oO.up 3) 1
  have p2 := Own.cell (T := 38) (vs := [.int .i64 1, .int .i64 1, .int .i64 1]) (oO.up 3) 2
  have r0 := Own.cell (T := 38) (vs := [.int .i64 0, .int .i64 1, .int .i64 5]) (oO.up 4) 0
  have r1 := Own.cell (T := 38) (vs := [.int .i64 0, .int .i64 1, .int .i64 5]) (oO.up 4) 1
  have r2 := Own.cell (T := 38) (vs := [.int .i64 0, .int .i64 1, .int .i64 5]) (oO.up 4) 2
  go_wp2
  go_ret
  have K4 := (qcalm_alloc (x := .cells #[.int .i64 0, .int .i64 100, .bool false, .int .i64 1, .int .i64 100, .bool true] 35) K3).trans k4
  have K5 := (qcalm_alloc (x := .cells #[.int .i64 0, .int .i64 1, .int .i64 5] 38) K4).trans k5
  have K6 := (qcalm_alloc (x := .cells #[.int .i64 1, .int .i64 1, .int .i64 1] 38) K5).trans k6
  exact ⟨rfl, oO.dropN 5, qcalm_alloc (x := .cells #[.int .i64 1, .int .i64 1, .int .i64 1] 38) K6⟩
end
end Go.Proofs.YtkmlkpfabkhleaaGreat

/- Iwfq: bounds that are drawn; joining one after the other where some may be refused. -/
namespace Go.Proofs.YtkmlkpfabkhleaaGreat
open Go.RowKit
open SP
section
variable {W w w' : World} {R : List SP} {b cb N : Nat} {s : Iw} {i : Nat}

def bdL : List Int := [0, 100, 1000, 5000, 20000, 1099511627776, -1, 1099511627777]
def BdPost (W : World) (b N : Nat) (R : List SP) (w : World) (e : Ending) (w' : World) : Prop :=
  ∃ x : Int, Ret (.int .i64 x) (Ch W b (N + 2) :: old W :: R) w e w'
set_option maxHeartbeats 1600000 in
theorem bound_spec (hN : N ≤ 800000000) (o : Own w (Ch W b N :: old W :: R)) :
    Calls Tryz.prog 71 #[.pointer (some ⟨b, 0, none⟩)] w (BdPost W b N R w) := by
  have o1 : Own (w.alloc (.cells (bdL.map (Value.int .i64)).toArray 2)) (cel w.heap.size 2 (bdL.map (Value.int .i64)) :: Ch W b N :: old W :: R) := o.alloc _
  go_enter Tryz.func71, Tryz.ntmps71
  go_wp2_with fail
  refine (next_spec W b N 9 _ _ (by omega) (by omega) (by omega) (o1.re [1, 2])).mono ?_
  rintro e2 w2 ⟨x, hx0, hx1, rfl, o3, k3⟩
  obtain ⟨y, hy⟩ : ∃ y, Int.tdiv x 8 = y := ⟨_, rfl⟩
  have hy0 : y = 0 ∨ y = 1 := by rw [← hy, Int.tdiv_eq_ediv_of_nonneg hx0]; omega
  have h1 := IntWalk.i64_in y (by omega)
  have h2 := IntWalk.i64_in (y * 2) (by omega)
  have h3 := IntWalk.i64_in (6 + y * 2) (by omega)
  have HY := Lib.hid hy0
  go_wp2_with fail
  refine (next_spec W b (N + 1) (6 + y * 2) _ _ (by omega) (by omega) (by omega) o3).mono ?_
  rintro e4 w4 ⟨z, hz0, hz1, rfl, o4, k4⟩
  obtain ⟨j, rfl⟩ : ∃ j : Nat, z = (j : Int) := ⟨z.toNat, by omega⟩
  have hj : j < bdL.length := by have := HY.out; show j < 8; omega
  have c := Own.cell (v := .int .i64 bdL[j]) (o4.up 2) j (by rw [List.getElem?_map, List.getElem?_eq_getElem hj]; rfl)
  generalize bdL[j] = u at *
  have hj8 : (j : Int) < 8 := by have : j < 8 := hj; omega
  clear h1 h2 h3 hy hz1 hj
  go_wp2
  go_ret
  exact ⟨u, rfl, (o4.up 2).drop, (qcalm_alloc (x := .cells (bdL.map (Value.int .i64)).toArray 2) (Calm.refl w)).trans (k3.trans k4)⟩

/-- A flow joins behind all others; where its bounds are not permitted nothing changes. -/
theorem joinI_lt {k : Nat} (h : IwInv i s) (hlt : ∀ t ∈ s.R.L, t.f < (k : Int)) (hk : k < 32) {w : Int} (h1 : 1 ≤ w) (h2 : w ≤ 16) (x y : Int) :
    IwInv i (joinI s (k : Int) w x y).2 ∧ (∀ f, (accO s.m f).1 = 0 → (accO (joinI s (k : Int) w x y).2.m f).1 = 0) ∧ (∀ t ∈ (joinI s (k : Int) w x y).2.R.L, t.f < ((k + 1 : Nat) : Int)) ∧
      ((joinI s (k : Int) w x y).2.R = s.R ∨ (joinI s (k : Int) w x y).2.R = joinS s.R (k : Int) w ∧ (joinI s (k : Int) w x y).2.R.L.length = s.R.L.length + 1) := by
  have hno : fget s.R.L (k : Int) = none := fget_none.2 fun t ht e => by have := hlt t ht; omega
  have he : joinE s.R (k : Int) w = 0 := by
    unfold joinE
    rw [if_neg (by omega), hno]
    rfl
  unfold joinI
  cases hb : bndI x y with
  | false =>
    rw [if_pos rfl]
    exact ⟨h, fun f hf => hf, fun t ht => by have := hlt t ht; push_cast; omega, .inl rfl⟩
  | true =>
    rw [if_neg (by simp), if_pos he]
    have hL : (joinS s.R (k : Int) w).L = s.R.L ++ [⟨(k : Int), w, max s.R.tm (s.R.old (k : Int))⟩] := insT_endI hlt
    dsimp only
    refine ⟨⟨h.tb.join he, fun f => ?_, fun t ht => ?_⟩, fun f hf => ?_, fun t ht => ?_, .inr ⟨rfl, by rw [hL, List.length_append]; rfl⟩⟩
    · dsimp only
      rw [accO_mput]
      split
      · unfold bndI at hb
        simp only [Bool.and_eq_true, decide_eq_true_eq] at hb
        unfold accIn
        dsimp only
        omega
      · exact h.acc f
    · dsimp only at ht ⊢
      rw [mget_mput]
      split
      · exact ⟨_, rfl⟩
      · rename_i hne
        rw [hL] at ht
        rcases List.mem_append.1 ht with ht | ht
        · exact h.ks t ht
        · rw [List.mem_singleton] at ht; subst ht; exact absurd rfl hne
    · rw [accO_mput]
      split
      · rfl
      · exact hf
    · rw [hL] at ht
      rcases List.mem_append.1 ht with ht | ht
      · have := hlt t ht; push_cast; omega
      · rw [List.mem_singleton] at ht; subst ht; show (k : Int) < _; push_cast; omega
end
end Go.Proofs.YtkmlkpfabkhleaaGreat

/- The reference of iwfq: Accounts. -/
namespace Go.Proofs.YtkmlkpfabkhleaaGreat
open Go.RowKit
open SP
section
variable {w w' : World} {R : List SP} {b pr : Nat} {at_ : Int} {O : List Tg} {P Sp : SP} {S : St} {m : List (Int × Acc)}

def AcTRel (P0 : List SP) (L : List Tg) (m : List (Int × Acc)) (w : World) (v3 v13 : Value) (wr : World) : Prop :=
  ∃ (i : Nat) (a' : Option Addr) (c' : Nat), v3 = .slice a' i c' ∧ v13 = .int .i64 (i : Int) ∧ i ≤ L.length ∧
    Own wr (slc 54 10 a' i c' (flat (accCI m) (L.take i)) :: P0) ∧ Calm w wr
def AccTPost (b : Nat) (at_ : Int) (S : St) (O : List Tg) (m : List (Int × Acc)) (P : SP) (R : List SP) (w : World) (e : Ending) (w' : World) : Prop :=
  ∃ (a : Option Addr) (c : Nat), Ret (.slice a S.L.length c) (slc 54 10 a S.L.length c (flat (accCI m) S.L) :: IwT P b at_ S O m :: P :: R) w e w'

set_option maxHeartbeats 6400000 in
set_option maxRecDepth 100000 in
theorem refAccI_spec (hok : LOk S.L) (o : Own w (IwT P b at_ S O m :: P :: R)) :
    Calls Tryz.prog 30 #[.pointer (some ⟨b, 0, none⟩)] w (AccTPost b at_ S O m P R w) := by
  obtain ⟨pr, aB, cB, o1⟩ := IwT.iff.1 o
  have hlen := hok.len
  have hT : AcTRel (IwTc b pr aB S.L.length cB :: RefT P pr at_ S.L O S.tm S.aw :: bdS aB cB m S.L :: P :: R) S.L m w (.slice none 0 0) (.int .i64 0) w := ⟨0, none, 0, rfl, rfl, Nat.zero_le _, Own.slc_nil o1, Calm.refl w⟩
  clear o1 o
  go_enter Tryz.func30, Tryz.ntmps30
  go_wp2
  go_loopw [3, 4] (fun v3 v13 wr => AcTRel (IwTc b pr aB S.L.length cB :: RefT P pr at_ S.L O S.tm S.aw :: bdS aB cB m S.L :: P :: R) S.L m w v3 v13 wr) (fun _ v _ => S.L.length - (Lib.intOf v).toNat)
  case atStart => exact hT
  case round =>
    clear hT
    obtain ⟨i, a', c', rfl, rfl, hi, oR, kR⟩ := hrel
    have b1 := (oR.up 1).cell 1
    by_cases hlt : i < S.L.length
    · obtain ⟨t, ht⟩ : ∃ t, S.L[i]? = some t := ⟨_, List.getElem?_eq_getElem (by omega)⟩
      have htk : S.L.take (i + 1) = S.L.take i ++ [t] := by rw [List.take_add_one, ht]; rfl
      have HAC := Lib.hid (show flat (accCI m) (S.L.take i) ++ accCI m t = flat (accCI m) (S.L.take (i + 1)) from by rw [htk, flat_appendI]; show _ = _ ++ (accCI m t ++ []); rw [List.append_nil])
      obtain ⟨g, rfl, hcg, _, hgl⟩ := (oR.up 3).slc_cell (by omega)
      have k0 := hcg (i * 4 + 0) _ (flat_get (bdC_len m) S.L i 0 t ht (by omega))
      rw [Nat.add_zero] at k0
      have k1 := hcg (i * 4 + 1) _ (flat_get (bdC_len m) S.L i 1 t ht (by omega))
      have k2 := hcg (i * 4 + 2) _ (flat_get (bdC_len m) S.L i 2 t ht (by omega))
      have k3 := hcg (i * 4 + 3) _ (flat_get (bdC_len m) S.L i 3 t ht (by omega))
      change World.cell? _ ⟨g, i * 4, none⟩ = some (.int .i64 t.f) at k0
      change World.cell? _ ⟨g, i * 4 + 1, none⟩ = some (.int .i64 (accO m t.f).1) at k1
      change World.cell? _ ⟨g, i * 4 + 2, none⟩ = some (.int .i64 (accO m t.f).2.1) at k2
      change World.cell? _ ⟨g, i * 4 + 3, none⟩ = some (.int .i64 (accO m t.f).2.2) at k3
      have b0 := (oR.up 1).cell 0
      have bl := (oR.up 1).celLt
      obtain ⟨a1, c1', a2, c2, hpu, o3⟩ := RefT.iff.1 (oR.up 2)
      have e1 := o3.cell 1
      have el := o3.celLt
      obtain ⟨g', so, rfl, t0, t1, t2⟩ := hpu.1.1 _ _ (o3.up 4) i _ ht
      have HPU := Lib.hid hpu
      have HT := Lib.hid ht
      have HK := Lib.hid (fun (w : World) (R : List SP) (o : Own w (bdS (some ⟨g, 0, none⟩) cB m S.L :: R)) => show (w.cell? ⟨g, i * 4, none⟩ = some (.int .i64 t.f) ∧ w.cell? ⟨g, i * 4 + 1, none⟩ = some (.int .i64 (accO m t.f).1) ∧ w.cell? ⟨g, i * 4 + 2, none⟩ = some (.int .i64 (accO m t.f).2.1) ∧ w.cell? ⟨g, i * 4 + 3, none⟩ = some (.int .i64 (accO m t.f).2.2)) from by
        obtain ⟨g2, hg2, hcg, _, _⟩ := o.slc_cell (by omega)
        cases hg2
        exact ⟨hcg (i * 4 + 0) _ (flat_get (bdC_len m) S.L i 0 t ht (by omega)), hcg (i * 4 + 1) _ (flat_get (bdC_len m) S.L i 1 t ht (by omega)), hcg (i * 4 + 2) _ (flat_get (bdC_len m) S.L i 2 t ht (by omega)), hcg (i * 4 + 3) _ (flat_get (bdC_len m) S.L i 3 t ht (by omega))⟩)
      have HG := Lib.hid (fun (w : World) (R : List SP) (o : Own w (P :: R)) => show (w.cell? ⟨g', so + i * 3, none⟩ = some (.int .i64 t.f) ∧ w.cell? ⟨g', so + i * 3 + 1, none⟩ = some (.int .i64 t.w) ∧ w.cell? ⟨g', so + i * 3 + 2, none⟩ = some (.int .i64 t.s)) from by
        obtain ⟨g2, so2, hg2, u0, u1, u2⟩ := hpu.1.1 _ _ o i _ ht
        cases hg2
        exact ⟨u0, u1, u2⟩)
      clear hpu
      have hacc : accCI m t = [.int .i64 t.f, .int .i64 t.w, .int .i64 (accO m t.f).1, .int .i64 t.s, .int .i64 0, .int .i64 0, .int .i64 0, .int .i64 0, .int .i64 (accO m t.f).2.1, .int .i64 (accO m t.f).2.2] := rfl
      have hac := HAC.out
      have hacc : accCI m t = [.int .i64 t.f, .int .i64 t.w, .int .i64 (accO m t.f).1, .int .i64 t.s, .int .i64 0, .int .i64 0, .int .i64 0, .int .i64 0, .int .i64 (accO m t.f).2.1, .int .i64 (accO m t.f).2.2] := rfl
      rw [hacc] at hac
      have HAC := Lib.hid hac
      clear hac hacc
      generalize accO m t.f = cn at *
      obtain ⟨q1, q2, q3⟩ := cn
      dsimp only at *
      clear ht htk hcg
      have oX := (o3.alloc (.cells #[.int .i64 t.f, .int .i64 t.w, .int .i64 q1, .int .i64 t.s, .int .i64 0, .int .i64 0, .int .i64 0, .int .i64 0, .int .i64 q2, .int .i64 q3] 54)).drew
      have hnw := Own.news (T := 54) oX
      go_upto_region 5 with fail
      go_region_held3 (fun w' => w'.cell? ⟨b, 0, none⟩ = some (.pointer (some ⟨pr, 0, none⟩)) ∧ w'.cell? ⟨b, 1, none⟩ = some (.slice (some ⟨g, 0, none⟩) S.L.length cB) ∧ w'.cell? ⟨pr, 1, none⟩ = some (.slice (some ⟨g', so, none⟩) S.L.length c1') ∧ w'.cell? ⟨g, i * 4, none⟩ = some (.int .i64 t.f) ∧ w'.cell? ⟨g, i * 4 + 1, none⟩ = some (.int .i64 q1) ∧ w'.cell? ⟨g, i * 4 + 2, none⟩ = some (.int .i64 q2) ∧ w'.cell? ⟨g, i * 4 + 3, none⟩ = some (.int .i64 q3) ∧ w'.cell? ⟨g', so + i * 3 + 1, none⟩ = some (.int .i64 t.w) ∧ w'.cell? ⟨g', so + i * 3 + 2, none⟩ = some (.int .i64 t.s)) (go_keep) (first
        | (refine step_append_src rfl _ _ rfl Tryz.accTI rfl (oX.up 2) rfl ⟨_, _, rfl, rfl, by intro u hu; simp only [List.mem_cons, List.not_mem_nil, or_false] at hu; rcases hu with rfl | rfl | rfl | rfl | rfl | rfl | rfl | rfl | rfl | rfl <;> rfl, .inr ⟨_, rfl, hnw⟩⟩ (by unfold maxLen; omega) (by omega) ?_; intro aa cc w5 o5 k5; have f0 := (o5.up 3).cell 0; have f1 := (o5.up 3).cell 1; have f2 := (o5.up 2).cell 1; obtain ⟨x0, x1, x2, x3⟩ := HK.out _ _ (o5.up 4); obtain ⟨z0, z1, z2⟩ := HG.out _ _ (o5.up 5)))
      rw [HAC.out] at o5
      have K5 := (qcalm_drew (qcalm_alloc (x := .cells #[.int .i64 t.f, .int .i64 t.w, .int .i64 q1, .int .i64 t.s, .int .i64 0, .int .i64 0, .int .i64 0, .int .i64 0, .int .i64 q2, .int .i64 q3] 54) kR)).trans k5
      go_wp2
      go_roundw
      case rel => exact ⟨i + 1, aa, cc, rfl, by go_num, by omega, ((RefT.iff.2 ⟨_, _, _, _, HPU.out, (o5.re [1] 1).up 1⟩ : Own _ (RefT P pr at_ S.L O S.tm S.aw :: _)).re [1, 2, 0]), K5⟩
      case measure => simp [Lib.intOf]; omega
    · have hin : i = S.L.length := by omega
      subst hin
      rw [List.take_length] at oR
      go_wp2
      go_ret
      exact ⟨a', c', rfl, Own.swap (IwT.iff.2 ⟨pr, aB, cB, oR.re [1, 2, 3, 0]⟩), kR⟩
end
end Go.Proofs.YtkmlkpfabkhleaaGreat

/- Iwfq: one act of a script, on both sides. -/
namespace Go.Proofs.YtkmlkpfabkhleaaGreat
open Go.RowKit
open SP
section
variable {W w w' : World} {R : List SP} {b cb tb N M : Nat} {reb : Int} {O : List Tg} {P Sp : SP} {s : Iw}

def ActPost (W : World) (cb M b tb : Nat) (reb : Int) (N : Nat) (R : List SP) (w : World) (e : Ending) (w' : World) : Prop :=
  ∃ (s' : Iw) (O' : List Tg) (P' : SP), IwS (N + 1) s' O' ∧ Ret (.bool true) (Ch W cb (M + 100) :: old W :: IwR b reb s' :: IwT P' tb reb s'.R O' s'.m :: P' :: R) w e w'
def ActCut (W : World) (cb M b tb : Nat) (reb : Int) (s : Iw) (O : List Tg) (P : SP) (R : List SP) (w : World) (v7 v8 : Value) (wc : World) : Prop :=
  ∃ f wt : Int, v7 = .int .i64 f ∧ v8 = .int .i64 wt ∧ Own wc (Ch W cb M :: old W :: IwR b reb s :: IwT P tb reb s.R O s.m :: P :: R) ∧ Calm w wc
def HdCut (W : World) (cb M b tb : Nat) (reb : Int) (s : Iw) (O : List Tg) (P : SP) (R : List SP) (w : World) (v15 : Value) (wc : World) : Prop :=
  ∃ (a : Option Addr) (n c : Nat) (H : List Head) (Sp : SP), v15 = .slice a n c ∧ HdsOk s.R.L Sp a n H ∧ Own wc (Sp :: Ch W cb M :: old W :: IwR b reb s :: IwT P tb reb s.R O s.m :: P :: R) ∧ Calm w wc
theorem act_end {w0 : World} {s' : Iw} {O' : List Tg} {P' : SP} {K : Nat} (hI : IwS (N + 1) s' O') (hK : K ≤ M + 100) (o : Own w' (Ch W cb K :: old W :: IwR b reb s' :: IwT P' tb reb s'.R O' s'.m :: P' :: R)) (k : Calm w0 w') :
    ActPost W cb M b tb reb N R w0 (.returned (.bool true)) w' := ⟨s', O', P', hI, rfl, Ch.upto o hK, k⟩

set_option maxHeartbeats 12800000 in
set_option maxRecDepth 100000 in
theorem act_spec (h : IwS N s O) (hN : N ≤ 371) (hM : M ≤ 700000000) (o : Own w (Ch W cb M :: old W :: IwR b reb s :: IwT P tb reb s.R O s.m :: P :: R)) :
    Calls Tryz.prog 28 #[.pointer (some ⟨cb, 0, none⟩), .pointer (some ⟨b, 0, none⟩), .pointer (some ⟨tb, 0, none⟩)] w (ActPost W cb M b tb reb N R w) := by
  go_enter Tryz.func28, Tryz.ntmps28
  go_wp2_with fail
  refine (next_spec W cb M 5 _ _ (by omega) (by omega) (by omega) o).mono ?_
  rintro e1 w1 ⟨f, hf0, hf1, rfl, o1, k1⟩
  go_wp2_with fail
  refine (weight_spec (M + 1) (by omega) o1).mono ?_
  rintro e2 w2 ⟨wt, hw0, hw1, rfl, o2, k2⟩
  go_wp2_with fail
  refine (next_spec W cb (M + 1 + 1) 30 _ _ (by omega) (by omega) (by omega) o2).mono ?_
  rintro e3 w3 ⟨z, hz0, hz1, rfl, o3, k3⟩
  have K3 := k1.trans (k2.trans k3)
  clear o1 o2 k1 k2 k3 o
  go_upto_block 0 with fail
  go_cut [7, 8] (fun v7 v8 wc => ActCut W cb (M + 4) b tb reb s O P R w v7 v8 wc)
  case first =>
    by_cases hz : z = 0
    · subst hz
      have oA := o3.alloc (.cells #[.int .i64 (-1), .int .i64 32] 3)
      go_wp2_with fail
      refine (next_spec W cb (M + 1 + 1 + 1) 2 _ _ (by omega) (by omega) (by omega) (oA.re [1, 2])).mono ?_
      rintro e4 w4 ⟨y, hy0, hy1, rfl, o4, k4⟩
      obtain ⟨j, rfl⟩ : ∃ j : Nat, y = (j : Int) := ⟨y.toNat, by omega⟩
      have hj : j < 2 := by omega
      obtain ⟨u, hu⟩ : ∃ u, ([-1, 32] : List Int)[j]? = some u := ⟨_, List.getElem?_eq_getElem hj⟩
      have c := Own.cell (T := 3) (vs := ([-1, 32] : List Int).map (Value.int .i64)) (v := .int .i64 u) (o4.up 2) j (by rw [List.getElem?_map, hu]; rfl)
      have K4 := (qcalm_alloc (x := .cells #[.int .i64 (-1), .int .i64 32] 3) K3).trans k4
      clear hu o3 k4 K3 oA
      go_wp2
      go_meet
      exact ⟨u, wt, rfl, rfl, o4.re [2] 1, K4⟩
    · by_cases hz2 : z = 1
      · subst hz2
        have oA := o3.alloc (.cells #[.int .i64 0, .int .i64 17] 3)
        go_wp2_with fail
        refine (next_spec W cb (M + 1 + 1 + 1) 2 _ _ (by omega) (by omega) (by omega) (oA.re [1, 2])).mono ?_
        rintro e4 w4 ⟨y, hy0, hy1, rfl, o4, k4⟩
        obtain ⟨j, rfl⟩ : ∃ j : Nat, y = (j : Int) := ⟨y.toNat, by omega⟩
        have hj : j < 2 := by omega
        obtain ⟨u, hu⟩ : ∃ u, ([0, 17] : List Int)[j]? = some u := ⟨_, List.getElem?_eq_getElem hj⟩
        have c := Own.cell (T := 3) (vs := ([0, 17] : List Int).map (Value.int .i64)) (v := .int .i64 u) (o4.up 2) j (by rw [List.getElem?_map, hu]; rfl)
        have K4 := (qcalm_alloc (x := .cells #[.int .i64 0, .int .i64 17] 3) K3).trans k4
        clear hu o3 k4 K3 oA
        go_wp2
        go_meet
        exact ⟨f, u, rfl, rfl, o4.re [2] 1, K4⟩
      · have d1 : (z == 0) = false := by simpa using hz
        have d2 : (z == 1) = false := by simpa using hz2
        clear hz hz2
        go_wp2
        go_meet
        exact ⟨f, wt, rfl, rfl, Ch.upto o3 (by omega), K3⟩
  case rest =>
    clear o3 K3
    obtain ⟨f', wt', rfl, rfl, o4, k4⟩ := hcut
    go_wp2_with fail
    refine (bound_spec (by omega) o4).mono ?_
    rintro e5 w5 ⟨x, rfl, o5, k5⟩
    go_wp2_with fail
    refine (bound_spec (by omega) o5).mono ?_
    rintro e6 w6 ⟨y, rfl, o6, k6⟩
    go_wp2_with fail
    refine (next_spec W cb (M + 4 + 2 + 2) 13 _ _ (by omega) (by omega) (by omega) o6).mono ?_
    rintro e7 w7 ⟨q, hq0, hq1, rfl, o7, k7⟩
    have K7 := k4.trans (k5.trans (k6.trans k7))
    clear o4 o5 o6 k4 k5 k6 k7 hf0 hf1 hw0 hw1 hz0 hz1
    by_cases hq : q = 0 ∨ q = 1
    · obtain ⟨O', hI, hR⟩ := joinI_both h (by omega) reb f' wt' x y
      have hp := iwJoin_spec f' wt' x y (o7.re [2])
      obtain ⟨J, hJ⟩ : ∃ J, joinI s f' wt' x y = J := ⟨_, rfl⟩
      rw [hJ] at hI hR hp
      clear hJ
      have d0 : (q == 0) = decide (q = 0) := by by_cases e : q = 0 <;> simp [e]
      rcases hq with rfl | rfl
      · go_wp2_with fail
        refine hp.mono ?_
        rintro e8 w8 ⟨rfl, o8, k8⟩
        have hr := hR P tb w8 _ (o8.re [3, 4])
        clear hp
        go_wp2_with fail
        refine hr.mono ?_
        rintro e9 w9 ⟨P', rfl, o9, k9⟩
        clear hr
        go_wp2
        go_ret
        exact act_end hI (by omega) (o9.re [3, 4, 2]) (K7.trans (k8.trans k9))
      · go_wp2_with fail
        refine hp.mono ?_
        rintro e8 w8 ⟨rfl, o8, k8⟩
        have hr := hR P tb w8 _ (o8.re [3, 4])
        clear hp
        go_wp2_with fail
        refine hr.mono ?_
        rintro e9 w9 ⟨P', rfl, o9, k9⟩
        clear hr
        go_wp2
        go_ret
        exact act_end hI (by omega) (o9.re [3, 4, 2]) (K7.trans (k8.trans k9))
    · by_cases hq2 : q = 2
      · obtain ⟨O', hI, hR⟩ := leaveI_both h (by omega) reb f'
        have hp := iwLeave_spec f' (by omega) h (o7.re [2])
        obtain ⟨J, hJ⟩ : ∃ J, leaveI s f' = J := ⟨_, rfl⟩
        rw [hJ] at hI hR hp
        clear hJ hq
        subst hq2
        go_wp2_with fail
        refine hp.mono ?_
        rintro e8 w8 ⟨rfl, o8, k8⟩
        have hr := hR P tb w8 _ (o8.re [3, 4])
        clear hp
        go_wp2_with fail
        refine hr.mono ?_
        rintro e9 w9 ⟨P', rfl, o9, k9⟩
        clear hr
        go_wp2
        go_ret
        exact act_end hI (by omega) (o9.re [3, 4, 2]) (K7.trans (k8.trans k9))
      · by_cases hq3 : q = 3
        · obtain ⟨O', hI, hR⟩ := setWI_both h (by omega) reb f' wt'
          have hfl := setWR_flows s.R f' wt'
          obtain ⟨pr, aB, cB, o8⟩ := IwT.iff.1 (o7.re [3])
          have hp := iwSetW_spec (b := b) (reb := reb) (s := s) f' wt' (o8.drew.re [5])
          obtain ⟨er, hE⟩ : ∃ er, (setWR s.R f' wt').1 = er := ⟨_, rfl⟩
          obtain ⟨S2, hS2⟩ : ∃ S2, (setWR s.R f' wt').2 = S2 := ⟨_, rfl⟩
          rw [hE, hS2] at hp hR
          rw [hS2] at hI hfl
          have HI := Lib.hid hI
          have HFL := Lib.hid hfl
          have p0 := o8.cell 0
          have pl := o8.celLt
          clear hq hq2 hE hS2 hI hfl
          subst hq3
          go_upto_region 17 with fail
          go_region_held3 (fun w' => w'.cell? ⟨tb, 0, none⟩ = some (.pointer (some ⟨pr, 0, none⟩))) (go_keep) (first
            | (go_at_call 75; (with_reducible refine hr.mono ?_); rintro e9 w9 ⟨P', hPE, rfl, o9, k9⟩; have p9 := (o9.up 3).cell 0)
            | (go_at_call 74; (with_reducible refine hp.mono ?_); rintro e8 w8 ⟨rfl, o8b, k8⟩; have p8 := (o8b.up 1).cell 0; have hr := hR P pr w8 _ (o8b.re [2, 6])))
          go_wp2
          go_ret
          have hlen : S2.L.length = s.R.L.length := by have := congrArg List.length HFL.out; rw [List.length_map, List.length_map] at this; exact this
          have hbd : bdS aB cB s.m s.R.L = bdS aB cB s.m S2.L := by unfold bdS; rw [flat_bd HFL.out fun _ _ => rfl, hlen]
          rw [hbd, ← hlen] at o9
          have oI : Own _ (IwT P' tb reb S2 O' s.m :: _) := IwT.iff.2 ⟨pr, aB, cB, o9.re [3, 0, 4]⟩
          exact act_end (s' := ⟨S2, s.m⟩) HI.out (by omega) (oI.re [3, 4, 2]) (K7.trans ((qcalm_drew (Calm.refl w7)).trans (k8.trans k9)))
        · by_cases hq4 : q = 4
          · obtain ⟨hI, hR⟩ := setBI_both h reb f' x y
            have hp := iwSetB_spec f' x y h (o7.re [2])
            obtain ⟨J, hJ⟩ : ∃ J, setBI s.m s.R.L f' x y = J := ⟨_, rfl⟩
            rw [hJ] at hI hR hp
            clear hJ hq hq2 hq3
            subst hq4
            go_wp2_with fail
            refine hp.mono ?_
            rintro e8 w8 ⟨rfl, o8, k8⟩
            have hr := hR P tb w8 _ (o8.re [3, 4])
            clear hp
            go_wp2_with fail
            refine hr.mono ?_
            rintro e9 w9 ⟨P', rfl, o9, k9⟩
            clear hr
            go_wp2
            go_ret
            exact act_end hI (by omega) (o9.re [3, 4, 2]) (K7.trans (k8.trans k9))
          · have d0 : (q == 0) = false := by simpa using (fun e => hq (.inl e))
            have d1 : (q == 1) = false := by simpa using (fun e => hq (.inr e))
            have d2 : (q == 2) = false := by simpa using hq2
            have d3 : (q == 3) = false := by simpa using hq3
            have d4 : (q == 4) = false := by simpa using hq4
            clear hq hq2 hq3 hq4
            have hlen := h.rel.ok.ok.len
            go_wp2_with fail
            refine (ids_spec h.rel.ok.ok (o7.re [3, 4])).mono ?_
            rintro e8 w8 ⟨ai, ci, rfl, o8, k8⟩
            have hFl : s.R.L.length = (s.R.L.map (·.f)).length := (List.length_map _).symm
            have hhd := heads_spec (W := W) (b := cb) (N := M + 4 + 2 + 2 + 1) (sz := 0) (.inl rfl) (intsAt_slc (T := 3) ai s.R.L.length ci (s.R.L.map (·.f)) hFl) (c := ci) hFl (by omega) (by omega) (o8.re [3, 4, 0])
            unfold HeadsPost at hhd
            rw [← hFl] at hhd
            have HFl := Lib.hid hFl
            clear o7 hFl
            go_wp2_with fail
            refine hhd.mono ?_
            rintro e9 w9 ⟨ah, ch, H, hH, rfl, o9, k9⟩
            clear hhd o8
            have hHl : H.length = s.R.L.length := by rw [HFl.out, ← hH.1, List.length_map]
            have o10 : Own w9 (slc 35 3 ah s.R.L.length ch (flat headC H) :: Ch W cb (M + 9 + 2 * s.R.L.length) :: old W :: IwR b reb s :: IwT P tb reb s.R O s.m :: P :: R) := (o9.re [3] 1).re [0, 1, 2, 5, 3, 4]
            have K9 := K7.trans (k8.trans k9)
            obtain ⟨n, hn⟩ : ∃ n, s.R.L.length = n := ⟨_, rfl⟩
            rw [hn] at o10 hlen hHl ⊢
            have HN := Lib.hid hn
            have HHL := Lib.hid hHl
            have HHD := Lib.hid hH
            clear o9 k8 k9 K7 hH hn hHl
            go_upto_region 21 with fail
            go_cut [123] (fun v wc => ∃ B : Bool, v = .bool B ∧ (B = true → 1 ≤ n) ∧ Own wc (slc 35 3 ah n ch (flat headC H) :: Ch W cb (M + 9 + 2 * n + 1) :: old W :: IwR b reb s :: IwT P tb reb s.R O s.m :: P :: R) ∧ Calm w wc)
            case first =>
              by_cases hn0 : n = 0
              · have dn : decide ((0 : Int) < (n : Int)) = false := decide_eq_false (by omega)
                have dn2 : ¬ 0 < n := by omega
                have HN0 := Lib.hid hn0
                clear hn0
                go_wp2
                go_meet
                exact ⟨false, rfl, (fun e => by cases e), (Ch.upto (o10.up 1) (by omega)).re [1], K9⟩
              · have dn : decide ((0 : Int) < (n : Int)) = true := decide_eq_true (by omega)
                have dn2 : 0 < n := by omega
                clear hn0
                go_wp2_with fail
                refine (next_spec W cb (M + 9 + 2 * n) 15 _ _ (by omega) (by omega) (by omega) (o10.re [1, 2])).mono ?_
                rintro e11 w11 ⟨v, hv0, hv1, rfl, o11, k11⟩
                go_wp2
                go_meet
                exact ⟨_, rfl, fun _ => dn2, o11.re [2], K9.trans k11⟩
            case rest =>
              clear o10 K9
              obtain ⟨B, rfl, hB, o11, K11⟩ := hcut
              go_upto_if 123 with fail
              go_cut [15] (fun v15 wc => HdCut W cb (M + 9 + 2 * n + 5) b tb reb s O P R w v15 wc)
              case first =>
                cases B with
                | false =>
                  go_wp2
                  go_meet
                  exact ⟨ah, n, ch, H, _, rfl, ⟨by omega, .inl ⟨HHL.out.symm, headsAt_slc (T := 35) ah n ch H HHL.out.symm⟩⟩, (Ch.upto (o11.up 1) (by omega)).re [1], K11⟩
                | true =>
                  have hn1 := hB rfl
                  clear hB
                  go_wp2_with fail
                  refine (next_spec W cb (M + 9 + 2 * n + 1) n _ _ (by omega) (by omega) (by omega) (o11.re [1, 2])).mono ?_
                  rintro e12 w12 ⟨i, hi0, hi1, rfl, o12, k12⟩
                  go_wp2_with fail
                  refine (next_spec W cb (M + 9 + 2 * n + 1 + 1) 2 _ _ (by omega) (by omega) (by omega) o12).mono ?_
                  rintro e13 w13 ⟨v, hv0, hv1, rfl, o13, k13⟩
                  have K13 := K11.trans (k12.trans k13)
                  obtain ⟨i, rfl⟩ : ∃ j : Nat, i = (j : Int) := ⟨i.toNat, by omega⟩
                  have hin : i < n := by omega
                  obtain ⟨g, rfl, _, hfz, hgl⟩ := (o13.up 2).slc_cell (by omega)
                  clear o11 o12 k12 k13 K11
                  by_cases hv : v = 0
                  · obtain ⟨x0, hx0⟩ : ∃ x, H[i]? = some x := ⟨_, List.getElem?_eq_getElem (by rw [HHL.out]; exact hin)⟩
                    have oA := o13.alloc (.cells #[.int .i64 0, .int .i64 4097] 3)
                    have HX0 := Lib.hid hx0
                    clear hx0 hfz hgl
                    subst hv
                    go_wp2_with fail
                    refine (next_spec W cb (M + 9 + 2 * n + 1 + 1 + 1) 2 _ _ (by omega) (by omega) (by omega) (oA.re [1, 2])).mono ?_
                    rintro e14 w14 ⟨y, hy0, hy1, rfl, o14, k14⟩
                    obtain ⟨j, rfl⟩ : ∃ j : Nat, y = (j : Int) := ⟨y.toNat, by omega⟩
                    have hj : j < 2 := by omega
                    obtain ⟨u, hu⟩ : ∃ u, ([0, 4097] : List Int)[j]? = some u := ⟨_, List.getElem?_eq_getElem hj⟩
                    have c := Own.cell (T := 3) (vs := ([0, 4097] : List Int).map (Value.int .i64)) (v := .int .i64 u) (o14.up 2) j (by rw [List.getElem?_map, hu]; rfl)
                    obtain ⟨g2, hg2, _, hfz, hgl⟩ := (o14.up 3).slc_cell (by omega)
                    cases hg2
                    have hz1 := hfz (i * 3 + 1)
                    have hst := flat_set headC_len H i 1 x0 ⟨x0.f, u, x0.good⟩ (.int .i64 u) HX0.out (by omega) rfl
                    have hcl : ∃ q, World.cell? w14 ⟨g, i * 3 + 1, none⟩ = some (.int .i64 q) := by
                      obtain ⟨g3, hg3, hc3, _, _⟩ := (o14.up 3).slc_cell (by omega)
                      cases hg3
                      exact ⟨x0.len, hc3 (i * 3 + 1) _ (flat_get headC_len H i 1 x0 HX0.out (by omega))⟩
                    obtain ⟨ql, hcl⟩ := hcl
                    have oB := (o14.up 3).slc_set (i * 3 + 1) (.int .i64 u) (by rw [flat_length headC_len, HHL.out]; omega)
                    rw [← hst] at oB
                    have hsl : (H.set i ⟨x0.f, u, x0.good⟩).length = n := by rw [List.length_set, HHL.out]
                    have HSL := Lib.hid hsl
                    have K14 := ((qcalm_alloc (x := .cells #[.int .i64 0, .int .i64 4097] 3) K13).trans k14)
                    clear hst hu hfz o13 o14 k14 K13 oA hsl
                    go_wp2
                    go_meet
                    exact ⟨some ⟨g, 0, none⟩, n, ch, _, _, rfl, ⟨by omega, .inl ⟨HSL.out.symm, headsAt_slc (T := 35) (some ⟨g, 0, none⟩) n ch _ HSL.out.symm⟩⟩, (Ch.upto ((oB.re [3] 1).up 1) (by omega)).re [1], qcalm_set K14⟩
                  · have dv : (v == 0) = false := by simpa using hv
                    clear hv hfz hgl
                    have hb1 : (1 : Int) ≤ (n : Int) := by omega
                    have hch : n ≤ ch := (o13.up 2).slc_len.2.1
                    have hb2 : (1 : Int) ≤ (ch : Int) := by omega
                    have hb3 : 1 ≤ ch := by omega
                    have hun : fitsH s.R.L (H.drop 1) = false := by
                      unfold fitsH
                      rw [Bool.and_eq_false_iff]
                      refine .inl (decide_eq_false fun e => ?_)
                      have := congrArg List.length e
                      rw [List.length_map, List.length_map, List.length_drop, HHL.out, HN.out] at this
                      omega
                    have hne : n - 1 ≠ s.R.L.length := by rw [HN.out]; omega
                    have HUN := Lib.hid hun
                    have HNE := Lib.hid hne
                    clear hun hne
                    by_cases hc1 : ch = 1
                    · subst hc1
                      have HNE2 := Lib.hid (show 0 ≠ s.R.L.length by rw [HN.out]; omega)
                      go_wp2
                      go_meet
                      exact ⟨_, _, _, H.drop 1, _, rfl, ⟨by omega, .inr ⟨by first | exact HNE2.out | exact HNE.out, HUN.out⟩⟩, (Ch.upto o13 (by omega)).re [2], K13⟩
                    · have dc : ((1 : Int) == (ch : Int)) = false := by rw [beq_eq_false_iff_ne]; omega
                      have dc2 : ¬ ch = 1 := hc1
                      have dc3 : ¬ 1 = ch := fun e => hc1 e.symm
                      go_wp2
                      go_meet
                      exact ⟨_, _, _, H.drop 1, _, rfl, ⟨by omega, .inr ⟨HNE.out, HUN.out⟩⟩, (Ch.upto o13 (by omega)).re [2], K13⟩
              case rest =>
                clear o11 K11 hB
                obtain ⟨a, k, c, H2, Sp, rfl, hHd, o12, K12⟩ := hcut
                have hp := stepP_both (b := b) (reb := reb) (c := c) h hN hHd (o12.re [3, 0])
                have hR := stepR_both (c := c) h hN reb hHd
                obtain ⟨RS, hRS⟩ : ∃ RS, stepI reb s H2 = RS := ⟨_, rfl⟩
                rw [hRS] at hp hR
                obtain ⟨⟨C1, C2, C3⟩, er, s2⟩ := RS
                unfold chV at hp hR
                dsimp only at hp hR
                have HR := Lib.hid hR
                clear hR hRS
                go_wp2_with fail
                refine hp.mono ?_
                rintro e13 w13 ⟨rfl, o13, k13⟩
                have oA := o13.alloc (.cells #[.int .i64 C1, .int .i64 C2, .int .i64 C3] 38)
                have hr := HR.out P tb _ _ (oA.re [5, 6, 2])
                clear hp o12
                go_wp2_with fail
                refine hr.mono ?_
                rintro e14 w14 ⟨P', O', hI, rfl, o14, k14⟩
                have HI := Lib.hid hI
                clear hr hI oA
                have a0 := Own.cell (T := 38) (vs := [.int .i64 C1, .int .i64 C2, .int .i64 C3]) (o14.up 3) 0
                have a1 := Own.cell (T := 38) (vs := [.int .i64 C1, .int .i64 C2, .int .i64 C3]) (o14.up 3) 1
                have a2 := Own.cell (T := 38) (vs := [.int .i64 C1, .int .i64 C2, .int .i64 C3]) (o14.up 3) 2
                have al := Own.celLt (T := 38) (vs := [.int .i64 C1, .int .i64 C2, .int .i64 C3]) (o14.up 3)
                have oB := o14.alloc (.cells #[.int .i64 C1, .int .i64 C2, .int .i64 C3] 38)
                go_wp2
                go_ret
                exact act_end HI.out (by omega) ((oB.re [0, 3, 4] 3).re [3, 4, 2, 0, 1]) (qcalm_alloc ((qcalm_alloc (K12.trans k13)).trans k14))
end
end Go.Proofs.YtkmlkpfabkhleaaGreat

/- IwfqStrict, walked. -/
namespace Go.Proofs.YtkmlkpfabkhleaaGreat
open Go.RowKit
open SP
section
variable {W w w' : World} {R : List SP} {b cb : Nat}

theorem idJ_get {n k : Nat} (h : k < n) : (idJ n)[k]? = some (k : Int) := by
  unfold idJ
  rw [List.getElem?_map, List.getElem?_range h]; rfl
theorem below_ofI {l : List SP} (o : Own w' (old w :: l)) (k : Calm w w') : Below w.heap.size w w' := o.below k
def SjRel (W : World) (b cb : Nat) (a1 : Option Addr) (c1 : Nat) (w : World) (v : Value) (wr : World) : Prop :=
  ∃ (k : Nat) (s : Iw), v = .int .i64 (k : Int) ∧ k ≤ 4 ∧ IwInv 0 s ∧ (∀ f, accO s.m f = (0, 0, 0)) ∧ s.R.L.map (·.f) = idJ k ∧
    Own wr (IwR b 1099511627776 s :: slc 3 1 a1 4 c1 ((idJ 4).map (Value.int .i64)) :: Ch W cb (0 + k) :: old W :: []) ∧ Calm w wr
def SsRel (W : World) (b cb : Nat) (a1 : Option Addr) (c1 : Nat) (w : World) (v : Value) (wr : World) : Prop :=
  ∃ (k : Nat) (s : Iw), v = .int .i64 (k : Int) ∧ k ≤ 40 ∧ IwInv k s ∧ (∀ f, accO s.m f = (0, 0, 0)) ∧ s.R.L.map (·.f) = idJ 4 ∧
    Own wr (IwR b 1099511627776 s :: slc 3 1 a1 4 c1 ((idJ 4).map (Value.int .i64)) :: Ch W cb (0 + 4 + 8 * k) :: old W :: []) ∧ Calm w wr
def anyG (H : List Head) : Bool := H.any (·.good)
def SmRel (n : Nat) (H : List Head) (w : World) (P : List SP) (W : World) (v10 v11 : Value) (wr : World) : Prop :=
  ∃ q : Nat, v10 = .bool (anyG (H.take q)) ∧ v11 = .int .i64 (q : Int) ∧ q ≤ n ∧ Own wr P ∧ Calm W wr

end
end Go.Proofs.YtkmlkpfabkhleaaGreat
