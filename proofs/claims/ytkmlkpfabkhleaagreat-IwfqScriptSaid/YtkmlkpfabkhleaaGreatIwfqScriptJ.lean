/- Texts that the law rests on, put together by a program. -/
import Derived.Test.YtkmlkpfabkhleaaGreatIwfqScriptI
/- Shares with caps: ref1.Fill. -/
namespace Go.Proofs.YtkmlkpfabkhleaaGreat
open Go.RowKit
open SP
section
variable {w w' : World} {R : List SP}
set_option maxHeartbeats 6400000 in
set_option maxRecDepth 100000 in
theorem refFill_spec {a : Int} {l : List (Int × Int)} {cs : List Int} {ap ac : Option Addr} {n pc cc : Nat} (ha0 : 0 ≤ a) (ha1 : a ≤ 1099511627776) (hok : PtOk l) (hn : n = l.length) (hc : n = cs.length) (hcs : ∀ i, 0 ≤ cs.getD i 0 ∧ cs.getD i 0 ≤ 2199023255552)
    (o : Own w (PsS ap n pc l :: IsS ac n cc cs :: R)) :
    Calls Tryz.prog 122 #[.int .i64 a, .slice ap n pc, .slice ac n cc] w (FilPost a (l.map (·.2)) cs n (PsS ap n pc l :: IsS ac n cc cs :: R) w) := by
  have hv := refValidParts_spec (c := pc) (partsAt_slc ap n pc l hn) hok hn o
  have hl := hok.len
  have hn2 : n ≤ 32 := by omega
  have hmk := makeI_run n (by omega)
  have hws : ∀ i, i < cs.length → 1 ≤ (l.map (·.2)).getD i 0 := fun i hi => pt_ws hok (by omega)
  obtain ⟨ws, hwse⟩ : ∃ ws, l.map (·.2) = ws := ⟨_, rfl⟩
  have hPW := fun I => pik_pws l I
  rw [hwse] at hws ⊢
  simp only [hwse] at hPW
  have HWS := Lib.hid hws
  have HPW := Lib.hid hPW
  have HN := Lib.hid hn
  have HC := Lib.hid hc
  have HOK := Lib.hid hok
  have HCS := Lib.hid hcs
  have hd0 : decide (a < 0) = false := decide_eq_false (by omega)
  have hz : FilOk cs (List.replicate n 0) := by rw [hc]; exact FilOk.zeros fun i => (hcs i).1
  have HZ := Lib.hid hz
  have HF := Lib.hid (show fillI a ws cs = filF cs ws (List.replicate n 0, a) from by rw [hc]; rfl)
  obtain ⟨PP, hPP⟩ : ∃ PP, PsS ap n pc l :: IsS ac n cc cs :: R = PP := ⟨_, rfl⟩
  have HPP := Lib.hid hPP
  clear hn hc hok hcs hws hPW hwse hl hz hPP
  go_enter Tryz.func122, Tryz.ntmps122
  go_wp2_with fail
  refine hv.mono ?_
  rintro e1 w1 ⟨rfl, o1, k1⟩
  clear hv
  go_wp2
  go_loopw [9] (fun v wr => F0Rel (PsS ap n pc l :: IsS ac n cc cs :: R) n w v wr) (fun v _ => n - (ivOf v).toNat)
  case atStart => exact ⟨0, rfl, Nat.zero_le _, o1, k1⟩
  case round =>
    clear o1 k1 o
    obtain ⟨i, rfl, hi, oR, kR⟩ := hrel
    by_cases hlt : i < n
    · obtain ⟨c, hcc⟩ : ∃ c, cs[i]? = some c := ⟨_, List.getElem?_eq_getElem (by have := HC.out; omega)⟩
      obtain ⟨gc, rfl, hcel, _, _⟩ := (oR.up 1).slc_cell (by omega)
      have d0 := hcel i _ (i64s_get hcc)
      have hb := HCS.out i
      rw [getD_at hcc] at hb
      have f1 : decide (c < 0) = false := decide_eq_false (by omega)
      have f2 : decide (2199023255552 < c) = false := decide_eq_false (by omega)
      clear hcel hcc
      go_wp2
      go_roundw
      case rel => exact ⟨i + 1, by go_num, by omega, oR, kR⟩
      case measure => simp [ivOf]; omega
    · have hin : i = n := by omega
      subst hin
      have oZ := oR.alloc (.cells (List.replicate i (Value.int .i64 0)).toArray 2)
      have oZ2 : Own (wr.alloc (.cells (List.replicate i (Value.int .i64 0)).toArray 2)) (cel wr.heap.size 2 (i64s (List.replicate i 0)) :: PsS ap i pc l :: IsS ac i cc cs :: R) := by rw [i64s_zeros]; exact oZ
      have kZ : Calm w (wr.alloc (.cells (List.replicate i (Value.int .i64 0)).toArray 2)) := ⟨kR.os, kR.tape, kR.output⟩
      go_wp2
      obtain ⟨g, hg⟩ : ∃ g, wr.heap.size = g := ⟨_, rfl⟩
      rw [hg] at oZ2 ⊢
      clear hg oZ oR
      go_loopw [11] (fun v wr => FoRel (PsS ap i pc l :: IsS ac i cc cs :: R) g cs ws a (fillI a ws cs) w v wr) (fun v _ => (ivOf v).toNat)
      case atStart => exact ⟨List.replicate i 0, a, rfl, HZ.out, ha0, Int.le_refl _, HF.out.symm, oZ2, kZ⟩
      case round =>
        clear oZ2 kZ kR hmk
        obtain ⟨gs, rest, rfl, hfo, hr0, hr1, hfin, oQ, kQ⟩ := hrel
        have HFO := Lib.hid hfo
        have HFI := Lib.hid hfin
        clear hfo hfin
        by_cases hpos : 0 < rest
        · have hpd : decide (0 < rest) = true := decide_eq_true hpos
          have hT : F1Rel (cel g 2 (i64s gs) :: PsS ap i pc l :: IsS ac i cc cs :: R) i l cs gs w (.slice none 0 0) (.slice none 0 0) (.int .i64 0) wr := ⟨0, 0, none, none, 0, 0, rfl, Nat.zero_le _, rfl, rfl, rfl, Own.slc_nil (Own.slc_nil oQ), kQ⟩
          clear oQ kQ
          go_wp2
          go_loopw [12, 13, 14] (fun v12 v13 v55 wr => F1Rel (cel g 2 (i64s gs) :: PsS ap i pc l :: IsS ac i cc cs :: R) i l cs gs w v12 v13 v55 wr) (fun _ _ v _ => i - (ivOf v).toNat)
          case atStart => exact hT
          case round =>
            clear hT
            obtain ⟨j, k, a12, a13, c12, c13, rfl, hj, rfl, rfl, hk, oS, kS⟩ := hrel
            have hkj := opI_len cs gs j
            have HK := Lib.hid hk
            by_cases hlt2 : j < i
            · obtain ⟨p, hp⟩ : ∃ p, l[j]? = some p := ⟨_, List.getElem?_eq_getElem (by have := HN.out; omega)⟩
              obtain ⟨c, hcc⟩ : ∃ c, cs[j]? = some c := ⟨_, List.getElem?_eq_getElem (by have := HC.out; omega)⟩
              obtain ⟨y, hy⟩ : ∃ y, gs[j]? = some y := ⟨_, List.getElem?_eq_getElem (by have := HFO.out.len; have := HC.out; omega)⟩
              obtain ⟨gp, rfl, q0, q1⟩ := part_cells (oS.up 3) hp (by omega)
              obtain ⟨gc, rfl, hcel, _, _⟩ := (oS.up 4).slc_cell (by omega)
              have d0 := hcel j _ (i64s_get hcc)
              have e0 := (oS.up 2).cell j (i64s_get hy)
              have hk32 : k ≤ 32 := by omega
              have hgc : (gs.getD j 0 < cs.getD j 0) = (y < c) := by rw [getD_at hy, getD_at hcc]
              have HP := Lib.hid hp
              by_cases hyc : y < c
              · have hop := hgc.mpr hyc
                have HF1 := Lib.hid (pik_succ l cs gs j hp hop)
                have HF2 := Lib.hid (natV_succ cs gs j hop)
                have HF3 := Lib.hid (opI_lenS cs gs j hop)
                have hyd : decide (y < c) = true := decide_eq_true hyc
                clear hop hgc hcel hcc hy hk hp
                obtain ⟨p0, p1⟩ := p
                dsimp only at q0 q1 HF1
                have oPn : ∀ q, Own ((wr.drewN q).alloc (.cells #[.int .i64 p0, .int .i64 p1] 162)) (cel wr.heap.size 162 [.int .i64 p0, .int .i64 p1] :: slc 162 2 a12 k c12 (flat part (pik l (opI cs gs j))) :: slc 3 1 a13 k c13 (natV (opI cs gs j)) :: cel g 2 (i64s gs) :: PsS (some ⟨gp, 0, none⟩) i pc l :: IsS (some ⟨gc, 0, none⟩) i cc cs :: R) := fun q => (oS.drewN q).alloc (.cells #[.int .i64 p0, .int .i64 p1] 162)
                go_wp2
                go_quiet (fail)
                go_wp2_with (at_builtin; refine wpList_append_slc rfl _ _ rfl Tryz.partT rfl ((oPn _).up 1) ⟨wr.heap.size, 0, none⟩ 1 1 [.int .i64 p0, .int .i64 p1] rfl rfl (Own.news (T := 162) (vs := [.int .i64 p0, .int .i64 p1]) (oPn _)) (by intro u hu; simp at hu; rcases hu with rfl | rfl <;> rfl) (by unfold maxLen; omega) (by omega) ?k2)
                case k2 =>
                intro a5 c5 w5 o5 k5
                have oP5 := o5.alloc (.cells #[.int .i64 (j : Int)] 3)
                go_wp2_with (at_builtin; refine wpList_append_slc rfl _ _ rfl Tryz.intFi rfl (oP5.up 3) ⟨w5.heap.size, 0, none⟩ 1 1 [.int .i64 (j : Int)] rfl rfl (Own.news (T := 3) (vs := [.int .i64 (j : Int)]) oP5) (by intro u hu; simp at hu; rcases hu with rfl; rfl) (by unfold maxLen; omega) (by omega) ?k3)
                case k3 =>
                intro a7 c7 w7 o7 k7
                go_wp2
                go_roundw
                case rel => exact ⟨j + 1, k + 1, a5, a7, c5, c7, by go_num, by omega, rfl, rfl, by rw [HF3.out, ← HK.out], by rw [HF1.out, HF2.out]; exact (o7.re [1, 3] 2).re [1, 0], kS.trans (Calm.trans ⟨k5.al.os, k5.al.tape, k5.al.output⟩ k7.al)⟩
                case measure => simp [ivOf]; omega
              · have hop := fun h => hyc (hgc.mp h)
                have HF1 := Lib.hid (opI_same cs gs j hop)
                have hyd : decide (y < c) = false := decide_eq_false hyc
                clear hop hgc hcel hcc hy hk hp
                obtain ⟨p0, p1⟩ := p
                dsimp only at q0 q1
                go_wp2
                go_quiet (fail)
                go_wp2
                go_roundw
                case rel => exact ⟨j + 1, k, a12, a13, c12, c13, by go_num, by omega, rfl, rfl, by rw [HF1.out, ← HK.out], by rw [HF1.out]; exact oS.drewN _, kS.trans ⟨rfl, rfl, rfl⟩⟩
                case measure => simp [ivOf]; omega
            · have hji : i = j := by omega
              subst hji
              have HCn := Lib.hid HC.out
              have hIlt : ∀ q ∈ opI cs gs i, q < i := fun q hq => (opI_mem hq).1
              have HI := Lib.hid (show opI cs gs cs.length = opI cs gs i by rw [← HC.out])
              have HIL := Lib.hid hIlt
              have HIA := Lib.hid (opI_asc cs gs i)
              obtain ⟨I, hIe⟩ : ∃ I, opI cs gs i = I := ⟨_, rfl⟩
              rw [hIe] at oS hk hkj HI HIL HIA HK
              have HIe := Lib.hid hIe
              clear hIe hIlt
              by_cases hk0 : k = 0
              · have hI0 : I = [] := List.eq_nil_of_length_eq_zero (by omega)
                have HEN := Lib.hid (filF_end (ws := ws) (s := (gs, rest)) (.inr (by show opI cs gs cs.length = []; rw [HI.out, hI0])))
                have HGL := Lib.hid HFO.out.len
                subst hk0
                clear hk hkj hI0
                go_wp2
                go_ret3
                have hF2 : fillI a ws cs = (gs, rest) := HFI.out.symm.trans HEN.out
                refine ⟨some ⟨g, 0, none⟩, i, ?_, ?_, kS⟩
                · rw [hF2]; rfl
                · rw [hF2]; exact fil_end (by rw [HGL.out, HC.out]) hn2 oS.drop.drop
              · have hkk : ((k : Int) == 0) = false := by simpa using hk0
                have hptI : PtOk (pik l I) := pik_ok HOK.out HIA.out (fun q hq => by have := HIL.out q hq; have := HN.out; omega) (by omega)
                have hsp := refSplit_spec (w := wr) (c := c12) rest (by unfold ab; omega) (partsAt_slc a12 k c12 (pik l I) (hk.trans (pik_len l I).symm)) hptI (hk.trans (pik_len l I).symm) oS
                have hplen : (pik l I).length = k := by rw [pik_len]; exact hk.symm
                have hsI : I ≠ [] := fun e => hk0 (by rw [hk, e]; rfl)
                have hp0 : pik l I ≠ [] := fun e => hsI (List.eq_nil_of_length_eq_zero (by rw [← pik_len l I, e]; rfl))
                have hX : lagSplit rest (pws (pik l I)) = lagSplit rest (I.map fun j => ws.getD j 0) := by rw [HPW.out]
                have hXl : (lagSplit rest (I.map fun j => ws.getD j 0)).length = k := by rw [lagSplit_len, List.length_map]; exact hk.symm
                have hround := filF_round (s := (gs, rest)) HFO.out HWS.out hpos (by show opI cs gs cs.length ≠ []; rw [HI.out]; exact hsI)
                have hrok := filR_ok (s := (gs, rest)) HFO.out HWS.out hpos (by show opI cs gs cs.length ≠ []; rw [HI.out]; exact hsI)
                have hzok := fun k => filZ_ok (s := (gs, rest)) HFO.out HWS.out hpos k
                have hXn : ∀ x ∈ lagSplit rest (I.map fun j => ws.getD j 0), 0 ≤ x := lagSplit_nonneg (by omega) fun x hx => by
                  obtain ⟨j, hj, rfl⟩ := List.mem_map.1 hx
                  exact HWS.out j (by have := HIL.out j hj; have := HC.out; omega)
                have hXs : ∀ x ∈ lagSplit rest (I.map fun j => ws.getD j 0), x ≤ rest := fun x hx => by
                  have h1 := mem_le_sumI hXn hx
                  rw [lagSplit_sum rest (by simpa using hsI)] at h1
                  exact h1
                unfold filR at hround hrok
                dsimp only at hround hrok hzok
                rw [HI.out] at hround hrok hzok
                unfold ShPost at hsp
                rw [hX, hplen, if_neg hp0] at hsp
                obtain ⟨X, hXe⟩ : ∃ X, lagSplit rest (I.map fun j => ws.getD j 0) = X := ⟨_, rfl⟩
                rw [hXe] at hround hrok hzok hXl hXn hXs hsp
                have HRD := Lib.hid hround
                have HRO := Lib.hid hrok
                have HZO := Lib.hid hzok
                have HXL := Lib.hid hXl
                have HXN := Lib.hid hXn
                have HXS := Lib.hid hXs
                clear hX hXe hround hrok hzok hXl hXn hXs hp0 hsI hplen hptI
                have hkI := Lib.hid hk
                have hk32 : k ≤ 32 := by omega
                clear hk hkj
                go_wp2_with fail
                refine hsp.mono ?_
                rintro e3 w3 ⟨g2, cg, rfl, o3, k3⟩
                clear hsp oS
                have hT : F2Rel (slc 2 1 g2 k cg (i64s X) :: slc 3 1 a13 k c13 (natV I) :: PsS ap i pc l :: IsS ac i cc cs :: R) g cs I X (gs, rest) w (.int .i64 rest) (.int .i64 0) w3 := ⟨0, rfl, Nat.zero_le _, rfl, (o3.re [1] 1).re [2, 0, 1], kS.trans k3⟩
                clear o3 k3 kS
                go_wp2
                go_loopw [11, 17] (fun v0 v89 wr => F2Rel (slc 2 1 g2 k cg (i64s X) :: slc 3 1 a13 k c13 (natV I) :: PsS ap i pc l :: IsS ac i cc cs :: R) g cs I X (gs, rest) w v0 v89 wr) (fun _ v _ => k - (ivOf v).toNat)
                case atStart => exact hT
                case round =>
                  clear hT
                  obtain ⟨q, rfl, hq, rfl, oT, kT⟩ := hrel
                  by_cases hlt3 : q < k
                  · obtain ⟨j, hj⟩ : ∃ j, I[q]? = some j := ⟨_, List.getElem?_eq_getElem (by have := hkI.out; omega)⟩
                    obtain ⟨x, hx⟩ : ∃ x, X[q]? = some x := ⟨_, List.getElem?_eq_getElem (by have := HXL.out; omega)⟩
                    have hji := HIL.out j (List.mem_of_getElem? hj)
                    have hx0 := HXN.out x (List.mem_of_getElem? hx)
                    have hx1 := HXS.out x (List.mem_of_getElem? hx)
                    have hzq := HZO.out q
                    have hst := fil_take (cs := cs) (s := (gs, rest)) hj hx
                    obtain ⟨S, hS⟩ : ∃ S, ((I.zip X).take q).foldl (fil1 cs) (gs, rest) = S := ⟨_, rfl⟩
                    rw [hS] at hzq hst oT ⊢
                    clear hS
                    obtain ⟨G, t⟩ := S
                    dsimp only at hzq oT ⊢
                    obtain ⟨z1, z2, z3, z4⟩ := hzq
                    have hGl := z1.len
                    have hGr := z1.rng j
                    obtain ⟨y, hy⟩ : ∃ y, G[j]? = some y := ⟨_, List.getElem?_eq_getElem (by have := HC.out; omega)⟩
                    obtain ⟨c, hcc⟩ : ∃ c, cs[j]? = some c := ⟨_, List.getElem?_eq_getElem (by have := HC.out; omega)⟩
                    have hf1 : fil1 cs (G, t) (j, x) = (G.set j (y + min x (c - y)), t - min x (c - y)) := by
                      unfold fil1
                      dsimp only
                      rw [getD_at hy, getD_at hcc]
                    rw [hf1] at hst
                    rw [getD_at hy, getD_at hcc] at hGr
                    have hcb := HCS.out j
                    rw [getD_at hcc] at hcb
                    have wa := IntWalk.i64_in (c - y) (by omega)
                    have hm1 : min x (c - y) ≤ x := Int.min_le_left _ _
                    have hm2 : min x (c - y) ≤ c - y := Int.min_le_right _ _
                    have hm3 : 0 ≤ min x (c - y) := by rw [Int.le_min]; omega
                    obtain ⟨v, hv⟩ : ∃ v, min x (c - y) = v := ⟨_, rfl⟩
                    rw [hv] at hst hm1 hm2 hm3
                    have hv2 : (if c - y < x then c - y else x) = v := by rw [← hv]; split <;> omega
                    have wb := IntWalk.i64_in (y + v) (by omega)
                    have wc := IntWalk.i64_in (t - v) (by omega)
                    obtain ⟨gx, rfl, hcx, _, _⟩ := (oT.up 1).slc_cell (by omega)
                    have d0 := hcx q _ (i64s_get hx)
                    obtain ⟨gi, rfl, hci, _, _⟩ := (oT.up 2).slc_cell (by omega)
                    have d1 := hci q _ (natV_get hj)
                    obtain ⟨gc, rfl, hcc2, _, _⟩ := (oT.up 4).slc_cell (by omega)
                    have d2 := hcc2 j _ (i64s_get hcc)
                    have d3 := oT.cell j (i64s_get hy)
                    have df := oT.frozen
                    have dl := oT.celLt
                    have oU := oT.setCell j (.int .i64 (y + v))
                    rw [← i64s_set] at oU
                    have HST := Lib.hid hst
                    clear hst hcx hci hcc2 hx hj hy hcc hGr z1 z2 hcb hGl
                    clear hm1 hm2 hm3 hx0 hx1 z3 z4 hf1
                    go_wp2
                    go_quiet (fail)
                    go_wp2
                    go_roundw
                    case rel => exact ⟨q + 1, by go_num, by have := hkI.out; omega, by rw [HST.out], by rw [HST.out]; exact oU.drewN _, kT.trans ⟨rfl, rfl, rfl⟩⟩
                    case measure => simp [ivOf]; omega
                  · have hqk : q = I.length := by have := hkI.out; omega
                    have hro := HRO.out
                    have hrd := HRD.out
                    rw [List.take_of_length_le (by rw [List.length_zip]; omega)] at oT ⊢
                    have hfi := HFI.out
                    rw [hrd] at hfi
                    obtain ⟨S, hS⟩ : ∃ S, (I.zip X).foldl (fil1 cs) (gs, rest) = S := ⟨_, rfl⟩
                    rw [hS] at hro hfi oT ⊢
                    obtain ⟨G, t⟩ := S
                    dsimp only at hro hfi oT ⊢
                    obtain ⟨z1, z2, z3, z4⟩ := hro
                    clear hrd hS
                    have HFI2 := Lib.hid hfi
                    have HZ1 := Lib.hid z1
                    clear hfi z1 z2
                    go_wp2
                    go_roundw
                    case rel => exact ⟨G, t, rfl, HZ1.out, z4, by omega, HFI2.out, (oT.re [1, 2] 2), kT⟩
                    case measure => simp [ivOf]; omega
        · have hr : rest = 0 := by omega
          have HEN := Lib.hid (filF_end (cs := cs) (ws := ws) (s := (gs, rest)) (.inl (by show rest ≤ 0; omega)))
          have HGL := Lib.hid HFO.out.len
          have hpd : decide (0 < rest) = false := decide_eq_false hpos
          clear hr
          go_wp2
          go_ret3
          have hF2 : fillI a ws cs = (gs, rest) := HFI.out.symm.trans HEN.out
          refine ⟨some ⟨g, 0, none⟩, i, ?_, ?_, kQ⟩
          · rw [hF2]; rfl
          · rw [hF2]; exact fil_end (by rw [HGL.out, HC.out]) hn2 oQ
end
end Go.Proofs.YtkmlkpfabkhleaaGreat
