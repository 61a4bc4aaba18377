/- The reference's table: Find, Flows. -/
import Derived.Test.YtladamlfbdbdgaaDoorFlG
namespace Go.Proofs.YtladamlfbdbdgaaDoor
open Go.RowKit
open SP
section
variable {W w w' : World} {R : List SP} {r : Nat} {T : Tab}

theorem findG_step {S : List Sta} {i : Nat} {s : Sta} {q : List Nat} (h : S[i]? = some s) : findG (S.drop i) q = if foldR s.nm.data.toList = q then some s.id else findG (S.drop (i + 1)) q := by
  obtain ⟨h1, h2⟩ := List.getElem?_eq_some_iff.1 h
  rw [List.drop_eq_getElem_cons h1, h2]; rfl
def FindRel (r : Nat) (T : Tab) (q : List Nat) (R : List SP) (w : World) (v : Value) (wr : World) : Prop :=
  ∃ i : Nat, v = .int .i64 (i : Int) ∧ i ≤ T.S.length ∧ findG T.S q = findG (T.S.drop i) q ∧ Own wr (FlowR r T :: R) ∧ Calm w wr
set_option maxHeartbeats 3200000 in
set_option maxRecDepth 100000 in
theorem findR_spec (n : ByteArray) (hT : T.Ok) (hs : n.size ≤ 2000000) (o : Own w (FlowR r T :: R)) :
    Calls Tryd.prog 37 #[.pointer (some ⟨r, 0, none⟩), .string n] w (Ret (findV (findT T.S n)) (FlowR r T :: R) w) := by
  have hsl := hT.sl
  have HS := Lib.hid hT.sid
  have HNM := Lib.hid hT.snm
  unfold findT
  by_cases hn : nameB n.data.toList = true
  · rw [if_pos hn]
    obtain ⟨X, hX⟩ : ∃ X, findG T.S (foldR n.data.toList) = X := ⟨_, rfl⟩
    rw [hX]
    have HX := Lib.hid hX
    have HN := Lib.hid hn
    clear hX hn
    go_enter Tryd.func37, Tryd.ntmps37
    go_wp2
    go_loopw [6] (fun v wr => FindRel r T (foldR n.data.toList) R w v wr) (fun v _ => T.S.length - (intOf v).toNat)
    case atStart => exact ⟨0, rfl, by omega, rfl, o, Calm.refl w⟩
    case round =>
      obtain ⟨i, rfl, hi, hfd, oR, kR⟩ := hrel
      have HF := Lib.hid hfd
      clear hfd
      obtain ⟨sa, sc, fa, fc, ga, gc, o1⟩ := FlowR.iff.1 oR
      have c2 := o1.cell 2
      by_cases hil : i < T.S.length
      · have hvn := validName_spec n hs oR
        rw [HN.out] at hvn
        go_wp2_with fail
        refine hvn.mono ?_
        rintro e1 w1 ⟨rfl, o2, k2⟩
        clear hvn
        obtain ⟨s, hsi⟩ : ∃ s, T.S[i]? = some s := ⟨_, List.getElem?_eq_getElem hil⟩
        obtain ⟨sa2, sc2, fa2, fc2, ga2, gc2, o3⟩ := FlowR.iff.1 o2
        have d2 := o3.cell 2
        obtain ⟨g, rfl, hc, _, _⟩ := (o3.up 1).slc_cell (by omega)
        have d := hc (i * 4 + 1) (.string s.nm) (by rw [flat_get staC_len T.S i 1 s hsi (by omega)]; rfl)
        clear hc
        have hsn := HNM.out s (List.mem_of_getElem? hsi)
        have hsz : s.nm.size ≤ 2000000 := by
          unfold nameB at hsn
          rw [Bool.and_eq_true, Bool.and_eq_true] at hsn
          have := of_decide_eq_true hsn.2
          have hl : s.nm.data.toList.length = s.nm.size := (Lib.size_eq s.nm).symm
          omega
        have hcmp := compareR_spec s.nm n hsz hs o2
        have hcs : cmpS s.nm n = cmpN (foldR s.nm.data.toList) (foldR n.data.toList) := by unfold cmpS; rw [if_pos hsn, if_pos HN.out]
        have hst := findG_step (q := foldR n.data.toList) hsi
        have HST := Lib.hid hst
        clear hst hsn
        by_cases heq : foldR s.nm.data.toList = foldR n.data.toList
        · rw [hcs, (cmpN_eq _ _).2 heq] at hcmp
          have hval : findV X = .tuple #[.int .i64 (i : Int), .bool true] := by
            rw [← HX.out, HF.out, HST.out, if_pos heq, HS.out i s hsi]; rfl
          have HV := Lib.hid hval
          clear hcs heq hval
          go_wp2_with fail
          refine hcmp.mono ?_
          rintro e4 w4 ⟨rfl, o4, k4⟩
          clear hcmp
          go_wp2
          go_ret2
          exact ⟨congrArg Ending.returned HV.out.symm, o4, kR.trans (k2.trans k4)⟩
        · have hne : cmpN (foldR s.nm.data.toList) (foldR n.data.toList) ≠ 0 := fun h => heq ((cmpN_eq _ _).1 h)
          rw [hcs] at hcmp
          obtain ⟨z, hz⟩ : ∃ z, cmpN (foldR s.nm.data.toList) (foldR n.data.toList) = z := ⟨_, rfl⟩
          rw [hz] at hcmp hne
          have hz0 : (z == 0) = false := by simpa using hne
          have hnx : findG T.S (foldR n.data.toList) = findG (T.S.drop (i + 1)) (foldR n.data.toList) := by rw [HF.out, HST.out, if_neg heq]
          have HNX := Lib.hid hnx
          clear hcs heq hne hz hnx
          go_wp2_with fail
          refine hcmp.mono ?_
          rintro e4 w4 ⟨rfl, o4, k4⟩
          clear hcmp
          go_wp2
          go_roundw
          case rel => exact ⟨i + 1, by go_num, by omega, HNX.out, o4, kR.trans (k2.trans k4)⟩
          case measure => simp [intOf]; omega
      · have hval : findV X = .tuple #[.int .i64 0, .bool false] := by
          rw [← HX.out, HF.out, List.drop_eq_nil_of_le (by omega)]; rfl
        have HV := Lib.hid hval
        clear hval
        go_wp2
        go_ret2
        exact ⟨congrArg Ending.returned HV.out.symm, oR, kR⟩
  · rw [if_neg hn]
    have hn' : nameB n.data.toList = false := by simpa using hn
    have HN := Lib.hid hn'
    clear hn hn'
    obtain ⟨sa, sc, fa, fc, ga, gc, o1⟩ := FlowR.iff.1 o
    have c2 := o1.cell 2
    by_cases h0 : 0 < T.S.length
    · have hvn := validName_spec n hs o
      rw [HN.out] at hvn
      have hI : (0 : Int) < (T.S.length : Int) := by omega
      go_enter Tryd.func37, Tryd.ntmps37
      go_wp2
      refine wp_loop_rounds 1 ?_
      rw [rounds_succ]
      go_wp2_with fail
      refine hvn.mono ?_
      rintro e1 w1 ⟨rfl, o2, k2⟩
      clear hvn
      go_wp2
      go_ret2
      exact ⟨rfl, o2, k2⟩
    · have hz : T.S.length = 0 := by omega
      rw [hz] at c2
      clear hz h0
      go_enter Tryd.func37, Tryd.ntmps37
      go_wp2
      refine wp_loop_rounds 1 ?_
      rw [rounds_succ]
      go_wp2
      go_ret2
      exact ⟨rfl, o, Calm.refl w⟩

def FlrRel (r : Nat) (T : Tab) (R : List SP) (w : World) (v3 v4 : Value) (wr : World) : Prop :=
  ∃ (i n c : Nat) (a : Option Addr), v3 = .slice a n c ∧ v4 = .int .i64 (i : Int) ∧ i ≤ T.F.length ∧ n = (liveF (T.F.take i)).length ∧
    Own wr (slc 67 7 a n c (flat floC (liveF (T.F.take i))) :: FlowR r T :: R) ∧ Calm w wr
set_option maxHeartbeats 3200000 in
set_option maxRecDepth 100000 in
theorem flowsR_spec (hT : T.Ok) (o : Own w (FlowR r T :: R)) :
    Calls Tryd.prog 42 #[.pointer (some ⟨r, 0, none⟩)] w fun e w' => ∃ a' c', Ret (.slice a' (liveF T.F).length c') (slc 67 7 a' (liveF T.F).length c' (flat floC (liveF T.F)) :: FlowR r T :: R) w e w' := by
  have hfl := hT.fl
  have oo := Own.slc_nil (e := 67) (size := 7) o
  go_enter Tryd.func42, Tryd.ntmps42
  go_wp2
  go_loopw [3, 4] (fun v3 v4 wr => FlrRel r T R w v3 v4 wr) (fun _ v _ => T.F.length - (intOf v).toNat)
  case atStart => exact ⟨0, 0, 0, none, rfl, rfl, by omega, rfl, oo, Calm.refl w⟩
  case round =>
    clear oo
    obtain ⟨i, n, c, a, rfl, rfl, hi, hn, oR, kR⟩ := hrel
    have hll := liveF_len (T.F.take i)
    rw [List.length_take] at hll
    have HN := Lib.hid hn
    have hn1 : n ≤ 32 := by omega
    clear hn
    obtain ⟨sa, sc, fa, fc, ga, gc, o1⟩ := FlowR.iff.1 oR.swap
    have c3 := o1.cell 3
    have c4 := o1.cell 4
    by_cases hil : i < T.F.length
    · obtain ⟨⟨g, cc⟩, hgi⟩ : ∃ p, T.F[i]? = some p := ⟨_, List.getElem?_eq_getElem hil⟩
      have hls := liveF_step hgi
      obtain ⟨g4, rfl, hc, _, _⟩ := (o1.up 3).slc_cell (by omega)
      have d := hc i (.bool (!cc)) (by rw [List.getElem?_map, hgi]; rfl)
      clear hc
      obtain ⟨g3, rfl, hc3, _, _⟩ := (o1.up 2).slc_cell (by omega)
      have hgm : (T.F.map (·.1))[i]? = some g := by rw [List.getElem?_map, hgi]; rfl
      have d0 := hc3 (i * 7 + 0) (.int .i64 g.id) (by rw [flat_get floC_len (T.F.map (·.1)) i 0 g hgm (by omega)]; rfl)
      have d1 := hc3 (i * 7 + 1) (.int .i64 g.stn) (by rw [flat_get floC_len (T.F.map (·.1)) i 1 g hgm (by omega)]; rfl)
      have d2 := hc3 (i * 7 + 2) (.int .i64 g.wt) (by rw [flat_get floC_len (T.F.map (·.1)) i 2 g hgm (by omega)]; rfl)
      have d3 := hc3 (i * 7 + 3) (.int .i64 g.pk) (by rw [flat_get floC_len (T.F.map (·.1)) i 3 g hgm (by omega)]; rfl)
      have d4 := hc3 (i * 7 + 4) (.int .i64 g.bts) (by rw [flat_get floC_len (T.F.map (·.1)) i 4 g hgm (by omega)]; rfl)
      have d5 := hc3 (i * 7 + 5) (.int .i64 g.lag) (by rw [flat_get floC_len (T.F.map (·.1)) i 5 g hgm (by omega)]; rfl)
      have d6 := hc3 (i * 7 + 6) (.int .i64 g.lead) (by rw [flat_get floC_len (T.F.map (·.1)) i 6 g hgm (by omega)]; rfl)
      rw [Nat.add_zero] at d0
      clear hc3 hgm
      cases cc with
      | true =>
        rw [if_pos rfl] at hls
        have HLS := Lib.hid hls
        clear hls
        have d' : wr.cell? ⟨g4, i, none⟩ = some (.bool false) := d
        clear d
        have oN := (oR.alloc (.cells #[.int .i64 g.id, .int .i64 g.stn, .int .i64 g.wt, .int .i64 g.pk, .int .i64 g.bts, .int .i64 g.lag, .int .i64 g.lead] 67)).up 1
        go_wp2_with (at_builtin; refine wpList_append_slc rfl _ _ rfl Tryd.floT rfl oN ⟨wr.heap.size, 0, none⟩ 1 1 [.int .i64 g.id, .int .i64 g.stn, .int .i64 g.wt, .int .i64 g.pk, .int .i64 g.bts, .int .i64 g.lag, .int .i64 g.lead] rfl rfl ?c1 ?c2 ?c3 ?c4 ?c5)
        case c1 => exact Own.news (T := 67) (oR.alloc _)
        case c2 => intro u hu; simp at hu; rcases hu with rfl | rfl | rfl | rfl | rfl | rfl | rfl <;> rfl
        case c3 => unfold maxLen; omega
        case c4 => omega
        case c5 =>
          intro a' c' w1 o2 k2
          go_wp2
          go_roundw
          case rel =>
            refine ⟨i + 1, n + 1, c', a', rfl, by go_num, by omega, by rw [HLS.out, List.length_append, ← HN.out]; rfl, ?_, kR.trans k2.al⟩
            rw [HLS.out, flat_append]
            exact o2.re [1, 0] 1
          case measure => simp [intOf]; omega
      | false =>
        rw [if_neg (by decide), List.append_nil] at hls
        have HLS := Lib.hid hls
        clear hls
        have d' : wr.cell? ⟨g4, i, none⟩ = some (.bool true) := d
        clear d
        go_wp2
        go_roundw
        case rel => exact ⟨i + 1, n, c, a, rfl, by go_num, by omega, by rw [HLS.out]; exact HN.out, by rw [HLS.out]; exact oR, kR⟩
        case measure => simp [intOf]; omega
    · have hie : i = T.F.length := by omega
      subst hie
      rw [List.take_length] at HN oR
      have hn := HN.out
      subst hn
      go_wp2
      go_ret
      exact ⟨a, c, rfl, oR, kR⟩
end
end Go.Proofs.YtladamlfbdbdgaaDoor
