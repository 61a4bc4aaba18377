/- The laws of chapter 10: a table and its reference answer alike (same). -/
import Derived.Test.YtladamlfbdbdgaaDoorFlI
import Derived.Test.YtladamlfbdbdgaaDoorFlJ
import Derived.Test.YtladamlfbdbdgaaDoorFlF
import Derived.Test.YtladamlfbdbdgaaDoorFlN
import Derived.Test.YtladamlfbdbdgaaDoorGenW
namespace Go.Proofs.YtladamlfbdbdgaaDoor
open Go.RowKit
open SP
section
variable {W w w' : World} {R : List SP} {b rb cb : Nat} {T : Tab}
def FlowRX (r : Nat) (T : Tab) (sa : Option Addr) (sc : Nat) (fa : Option Addr) (fc : Nat) (ga : Option Addr) (gc : Nat) : SP :=
  st [cel r 74 [.int .i64 T.cap, .int .i64 T.rates, .slice sa T.S.length sc, .slice fa T.F.length fc, .slice ga T.F.length gc],
    slc 64 4 sa T.S.length sc (flat staC T.S), slc 67 7 fa T.F.length fc (flat floC (T.F.map (·.1))), slc 4 1 ga T.F.length gc (T.F.map goneV)]
theorem FlowRX.iff {r : Nat} {sa fa ga : Option Addr} {sc fc gc : Nat} : Own w (FlowRX r T sa sc fa fc ga gc :: R) ↔
    Own w (cel r 74 [.int .i64 T.cap, .int .i64 T.rates, .slice sa T.S.length sc, .slice fa T.F.length fc, .slice ga T.F.length gc] ::
      slc 64 4 sa T.S.length sc (flat staC T.S) :: slc 67 7 fa T.F.length fc (flat floC (T.F.map (·.1))) :: slc 4 1 ga T.F.length gc (T.F.map goneV) :: R) := ⟨fun o => Own.st.1 o, fun o => Own.st.2 o⟩
def FlrRelX (sa : Option Addr) (sc : Nat) (fa : Option Addr) (fc : Nat) (ga : Option Addr) (gc : Nat) (r : Nat) (T : Tab) (R : List SP) (w : World) (v3 v4 : Value) (wr : World) : Prop :=
  ∃ (i n c : Nat) (a : Option Addr), v3 = .slice a n c ∧ v4 = .int .i64 (i : Int) ∧ i ≤ T.F.length ∧ n = (liveF (T.F.take i)).length ∧
    Own wr (slc 67 7 a n c (flat floC (liveF (T.F.take i))) :: FlowRX r T sa sc fa fc ga gc :: R) ∧ Calm w wr
set_option maxHeartbeats 3200000 in
set_option maxRecDepth 100000 in
theorem flowsRX_spec {r : Nat} {sa fa ga : Option Addr} {sc fc gc : Nat} (hT : T.Ok) (o : Own w (FlowRX r T sa sc fa fc ga gc :: R)) :
    Calls Tryd.prog 42 #[.pointer (some ⟨r, 0, none⟩)] w fun e w' => ∃ a' c', Ret (.slice a' (liveF T.F).length c') (slc 67 7 a' (liveF T.F).length c' (flat floC (liveF T.F)) :: FlowRX r T sa sc fa fc ga gc :: R) w e w' := by
  have hfl := hT.fl
  have oo := Own.slc_nil (e := 67) (size := 7) o
  go_enter Tryd.func42, Tryd.ntmps42
  go_wp2
  go_loopw [3, 4] (fun v3 v4 wr => FlrRelX sa sc fa fc ga gc r T R w v3 v4 wr) (fun _ v _ => T.F.length - (intOf v).toNat)
  case atStart => exact ⟨0, 0, 0, none, rfl, rfl, by omega, rfl, oo, Calm.refl w⟩
  case round =>
    clear oo
    obtain ⟨i, n, c, a, rfl, rfl, hi, hn, oR, kR⟩ := hrel
    have hll := liveF_len (T.F.take i)
    rw [List.length_take] at hll
    have HN := Lib.hid hn
    have hn1 : n ≤ 32 := by omega
    clear hn
    have o1 := FlowRX.iff.1 oR.swap
    have c3 := o1.cell 3
    have c4 := o1.cell 4
    by_cases hil : i < T.F.length
    · obtain ⟨⟨g, cc⟩, hgi⟩ : ∃ p, T.F[i]? = some p := ⟨_, List.getElem?_eq_getElem hil⟩
      have hls := liveF_step hgi
      obtain ⟨g4, rfl, hc, _, _⟩ := (o1.up 3).slc_cell (by omega)
      have d := hc i (.bool (!cc)) (by rw [List.getElem?_map, hgi]; rfl)
      clear hc
      obtain ⟨g3, rfl, hc3, _, _⟩ := (o1.up 2).slc_cell (by omega)
      have hgm : (T.F.map (·.1))[i]? = some g := by rw [List.getElem?_map, hgi]; rfl
      have d0 := hc3 (i * 7 + 0) (.int .i64 g.id) (by rw [flat_get floC_len (T.F.map (·.1)) i 0 g hgm (by omega)]; rfl)
      have d1 := hc3 (i * 7 + 1) (.int .i64 g.stn) (by rw [flat_get floC_len (T.F.map (·.1)) i 1 g hgm (by omega)]; rfl)
      have d2 := hc3 (i * 7 + 2) (.int .i64 g.wt) (by rw [flat_get floC_len (T.F.map (·.1)) i 2 g hgm (by omega)]; rfl)
      have d3 := hc3 (i * 7 + 3) (.int .i64 g.pk) (by rw [flat_get floC_len (T.F.map (·.1)) i 3 g hgm (by omega)]; rfl)
      have d4 := hc3 (i * 7 + 4) (.int .i64 g.bts) (by rw [flat_get floC_len (T.F.map (·.1)) i 4 g hgm (by omega)]; rfl)
      have d5 := hc3 (i * 7 + 5) (.int .i64 g.lag) (by rw [flat_get floC_len (T.F.map (·.1)) i 5 g hgm (by omega)]; rfl)
      have d6 := hc3 (i * 7 + 6) (.int .i64 g.lead) (by rw [flat_get floC_len (T.F.map (·.1)) i 6 g hgm (by omega)]; rfl)
      rw [Nat.add_zero] at d0
      clear hc3 hgm
      cases cc with
      | true =>
        rw [if_pos rfl] at hls
        have HLS := Lib.hid hls
        clear hls
        have d' : wr.cell? ⟨g4, i, none⟩ = some (.bool false) := d
        clear d
        have oN := (oR.alloc (.cells #[.int .i64 g.id, .int .i64 g.stn, .int .i64 g.wt, .int .i64 g.pk, .int .i64 g.bts, .int .i64 g.lag, .int .i64 g.lead] 67)).up 1
        go_wp2_with (at_builtin; refine wpList_append_slc rfl _ _ rfl Tryd.floT rfl oN ⟨wr.heap.size, 0, none⟩ 1 1 [.int .i64 g.id, .int .i64 g.stn, .int .i64 g.wt, .int .i64 g.pk, .int .i64 g.bts, .int .i64 g.lag, .int .i64 g.lead] rfl rfl ?c1 ?c2 ?c3 ?c4 ?c5)
        case c1 => exact Own.news (T := 67) (oR.alloc _)
        case c2 => intro u hu; simp at hu; rcases hu with rfl | rfl | rfl | rfl | rfl | rfl | rfl <;> rfl
        case c3 => unfold maxLen; omega
        case c4 => omega
        case c5 =>
          intro a' c' w1 o2 k2
          go_wp2
          go_roundw
          case rel =>
            refine ⟨i + 1, n + 1, c', a', rfl, by go_num, by omega, by rw [HLS.out, List.length_append, ← HN.out]; rfl, ?_, kR.trans k2.al⟩
            rw [HLS.out, flat_append]
            exact o2.re [1, 0] 1
          case measure => simp [intOf]; omega
      | false =>
        rw [if_neg (by decide), List.append_nil] at hls
        have HLS := Lib.hid hls
        clear hls
        have d' : wr.cell? ⟨g4, i, none⟩ = some (.bool true) := d
        clear d
        go_wp2
        go_roundw
        case rel => exact ⟨i + 1, n, c, a, rfl, by go_num, by omega, by rw [HLS.out]; exact HN.out, by rw [HLS.out]; exact oR, kR⟩
        case measure => simp [intOf]; omega
    · have hie : i = T.F.length := by omega
      subst hie
      rw [List.take_length] at HN oR
      have hn := HN.out
      subst hn
      go_wp2
      go_ret
      exact ⟨a, c, rfl, oR, kR⟩
def StD (S : List Sta) (x q0 : Int) (n1 : ByteArray) (q2 q3 : Int) (B : Bool) : Prop :=
  (B = false ∧ (x < 0 ∨ (0 ≤ x ∧ (S.length : Int) ≤ x))) ∨ (B = true ∧ ∃ i : Nat, x = (i : Int) ∧ i < S.length ∧ S[i]? = some ⟨q0, n1, q2, q3⟩)
theorem stn_cases (S : List Sta) (x : Int) : ∃ q0 n1 q2 q3 B, stnV S x = .tuple #[.agg #[.int .i64 q0, .string n1, .int .i64 q2, .int .i64 q3], .bool B] ∧ StD S x q0 n1 q2 q3 B := by
  unfold stnV
  cases h : getS S x with
  | none =>
    refine ⟨_, _, _, _, _, rfl, .inl ⟨rfl, ?_⟩⟩
    unfold getS at h
    by_cases h0 : x < 0
    · exact .inl h0
    · rw [if_neg h0, List.getElem?_eq_none_iff] at h
      exact .inr ⟨by omega, by omega⟩
  | some s =>
    refine ⟨_, _, _, _, _, rfl, .inr ⟨rfl, ?_⟩⟩
    unfold getS at h
    by_cases h0 : x < 0
    · rw [if_pos h0] at h; cases h
    · rw [if_neg h0] at h
      exact ⟨x.toNat, by omega, (List.getElem?_eq_some_iff.1 h).1, h⟩
def FlD (F : List (Flo × Bool)) (x q0 q1 q2 q3 q4 q5 q6 : Int) (B : Bool) : Prop :=
  B = true → ∃ i : Nat, x = (i : Int) ∧ i < F.length ∧ F[i]? = some (⟨q0, q1, q2, q3, q4, q5, q6⟩, true)
theorem flo_cases (F : List (Flo × Bool)) (x : Int) : ∃ q0 q1 q2 q3 q4 q5 q6 B, floV F x = .tuple #[.agg #[.int .i64 q0, .int .i64 q1, .int .i64 q2, .int .i64 q3, .int .i64 q4, .int .i64 q5, .int .i64 q6], .bool B] ∧ (getF F x).isSome = B ∧ FlD F x q0 q1 q2 q3 q4 q5 q6 B := by
  unfold floV
  cases h : getF F x with
  | none => exact ⟨_, _, _, _, _, _, _, _, rfl, rfl, fun h => by cases h⟩
  | some s =>
    refine ⟨_, _, _, _, _, _, _, _, rfl, rfl, fun _ => ?_⟩
    obtain ⟨i, rfl, hg, hi⟩ := getF_some h
    exact ⟨i, rfl, hi, hg⟩
def SamRel (T : Tab) (W : World) (b rb cb M nb : Nat) (a : Int) (R : List SP) (w : World) (v : Value) (wr : World) : Prop :=
  ∃ i : Nat, v = .int .i64 (i : Int) ∧ i ≤ 6 ∧ Own wr (cel nb 3 [.int .i64 (-1), .int .i64 0, .int .i64 1, .int .i64 (T.S.length : Int), .int .i64 (T.F.length : Int), .int .i64 a] :: FlowR rb T :: FlowP b T :: Ch W cb M :: old W :: R) ∧ Calm w wr
def SamQ (T : Tab) (W : World) (b rb cb M : Nat) (R : List SP) (w : World) (e : Ending) (w' : World) : Prop :=
  e = .returned (.bool true) ∧ Own w' (FlowR rb T :: FlowP b T :: Ch W cb M :: old W :: R) ∧ Calm w w'
set_option maxHeartbeats 12800000 in
set_option maxRecDepth 100000 in
theorem same10_spec (M : Nat) (a : Int) (hT : T.Ok) (hM : (M : Int) ≤ 900000000000) (hW : TabsW W) (o : Own w (FlowR rb T :: FlowP b T :: Ch W cb M :: old W :: R)) :
    Calls Tryd.prog 23 #[.pointer (some ⟨cb, 0, none⟩), .pointer (some ⟨b, 0, none⟩), .pointer (some ⟨rb, 0, none⟩), .int .i64 a] w (SamQ T W b rb cb (M + 1) R w) := by
  have hsl := hT.sl
  have hfl := hT.fl
  go_enter Tryd.func23, Tryd.ntmps23
  go_wp2_with fail
  refine (genName_spec (W := W) (b := cb) M (by omega) (o.re [2, 3, 0, 1])).mono ?_
  rintro e1 w1 ⟨s, hs, rfl, o1, k1⟩
  obtain ⟨p, q, hpq⟩ : ∃ (p : Int) (q : Bool), findV (findT T.S s) = .tuple #[.int .i64 p, .bool q] := ⟨_, _, rfl⟩
  go_wp2_with fail
  refine (find_spec (b := b) s hT (by omega) hW (o1.re [3, 1, 0, 2])).mono ?_
  rintro e2 w2 ⟨rfl, o2, k2⟩
  rw [hpq]
  go_wp2_with fail
  refine (findR_spec (r := rb) s hT (by omega) (o2.re [3, 0, 1, 2])).mono ?_
  rintro e3 w3 ⟨rfl, o3, k3⟩
  rw [hpq]
  obtain ⟨sa, sc, fa, fc, ga, gc, o4⟩ := FlowR.iff.1 o3
  have c2 := o4.cell 2
  have hbl := o4.celLt
  have hfr := o4.frozen
  go_upto_region 4 with fail
  go_cut [66] (fun v wc => v = .bool false ∧ Own wc (FlowR rb T :: FlowP b T :: Ch W cb (M + 1) :: old W :: R) ∧ Calm w wc)
  case first =>
    go_region_held3 (fun w' => w'.cell? ⟨rb, 2, none⟩ = some (.slice sa T.S.length sc)) (go_keep) (first
      | (go_at_call 11; refine Calls.mono (total_spec (b := b) (T := T) (R := FlowR rb T :: old W :: Ch W cb (M + 1) :: R) ((o3.re [1, 0]).same rfl)) ?_; rintro _ _ ⟨rfl, rfl⟩)
      | (go_at_call 38; refine Calls.mono (totalR_spec (r := rb) (T := T) (R := FlowP b T :: old W :: Ch W cb (M + 1) :: R) hT (o3.same rfl)) ?_; rintro _ _ ⟨rfl, rfl⟩)
      | (go_at_call 40; refine Calls.mono (stations_spec (b := b) hT ((o4.re [4]).same rfl)) ?_; rintro e5 w5 ⟨a5, d5, rfl, o5, k5⟩; have c5 := (o5.up 2).cell 2; have f5 := (o5.up 2).frozen; have l5 := (o5.up 2).celLt)
      | (go_at_call 39; refine Calls.mono (equalS_spec (n := T.S.length) (F := T.S) rfl (by omega) ((o5.re [0, 3]).same rfl)) ?_; rintro e6 w6 ⟨rfl, o6, k6⟩; have c6 := (o6.up 3).cell 2; have f6 := (o6.up 3).frozen; have l6 := (o6.up 3).celLt)
      | (go_at_call 20; refine Calls.mono (flows_spec (b := b) hT ((o6.re [2]).same rfl)) ?_; rintro e7 w7 ⟨a7, d7, rfl, o7, k7⟩; have c7 := (o7.up 4).cell 2; have f7 := (o7.up 4).frozen; have l7 := (o7.up 4).celLt)
      | (go_at_call 42; refine Calls.mono (flowsRX_spec (r := rb) hT ((FlowRX.iff.2 (o7.re [4, 3, 5, 6])).same rfl)) ?_; rintro e8 w8 ⟨a8, d8, rfl, o8, k8⟩; have p8 := FlowRX.iff.1 (o8.up 1); have c8 := p8.cell 2; have f8 := p8.frozen; have l8 := p8.celLt)
      | (go_at_call 41; refine Calls.mono (equalF_spec (n := (liveF T.F).length) (F := liveF T.F) rfl (by have := liveF_len T.F; omega) ((o8.re [2, 0]).same rfl)) ?_; rintro e9 w9 ⟨rfl, o9, k9⟩; have p9 := FlowRX.iff.1 (o9.up 2); have c9 := p9.cell 2; have oF := FlowR.iff.2 ⟨sa, sc, fa, fc, ga, gc, p9⟩))
    all_goals go_wp2
    all_goals go_meet
    all_goals exact ⟨rfl, ((oF.re [1, 2, 4]).drop.drop.drop.re [0, 1, 3, 2]).same rfl, Calm.trans (k1.trans (k2.trans k3)) (Calm.trans (⟨k5.os, k5.tape, k5.output⟩ : Calm w3 w5) (Calm.trans (⟨k6.os, k6.tape, k6.output⟩ : Calm w5 w6) (Calm.trans (⟨k7.os, k7.tape, k7.output⟩ : Calm w6 w7) (Calm.trans (⟨k8.os, k8.tape, k8.output⟩ : Calm w7 w8) ⟨k9.os, k9.tape, k9.output⟩))))⟩
  case rest =>
    obtain ⟨rfl, oA, kA⟩ := hcut
    clear o o1 o2 o3 o4 c2 hbl hfr k1 k2 k3 hpq
    obtain ⟨sa, sc, fa, fc, ga, gc, o2⟩ := FlowR.iff.1 oA
    have c2 := o2.cell 2
    have c3 := o2.cell 3
    have hbl := o2.celLt
    have hfr := o2.frozen
    go_upto_region 6 with fail
    go_cut [14] (fun v wc => ∃ nb, v = .slice (some ⟨nb, 0, none⟩) 6 6 ∧ Own wc (cel nb 3 [.int .i64 (-1), .int .i64 0, .int .i64 1, .int .i64 (T.S.length : Int), .int .i64 (T.F.length : Int), .int .i64 a] :: FlowR rb T :: FlowP b T :: Ch W cb (M + 1) :: old W :: R) ∧ Calm w wc)
    case first =>
      go_region_held3 (fun w' => w'.cell? ⟨rb, 2, none⟩ = some (.slice sa T.S.length sc) ∧ w'.cell? ⟨rb, 3, none⟩ = some (.slice fa T.F.length fc)) (go_keep) (fail)
      all_goals go_wp2
      all_goals go_meet
      all_goals exact ⟨_, rfl, ((oA.alloc (.cells #[.int .i64 (-1), .int .i64 0, .int .i64 1, .int .i64 (T.S.length : Int), .int .i64 (T.F.length : Int), .int .i64 a] 3))).same rfl, ⟨kA.os, kA.tape, kA.output⟩⟩
    case rest =>
      obtain ⟨nb, rfl, oB, kB⟩ := hcut
      clear oA kA o2 c2 c3 hbl hfr sa sc fa fc ga gc
      go_wp2
      go_loopw [15] (fun v wr => SamRel T W b rb cb (M + 1) nb a R w v wr) (fun v _ => 6 - (intOf v).toNat)
      case atStart => exact ⟨0, rfl, by omega, oB, kB⟩
      case round =>
        clear oB kB
        obtain ⟨i, rfl, hi, oR, kR⟩ := hrel
        by_cases hlt : i < 6
        · obtain ⟨x, hx⟩ : ∃ x : Int, ∀ (w' : World) (R' : List SP), Own w' (cel nb 3 [.int .i64 (-1), .int .i64 0, .int .i64 1, .int .i64 (T.S.length : Int), .int .i64 (T.F.length : Int), .int .i64 a] :: R') → w'.cell? ⟨nb, i, none⟩ = some (.int .i64 x) := by
            have : i = 0 ∨ i = 1 ∨ i = 2 ∨ i = 3 ∨ i = 4 ∨ i = 5 := by omega
            rcases this with rfl | rfl | rfl | rfl | rfl | rfl <;> exact ⟨_, fun w' R' o => o.cell _⟩
          have d0 := hx _ _ oR
          go_wp2_with fail
          refine (station_spec (b := b) x hT (oR.re [2])).mono ?_
          rintro e4 w4 ⟨rfl, o4, k4⟩
          obtain ⟨q0, n1, q2, q3, sB, hst, hsd⟩ := stn_cases T.S x
          rw [hst]
          have o5 := o4.alloc (.cells #[.int .i64 q0, .string n1, .int .i64 q2, .int .i64 q3] 64)
          have d4 := hx _ _ (o5.up 2)
          go_wp2_with fail
          refine (flowOf_spec (b := b) x hT (o5.re [1])).mono ?_
          rintro e6 w6 ⟨rfl, o6, k6⟩
          obtain ⟨y0, y1, y2, y3, y4, y5, y6, fB, hfv, hfs, hfd⟩ := flo_cases T.F x
          rw [hfv]
          have o7 := o6.alloc (.cells #[.int .i64 y0, .int .i64 y1, .int .i64 y2, .int .i64 y3, .int .i64 y4, .int .i64 y5, .int .i64 y6] 67)
          have K : Calm w w6 := kR.trans (k4.trans ⟨k6.os, k6.tape, k6.output⟩)
          have d7 := hx _ _ (o7.up 3)
          have ct := fun (n : Nat) => IsRet.still (there_spec x hT ((o7.up 4).drewN n))
          simp only [hfs] at ct
          obtain ⟨sa, sc, fa, fc, ga, gc, o8⟩ := FlowR.iff.1 (o7.up 4)
          have c2 := o8.cell 2
          have c3 := o8.cell 3
          have u0 := (o8.up 6).cell 0
          have u1 := (o8.up 6).cell 1
          have u2 := (o8.up 6).cell 2
          have u3 := (o8.up 6).cell 3
          have v0 := (o8.up 4).cell 0
          have v1 := (o8.up 4).cell 1
          have v2 := (o8.up 4).cell 2
          have v3 := (o8.up 4).cell 3
          have v4 := (o8.up 4).cell 4
          have v5 := (o8.up 4).cell 5
          have v6 := (o8.up 4).cell 6
          have hba := ba_self
          have HK := Lib.hid kR
          clear hx hst hfv hfs oR o4 o5 o6 k4 k6 kR d0 d4
          rcases hsd with ⟨rfl, hr | ⟨hr1, hr2⟩⟩ | ⟨rfl, m, hxm, hm, hsm⟩
          · have r1 : decide (0 ≤ x) = false := decide_eq_false (Int.not_le.2 hr)
            cases fB with
            | true =>
              obtain ⟨k, hxk, hk, hfk⟩ := hfd rfl
              have hgm : (T.F.map (·.1))[k]? = some ⟨y0, y1, y2, y3, y4, y5, y6⟩ := by rw [List.getElem?_map, hfk]; rfl
              obtain ⟨g3, hg3, z0, z1, z2, z3, z4, z5, z6⟩ := floC_cells (o8.up 2) hgm (by omega)
              have Z0 : x = (k : Int) := hxk
              subst hg3
              clear hfd hfk hgm
              exfalso; omega
            | false =>
              clear hfd
              go_wp2
              go_big_quiet (exact Calls.quiet_of_same (ct _))
              go_wp2
              go_roundw
              case rel => exact ⟨i + 1, by go_num, by omega, ((o7.re [0, 2]).drop.drop.re [1, 2, 0]).same rfl, ⟨K.os, K.tape, K.output⟩⟩
              case measure => simp [intOf]; omega

          · have r1 : decide (0 ≤ x) = true := decide_eq_true hr1
            have r2 : decide (x < (T.S.length : Int)) = false := decide_eq_false (Int.not_lt.2 hr2)
            cases fB with
            | true =>
              obtain ⟨k, hxk, hk, hfk⟩ := hfd rfl
              have hgm : (T.F.map (·.1))[k]? = some ⟨y0, y1, y2, y3, y4, y5, y6⟩ := by rw [List.getElem?_map, hfk]; rfl
              obtain ⟨g3, hg3, z0, z1, z2, z3, z4, z5, z6⟩ := floC_cells (o8.up 2) hgm (by omega)
              have Z0 : x = (k : Int) := hxk
              subst hg3
              clear hfd hfk hgm
              have r3 : decide (k < T.S.length) = false := decide_eq_false (by omega)
              have r4 : decide (k < T.F.length) = true := decide_eq_true hk
              clear Z0 hr1 hr2; subst hxk
              go_wp2
              go_big_quiet (exact Calls.quiet_of_same (ct _))
              go_wp2
              go_roundw
              case rel => exact ⟨i + 1, by go_num, by omega, ((o7.re [0, 2]).drop.drop.re [1, 2, 0]).same rfl, ⟨K.os, K.tape, K.output⟩⟩
              case measure => simp [intOf]; omega
            | false =>
              clear hfd
              go_wp2
              go_big_quiet (exact Calls.quiet_of_same (ct _))
              go_wp2
              go_roundw
              case rel => exact ⟨i + 1, by go_num, by omega, ((o7.re [0, 2]).drop.drop.re [1, 2, 0]).same rfl, ⟨K.os, K.tape, K.output⟩⟩
              case measure => simp [intOf]; omega

          · obtain ⟨g2, hg2, x0, x1, x2, x3⟩ := staC_cells (o8.up 1) hsm (by omega)
            subst hg2 hxm
            clear hsm
            have r1 : decide ((0 : Int) ≤ (m : Int)) = true := decide_eq_true (by omega)
            have r2 : decide ((m : Int) < (T.S.length : Int)) = true := decide_eq_true (by omega)
            have r3 : decide (m < T.S.length) = true := decide_eq_true hm
            cases fB with
            | true =>
              obtain ⟨k, hxk, hk, hfk⟩ := hfd rfl
              have hgm : (T.F.map (·.1))[k]? = some ⟨y0, y1, y2, y3, y4, y5, y6⟩ := by rw [List.getElem?_map, hfk]; rfl
              obtain ⟨g3, hg3, z0, z1, z2, z3, z4, z5, z6⟩ := floC_cells (o8.up 2) hgm (by omega)
              have Z0 : (m : Int) = (k : Int) := hxk
              subst hg3
              clear hfd hfk hgm
              have e : m = k := by omega
              subst e; clear Z0 hxk
              go_wp2
              go_big_quiet (exact Calls.quiet_of_same (ct _))
              go_wp2
              go_roundw
              case rel => exact ⟨i + 1, by go_num, by omega, ((o7.re [0, 2]).drop.drop.re [1, 2, 0]).same rfl, ⟨K.os, K.tape, K.output⟩⟩
              case measure => simp [intOf]; omega
            | false =>
              clear hfd
              go_wp2
              go_big_quiet (exact Calls.quiet_of_same (ct _))
              go_wp2
              go_roundw
              case rel => exact ⟨i + 1, by go_num, by omega, ((o7.re [0, 2]).drop.drop.re [1, 2, 0]).same rfl, ⟨K.os, K.tape, K.output⟩⟩
              case measure => simp [intOf]; omega

        · go_wp2
          go_ret
          exact ⟨rfl, (oR.up 0).drop, kR⟩
end
end Go.Proofs.YtladamlfbdbdgaaDoor
