/- The law HeapUpdate. -/
import Derived.Test.YtaphomilgoobiaaHeapEq
import Derived.Test.YtaphomilgoobiaaHeapFull
namespace Go.Proofs.Ytaphomilgoobiaa
open Go.RowKit
open SP
theorem nodup_inj : ∀ {L : List (Int × Int)}, (idsE L).Nodup → ∀ {x y : Int × Int}, x ∈ L → y ∈ L → x.1 = y.1 → x = y
  | [], _, x, y, hx, _, _ => by simp at hx
  | z :: L, hn, x, y, hx, hy, h => by
    obtain ⟨h1, h2⟩ := List.nodup_cons.1 (show (z.1 :: idsE L).Nodup from hn)
    rcases List.mem_cons.1 hx with rfl | hx'
    · rcases List.mem_cons.1 hy with rfl | hy'
      · rfl
      · exact absurd (show x.1 ∈ idsE L from List.mem_map.2 ⟨y, hy', h.symm⟩) h1
    · rcases List.mem_cons.1 hy with rfl | hy'
      · exact absurd (show y.1 ∈ idsE L from List.mem_map.2 ⟨x, hx', h⟩) h1
      · exact nodup_inj h2 hx' hy' h
theorem setK_back {L : List (Int × Int)} (hn : (idsE L).Nodup) {x : Int × Int} (hx : x ∈ L) (key : Int) : setK x.1 x.2 (setK x.1 key L) = L := by
  unfold setK
  rw [List.map_map]
  conv => rhs; rw [← List.map_id L]
  refine List.map_congr_left fun y hy => ?_
  show (if (if y.1 = x.1 then (x.1, key) else y).1 = x.1 then (x.1, x.2) else (if y.1 = x.1 then (x.1, key) else y)) = y
  by_cases h : y.1 = x.1
  · rw [if_pos h]
    simp
    exact nodup_inj hn hx hy h.symm
  · rw [if_neg h, if_neg h]
theorem setK_mem {L : List (Int × Int)} {id : Int} (h : id ∈ idsE L) (key : Int) : (id, key) ∈ setK id key L := by
  obtain ⟨x, hx, rfl⟩ := List.mem_map.1 h
  exact List.mem_map.2 ⟨x, hx, by simp⟩
def UpdRel (W : World) (hb cb : Nat) (v : Value) (wr : World) : Prop :=
  ∃ (i : Nat) (L : List (Int × Int)), v = .int .i64 (i : Int) ∧ i ≤ 10 ∧ L.length = i ∧ (∀ id : Int, id ∈ idsE L ↔ 0 ≤ id ∧ id < i) ∧
    Own wr [HeapA hb 16 L, Ch W cb (3 * i), old W] ∧ Calm W wr
set_option maxHeartbeats 3200000 in
set_option maxRecDepth 100000 in
theorem heapUpdate_walk (a0 : Option Addr) (len0 cap0 : Nat) (z0 : List Int) (id key : Int) (w : World) (w0 : IsRow .i64 w a0 len0 cap0 z0) :
    Calls Try.prog 5 #[.slice a0 len0 cap0, .int .i64 id, .int .i64 key] w fun e w' => e = .returned (.bool true) ∧ Below w.heap.size w w' := by
  have oW := Own.start w
  go_enter Try.func5, Try.ntmps5
  go_wp2_with fail
  refine (genNew_spec a0 len0 cap0 z0 w0 oW).mono ?_
  rintro e1 v1 ⟨cb, rfl, o1, k1⟩
  go_wp2_with fail
  refine (heapNew_spec 16 (by omega) (by omega) o1).mono ?_
  rintro e2 v2 ⟨hb, rfl, o2, k2⟩
  have hT : UpdRel w hb cb (.int .i64 0) v2 := ⟨0, [], rfl, by omega, rfl, by intro id; simp [idsE] <;> omega, HeapA.new o2, k1.trans k2⟩
  go_wp2
  go_loopw [10] (fun v wr => UpdRel w hb cb v wr) (fun v _ => 10 - (intOf v).toNat)
  case atStart => exact hT
  case round =>
    clear hT o1 o2 k1 k2
    obtain ⟨i, L, rfl, hi, hl, hid, oR, kR⟩ := hrel
    by_cases hlt : i < 10
    · go_wp2_with fail
      refine (int64_spec (W := w) cb (3 * i) (by omega) ((oR.up 2).up 2)).mono ?_
      rintro e3 v3 ⟨x, hx0, hx1, rfl, o3, k3⟩
      have hp : pushE 16 (i : Int) L = 0 := by
        unfold pushE
        rw [if_neg (by omega), if_neg (fun h => by have := (hid _).1 h; omega), if_neg (by omega)]
      have hpl : pushL 16 (i : Int) x L = L ++ [((i : Int), x)] := if_pos hp
      have Hl := Lib.hid hl
      clear hl
      go_wp2_with fail
      refine (pushA_spec (L := L) (i : Int) x (by have := Hl.out; omega) (o3.up 2)).mono ?_
      rintro e4 v4 ⟨rfl, o5, k5⟩
      rw [hp]
      rw [hpl] at o5
      clear hp hpl
      go_wp2
      go_roundw
      case rel =>
        refine ⟨i + 1, _, by go_num, by omega, ?_, ?_, o5, (kR.trans k3).trans k5⟩
        · simp [Hl.out]
        · intro id
          have := hid id
          unfold idsE at *
          simp only [List.map_append, List.mem_append, this, List.map_cons, List.map_nil, List.mem_singleton]
          omega
      case measure => simp [intOf]; omega
    · have hi10 : i = 10 := by omega
      subst hi10
      have Hl := Lib.hid hl
      clear hl
      have hL0 : L.length ≤ 1000 := by have := Hl.out; omega
      go_wp2_with fail
      refine (entriesA_spec (L := L) (by omega) oR).mono ?_
      rintro e3 v3 ⟨ea, ec, rfl, o3, k3⟩
      go_wp2_with fail
      refine (next_spec w cb (3 * 10) 10 _ _ (by omega) (by omega) (by omega) (o3.re [2, 3, 1, 0])).mono ?_
      rintro e4 v4 ⟨k, hk0, hk1, rfl, o4, k4⟩
      obtain ⟨x, hx, rfl⟩ := List.mem_map.1 ((hid k).2 ⟨hk0, hk1⟩)
      have hnd := HeapA.nodup (o4.up 2)
      have hxm : x.1 ∈ idsE L := (hid x.1).2 ⟨hk0, hk1⟩
      have hback := setK_back hnd hx key
      have HX := Lib.hid hx
      have HXM := Lib.hid hxm
      have HB := Lib.hid hback
      have HLK : (setK x.1 key L).length = L.length := by unfold setK; simp
      have HLKs := Lib.hid HLK
      clear hx hxm hback hnd HLK
      go_wp2_with fail
      refine (keyA_some x HX.out (o4.up 2)).mono ?_
      rintro e5 v5 ⟨rfl, o5, k5⟩
      go_wp2_with fail
      refine (updateA_some (L := L) x.1 key HXM.out (by omega) o5).mono ?_
      rintro e6 v6 ⟨rfl, o6, k6⟩
      go_wp2_with fail
      refine (updateA_some (L := setK x.1 key L) x.1 x.2 (by rw [idsE_setK]; exact HXM.out) (by rw [HLKs.out]; omega) o6).mono ?_
      rintro e7 v7 ⟨rfl, o7, k7⟩
      rw [HB.out] at o7
      go_wp2_with fail
      refine (entriesA_spec (L := L) (by omega) o7).mono ?_
      rintro e8 v8 ⟨fa, fc, rfl, o8, k8⟩
      go_wp2_with fail
      refine (equal_spec (L := sortE L) (n := L.length) (by rw [sortE_len]) (by omega) (o8.re [4, 0, 1, 2, 3])).mono ?_
      rintro e9 v9 ⟨rfl, o9, k9⟩
      have K9 := (((((kR.trans k3).trans k4).trans k5).trans k6).trans k7).trans (k8.trans k9)
      by_cases hin : 0 ≤ id ∧ id < 10
      · obtain ⟨hi0, hi1⟩ := hin
        have hm : id ∈ idsE L := (hid id).2 ⟨hi0, hi1⟩
        have hm2 := setK_mem hm key
        have HM := Lib.hid hm
        have HM2 := Lib.hid hm2
        clear hm hm2 hid
        go_wp2_with fail
        refine (updateA_some (L := L) id key HM.out (by omega) (o9.up 2)).mono ?_
        rintro e10 v10 ⟨rfl, o10, k10⟩
        go_wp2_with fail
        refine (keyA_some (id, key) HM2.out o10).mono ?_
        rintro e11 v11 ⟨rfl, o11, k11⟩
        go_wp2_with fail
        refine (awake4_spec o11).mono ?_
        rintro e12 v12 ⟨rfl, o12, k12⟩
        go_wp2
        go_ret
        exact ⟨rfl, (o12.re [4, 0, 1, 2, 3]).below (K9.trans (k10.trans (k11.trans k12)))⟩
      · have hm : id ∉ idsE L := fun h => hin ((hid id).1 h)
        have HM := Lib.hid hm
        clear hm
        by_cases hneg : id < 0
        · clear hin hid
          go_wp2_with fail
          refine (updateA_none id key HM.out (o9.up 2)).mono ?_
          rintro e10 v10 ⟨rfl, o10, k10⟩
          go_wp2_with fail
          refine (keyA_none id HM.out o10).mono ?_
          rintro e11 v11 ⟨rfl, o11, k11⟩
          go_wp2_with fail
          refine (awake4_spec o11).mono ?_
          rintro e12 v12 ⟨rfl, o12, k12⟩
          go_wp2
          go_ret
          exact ⟨rfl, (o12.re [4, 0, 1, 2, 3]).below (K9.trans (k10.trans (k11.trans k12)))⟩
        · have hge : 10 ≤ id := by omega
          have hge0 : 0 ≤ id := by omega
          clear hin hid hneg
          go_wp2_with fail
          refine (updateA_none id key HM.out (o9.up 2)).mono ?_
          rintro e10 v10 ⟨rfl, o10, k10⟩
          go_wp2_with fail
          refine (keyA_none id HM.out o10).mono ?_
          rintro e11 v11 ⟨rfl, o11, k11⟩
          go_wp2_with fail
          refine (awake4_spec o11).mono ?_
          rintro e12 v12 ⟨rfl, o12, k12⟩
          go_wp2
          go_ret
          exact ⟨rfl, (o12.re [4, 0, 1, 2, 3]).below (K9.trans (k10.trans (k11.trans k12)))⟩
end Go.Proofs.Ytaphomilgoobiaa
