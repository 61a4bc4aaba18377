/- Records: the reference's Counts. -/
import Derived.Test.YtlccalkikjfimaaDoorRcM
namespace Go.Proofs.YtlccalkikjfimaaDoor
open Go.RowKit
open SP
section
variable {W w w' : World} {R : List SP} {Sp : SP}
theorem ct_result_refCounts_spec {b4 : Nat} {z0 z1 z2 z3 z4 z5 z6 z7 z8 z9 z10 : Int} (o : Own w (cel b4 36 [.int .i64 z0, .int .i64 z1, .int .i64 z2, .int .i64 z3, .int .i64 z4, .int .i64 z5, .int .i64 z6, .int .i64 z7, .int .i64 z8, .int .i64 z9, .int .i64 z10] :: R)) (tmps : Array Value) (hp : tmps.getD 4 undef = .pointer (some ⟨b4, 0, none⟩)) :
    (results Tryd.f17 tmps).run Tryd.prog w = .ok (.agg #[.int .i64 z0, .int .i64 z1, .int .i64 z2, .int .i64 z3, .int .i64 z4, .int .i64 z5, .int .i64 z6, .int .i64 z7, .int .i64 z8, .int .i64 z9, .int .i64 z10]) w := by
  have g0 := o.cell 0
  have g1 := o.cell 1
  have g2 := o.cell 2
  have g3 := o.cell 3
  have g4 := o.cell 4
  have g5 := o.cell 5
  have g6 := o.cell 6
  have g7 := o.cell 7
  have g8 := o.cell 8
  have g9 := o.cell 9
  have g10 := o.cell 10
  rw [results_cell rfl, hp]
  go_simp
  (try rfl)
set_option maxHeartbeats 6400000 in
set_option maxRecDepth 100000 in
theorem refCounts_spec {l : List Rec} {a : Option Addr} {n c : Nat} (f : Int) (hS : RecsAt Sp a l) (hn : n = l.length) (hn2 : n ≤ 1000) (o : Own w (Sp :: R)) :
    Calls Tryd.prog 17 #[.slice a n c, .int .i64 f] w (Ret (.agg ((cnts (filtR 0 f l)).map (Value.int .i64)).toArray) (Sp :: R) w) := by
  have oA := ((o.alloc (.cells #[.int .i64 0, .int .i64 0, .int .i64 0, .int .i64 0, .int .i64 0, .int .i64 0, .int .i64 0, .int .i64 0, .int .i64 0, .int .i64 0, .int .i64 0] 36)).alloc (.cells #[.int .i64 0, .int .i64 0, .int .i64 0, .int .i64 0, .int .i64 0, .int .i64 0, .int .i64 0, .int .i64 0, .int .i64 0, .int .i64 0, .int .i64 0] 36)).up 2
  have hf := refFilter_spec (c := c) 0 f hS hn hn2 oA
  have hfl := filtR_len 0 f l
  have hb45 : w.heap.size ≠ w.heap.size + 1 := by omega
  have HN := Lib.hid hn
  clear hn
  go_enter Tryd.func17, Tryd.ntmps17
  go_wp2_with fail
  refine hf.mono ?_
  rintro e1 w1 ⟨a1, c1, rfl, o1, k1⟩
  have hF : (filtR 0 f l).length ≤ 1000 := by have := HN.out; omega
  generalize filtR 0 f l = F at *
  simp only [World.size_alloc] at o1
  generalize w.heap.size = b4 at *
  have hT : CtRel F a1 c1 b4 (b4 + 1) Sp R w (.int .i64 0) w1 := ⟨0, rfl, by omega, o1.re [2, 0, 3, 1], (k1.al).al⟩
  clear hf o o1 oA k1 hfl
  go_wp2
  go_loopw [7] (fun v wr => CtRel F a1 c1 b4 (b4 + 1) Sp R w v wr) (fun v _ => F.length - nvOf v)
  case atStart => exact hT
  case round =>
    clear hT
    obtain ⟨i, rfl, hi, oR, kR⟩ := hrel
    obtain ⟨hz11, hzb⟩ := cnts_ok (F.take i)
    have hlt4 := (oR.up 2).celLt
    have hlt5 := oR.celLt
    have f5 := oR.frozen
    by_cases hlt : i < F.length
    · obtain ⟨r, hr⟩ : ∃ r, F[i]? = some r := ⟨_, List.getElem?_eq_getElem hlt⟩
      obtain ⟨g, so, rfl, d0, d1, d2, d3, d4, d5⟩ := (recsAt_slc a1 F.length c1 F rfl).six (oR.up 1) hr
      have hsn := cnts_snoc (F.take i) r
      rw [← take_snocR hr] at hsn
      clear hr
      rw [List.length_take] at hzb
      obtain ⟨s, q, fl, p, y, u⟩ := r
      dsimp only at d0 d1 d2 d3 d4 d5 hsn
      have hgl : g < wr.heap.size := World.block_lt_of_cell? _ _ d0
      by_cases hq1 : 1 ≤ q
      · by_cases hq2 : q ≤ 10
        · rw [if_pos ⟨hq1, hq2⟩] at hsn
          obtain ⟨kn, rfl⟩ : ∃ kn : Nat, q = (kn : Int) := ⟨q.toNat, by omega⟩
          rw [Int.toNat_natCast] at hsn
          generalize cnts (F.take i) = z at *
          obtain ⟨zk, hzk⟩ : ∃ x, z[kn]? = some x := ⟨_, List.getElem?_eq_getElem (by omega)⟩
          obtain ⟨zo, hzo⟩ : ∃ x, z[0]? = some x := ⟨_, List.getElem?_eq_getElem (by omega)⟩
          have bk := hzb zk (List.mem_of_getElem? hzk)
          have bo := hzb zo (List.mem_of_getElem? hzo)
          have ck := oR.cell (v := .int .i64 zk) kn (by rw [List.getElem?_map, hzk]; rfl)
          have co := oR.cell (v := .int .i64 zo) 0 (by rw [List.getElem?_map, hzo]; rfl)
          rw [List.getD_eq_getElem?_getD, hzk, List.getD_eq_getElem?_getD, hzo, Option.getD_some, Option.getD_some] at hsn
          have wk : IntKind.i64.wrap (zk + 1) = zk + 1 := by rw [IntKind.wrap_i64]; omega
          have wo : IntKind.i64.wrap (zo + 1) = zo + 1 := by rw [IntKind.wrap_i64]; omega
          have hk0 : kn ≠ 0 := by omega
          have hk0' : 0 ≠ kn := by omega
          have hk11 : (kn : Int) < 11 := by omega
          have hk11n : kn < 11 := by omega
          have oS := (oR.setCell 0 (.int .i64 (zo + 1))).setCell kn (.int .i64 (zk + 1))
          have HSN := Lib.hid hsn
          clear hsn hzk hzo bk bo hzb
          go_wp2
          go_roundw
          case rel => exact ⟨i + 1, by go_num, by omega, by rw [HSN.out, List.map_set, List.map_set]; exact (by rw [List.set_comm _ _ hk0]; exact oS), calm_set (calm_set kR)⟩
          case measure => simp [nvOf]; omega
        · rw [if_neg (fun h => hq2 h.2)] at hsn
          have e1 : decide (1 ≤ q) = true := decide_eq_true hq1
          have e2 : decide (q < 11) = false := decide_eq_false (by omega)
          have e3 : decide (q ≤ 10) = false := decide_eq_false (by omega)
          have HSN := Lib.hid hsn
          clear hsn hzb
          go_wp2
          go_roundw
          case rel => exact ⟨i + 1, by go_num, by omega, by rw [HSN.out]; exact oR, kR⟩
          case measure => simp [nvOf]; omega
      · rw [if_neg (fun h => hq1 h.1)] at hsn
        have e1 : decide (1 ≤ q) = false := decide_eq_false hq1
        have HSN := Lib.hid hsn
        clear hsn hzb
        go_wp2
        go_roundw
        case rel => exact ⟨i + 1, by go_num, by omega, by rw [HSN.out]; exact oR, kR⟩
        case measure => simp [nvOf]; omega
    · have hin : i = F.length := by omega
      subst hin
      rw [List.take_length] at oR hz11
      generalize cnts F = z at *
      obtain ⟨z0, z1, z2, z3, z4, z5, z6, z7, z8, z9, z10, rfl⟩ := list11 hz11
      clear hz11 hzb
      have oX := oR.re [2, 0, 1, 3]
      have c0 := oR.cell 0
      have c1 := oR.cell 1
      have c2 := oR.cell 2
      have c3 := oR.cell 3
      have c4 := oR.cell 4
      have c5 := oR.cell 5
      have c6 := oR.cell 6
      have c7 := oR.cell 7
      have c8 := oR.cell 8
      have c9 := oR.cell 9
      have c10 := oR.cell 10
      have f4 := oX.frozen
      have x0 := oX.cell 0
      have x1 := oX.cell 1
      have x2 := oX.cell 2
      have x3 := oX.cell 3
      have x4 := oX.cell 4
      have x5 := oX.cell 5
      have x6 := oX.cell 6
      have x7 := oX.cell 7
      have x8 := oX.cell 8
      have x9 := oX.cell 9
      have x10 := oX.cell 10
      go_wp2
      have oF : Own _ (cel b4 36 [.int .i64 z0, .int .i64 z1, .int .i64 z2, .int .i64 z3, .int .i64 z4, .int .i64 z5, .int .i64 z6, .int .i64 z7, .int .i64 z8, .int .i64 z9, .int .i64 z10] :: _) := (((((((((((oX).setCell 0 (.int .i64 z0)).setCell 1 (.int .i64 z1)).setCell 2 (.int .i64 z2)).setCell 3 (.int .i64 z3)).setCell 4 (.int .i64 z4)).setCell 5 (.int .i64 z5)).setCell 6 (.int .i64 z6)).setCell 7 (.int .i64 z7)).setCell 8 (.int .i64 z8)).setCell 9 (.int .i64 z9)).setCell 10 (.int .i64 z10)
      have hres := ct_result_refCounts_spec oF
      refine bodyPost_ret (v := .agg #[.int .i64 z0, .int .i64 z1, .int .i64 z2, .int .i64 z3, .int .i64 z4, .int .i64 z5, .int .i64 z6, .int .i64 z7, .int .i64 z8, .int .i64 z9, .int .i64 z10]) (hres _ rfl) rfl ⟨rfl, (oF.up 3).re [0, 1, 2, 3] |> fun o => ?_, calm_set (calm_set (calm_set (calm_set (calm_set (calm_set (calm_set (calm_set (calm_set (calm_set (calm_set (kR)))))))))))⟩
      exact (oF.re [0, 1, 2, 3] 3)
end
end Go.Proofs.YtlccalkikjfimaaDoor
