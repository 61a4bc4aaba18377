/- Records: the program's Parse, lines that have no six words or no kind. -/
import Derived.Test.YtlccalkikjfimaaGreatDoorRdC
namespace Go.Proofs.YtlccalkikjfimaaGreatDoor
open Go.RowKit
open Go.Shelf
open SP
section
variable {W w w' : World} {R : List SP}
theorem res_rec {fn : Func} (h : fn.results = #[.cell 2 39, .tmp 3]) {tmps : Array Value} {b : Nat} {e : Int} {r : Rec} (hp : tmps.getD 2 undef = .pointer (some ⟨b, 0, none⟩)) (he : tmps.getD 3 undef = .int .i64 e)
    {vs : List Value} (o : Own w (cel b 39 vs :: R)) (hv : vs = recC r) : (results fn tmps).run Tryz.prog w = .ok (prL (r, e)) w := by
  subst hv
  obtain ⟨s, k, f, p, y, u⟩ := r
  unfold recC at o
  have c0 := o.cell 0
  have c1 := o.cell 1
  have c2 := o.cell 2
  have c3 := o.cell 3
  have c4 := o.cell 4
  have c5 := o.cell 5
  dsimp only at c0 c1 c2 c3 c4 c5
  rw [results_cell_tmp h, hp, he]
  unfold prL recV
  go_simp
theorem own_zero6 {b : Nat} {T : TypeId} {vs : List Value} (h : vs.length = 6) (o : Own w (cel b T vs :: R)) :
    Own ((((((w.setCell ⟨b, 0, none⟩ (.int .i64 0)).setCell ⟨b, 1, none⟩ (.int .i64 0)).setCell ⟨b, 2, none⟩ (.int .i64 0)).setCell ⟨b, 3, none⟩ (.int .i64 0)).setCell ⟨b, 4, none⟩ (.int .i64 0)).setCell ⟨b, 5, none⟩ (.int .i64 0)) (cel b T (recC rec0) :: R) := by
  match vs, h with
  | [x0, x1, x2, x3, x4, x5], _ => exact (((((o.setCell 0 (.int .i64 0)).setCell 1 (.int .i64 0)).setCell 2 (.int .i64 0)).setCell 3 (.int .i64 0)).setCell 4 (.int .i64 0)).setCell 5 (.int .i64 0)
theorem calm_zero6 {b : Nat} {v : World} (k : Calm v w) : Calm v ((((((w.setCell ⟨b, 0, none⟩ (.int .i64 0)).setCell ⟨b, 1, none⟩ (.int .i64 0)).setCell ⟨b, 2, none⟩ (.int .i64 0)).setCell ⟨b, 3, none⟩ (.int .i64 0)).setCell ⟨b, 4, none⟩ (.int .i64 0)).setCell ⟨b, 5, none⟩ (.int .i64 0)) :=
  rcalm_set (rcalm_set (rcalm_set (rcalm_set (rcalm_set (rcalm_set k)))))
theorem split6_spec {s : ByteArray} {a k b c d e : List UInt8} (hL : spl 32 s.data.toList = [a, k, b, c, d, e]) (hs : s.size < 4294967281) (hm : MaxV W) (o : Own w (old W :: R)) (R2 : List SP) (o2 : Own w R2) :
    Calls Tryz.prog 25 #[.string s, .string ⟨#[32]⟩] w fun e' w' => ∃ g cp, e' = .returned (.slice (some ⟨g, 0, none⟩) 6 cp) ∧ Own w' (slc 9 1 (some ⟨g, 0, none⟩) 6 cp (strs [a, k, b, c, d, e]) :: R2) ∧ Calm w w' := by
  have hS := split_spec 32 s hs hm o R2 o2
  rw [hL] at hS
  refine hS.mono ?_
  rintro e1 w1 ⟨ad, cp, rfl, o2, k2⟩
  obtain ⟨g, rfl, _⟩ := o2.slc_cell (by simp)
  exact ⟨g, cp, rfl, o2, k2⟩
set_option maxHeartbeats 6400000 in
set_option maxRecDepth 100000 in
theorem recParse_short (s : ByteArray) (hs : s.size ≤ 1000000) (hm : MaxV W) (o : Own w (old W :: R)) (h6 : (spl 32 s.data.toList).length ≠ 6) :
    Calls Tryz.prog 26 #[.string s] w (Ret (prL (parseL s.data.toList)) (old W :: R) w) := by
  have o1 := o.alloc (.cells (recC rec0).toArray 39)
  have hS := split_spec 32 s (by omega) hm o1.swap _ o1
  have hl : s.data.toList.length = s.size := (Lib.size_eq s).symm
  have HV := Lib.hid (parseL_else h6)
  obtain ⟨L, hL⟩ : ∃ L, spl 32 s.data.toList = L := ⟨_, rfl⟩
  rw [hL] at h6 hS
  have hz : (recC rec0).length = 6 := rfl
  clear hL
  have h6' : ((L.length : Int) != 6) = true := by rw [bne_iff_ne]; omega
  go_enter Tryz.func26, Tryz.ntmps26
  go_wp2_with fail
  refine hS.mono ?_
  rintro e1 w1 ⟨a, c, rfl, o2, k2⟩
  have o3 := o2.up 1
  have r0 := Own.cell (T := 39) o3 0
  have r1 := Own.cell (T := 39) o3 1
  have r2 := Own.cell (T := 39) o3 2
  have r3 := Own.cell (T := 39) o3 3
  have r4 := Own.cell (T := 39) o3 4
  have r5 := Own.cell (T := 39) o3 5
  have rf := Own.frozen (T := 39) o3
  have rl := Own.celLt (T := 39) o3
  go_wp2
  have oZ := own_zero6 hz o3
  refine bodyPost_ret (v := prL (rec0, 8)) ?_ rfl ?_
  · refine res_rec (b := w.heap.size) (r := rec0) (e := 8) Tryz.results26 ?_ ?_ oZ rfl
    · rfl
    · rfl
  · exact ⟨by rw [HV.out], oZ.drop.drop, calm_zero6 k2.al⟩
set_option maxHeartbeats 6400000 in
set_option maxRecDepth 100000 in
theorem recParse_word (s : ByteArray) (hs : s.size ≤ 1000000) (hm : MaxV W) (hT : TabsR W) (o : Own w (old W :: R)) (a k b c d e : List UInt8) (hL : spl 32 s.data.toList = [a, k, b, c, d, e]) (h0 : kindOf k = 0) :
    Calls Tryz.prog 26 #[.string s] w (Ret (prL (parseL s.data.toList)) (old W :: R) w) := by
  have o1 := o.alloc (.cells (recC rec0).toArray 39)
  have hS := split6_spec hL (by omega) hm o1.swap _ o1
  have HV := Lib.hid (show parseL s.data.toList = (rec0, 8) by rw [parseL_words hL]; unfold formOK; rw [decide_eq_false (fun h => h h0), Bool.false_and]; rfl)
  have hI := Lib.hid fun (w1 : World) (R1 : List SP) (o1 : Own w1 (old W :: R1)) => index_spec k hT o1
  rw [h0] at hI
  have hz : (recC rec0).length = 6 := rfl
  clear hL h0
  go_enter Tryz.func26, Tryz.ntmps26
  go_wp2_with fail
  refine hS.mono ?_
  rintro e1 w1 ⟨g, cp, rfl, o2, k2⟩
  obtain ⟨g', hg, hcell, hfr, hblt⟩ := o2.slc_cell (by decide)
  cases hg
  have s1 := hcell 1 (.string (mkB k)) rfl
  have o3 := o2.up 1
  have r0 := Own.cell (T := 39) o3 0
  have r1 := Own.cell (T := 39) o3 1
  have r2 := Own.cell (T := 39) o3 2
  have r3 := Own.cell (T := 39) o3 3
  have r4 := Own.cell (T := 39) o3 4
  have r5 := Own.cell (T := 39) o3 5
  have rf := Own.frozen (T := 39) o3
  have rl := Own.celLt (T := 39) o3
  clear hcell
  generalize mkB k = K at *
  generalize strs [a, k, b, c, d, e] = SL at *
  go_wp2
  refine wp_region_tail 4 (by kernel_rfl) (by kernel_rfl) ?_
  simp only [List.take_succ_cons, List.take_zero, List.drop_succ_cons, List.drop_zero]
  repeat still_step
  refine wpStill_nil ?_
  go_wp2_with fail
  refine (hI.out _ _ (o2.up 2).drew).mono ?_
  rintro e2 w2 ⟨rfl, rfl⟩
  go_wp2
  have oZ := (own_zero6 hz o3).drew
  refine bodyPost_ret (v := prL (rec0, 8)) ?_ rfl ?_
  · refine res_rec (b := w.heap.size) (r := rec0) (e := 8) Tryz.results26 ?_ ?_ oZ rfl
    · rfl
    · rfl
  · exact ⟨by rw [HV.out], oZ.drop.drop, Calm.d1 (calm_zero6 k2.al)⟩
end
end Go.Proofs.YtlccalkikjfimaaGreatDoor
