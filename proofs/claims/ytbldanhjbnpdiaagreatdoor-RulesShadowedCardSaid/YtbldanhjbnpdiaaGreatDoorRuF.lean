/- Rules: the program's Parse (printed by genparse.py). -/
import Derived.Test.YtbldanhjbnpdiaaGreatDoorRuE
namespace Go.Proofs.YtbldanhjbnpdiaaGreatDoor
open Go.RowKit
open Go.Shelf
open SP
section
variable {W w w' : World} {R : List SP}
def prV (p : Ru × Int) : Value := .tuple #[ruV p.1, .int .i64 p.2]
theorem parseR_words {l a b c d : List UInt8} (h : spl 32 l = [a, b, c, d]) : parseR l = if wordsOK a b c d then (if ruOK (ruOf a b c d) then (ruOf a b c d, 0) else (ru0, 1)) else (ru0, 8) := by
  unfold parseR; rw [h]
theorem parseR_else {l : List UInt8} (h : (spl 32 l).length ≠ 4) : parseR l = (ru0, 8) := by
  unfold parseR
  rcases hs : spl 32 l with _ | ⟨a, _ | ⟨b, _ | ⟨c, _ | ⟨d, _ | ⟨e, r⟩⟩⟩⟩⟩ <;> rw [hs] at h <;> simp at h <;> rfl
theorem res_rule {fn : Func} (h : fn.results = #[.cell 2 24, .tmp 3]) {tmps : Array Value} {b : Nat} {e : Int} {r : Ru} (hp : tmps.getD 2 undef = .pointer (some ⟨b, 0, none⟩)) (he : tmps.getD 3 undef = .int .i64 e)
    {vs : List Value} (o : Own w (cel b 24 vs :: R)) (hv : vs = ruC r) : (results fn tmps).run Tryz.prog w = .ok (prV (r, e)) w := by
  subst hv
  obtain ⟨st, c, f, l, y⟩ := r
  unfold ruC at o
  have c0 := o.cell 0
  have c1 := o.cell 1
  have c2 := o.cell 2
  have c3 := o.cell 3
  have c4 := o.cell 4
  dsimp only at c0 c1 c2 c3 c4
  rw [results_cell_tmp h, hp, he]
  unfold prV ruV
  go_simp
theorem calm_set {x : Addr} {v : Value} (h : Calm w w') : Calm w (w'.setCell x v) := ⟨h.os, h.tape, h.output⟩
theorem calm_alloc {x : Obj} (h : Calm w w') : Calm w (w'.alloc x) := ⟨h.os, h.tape, h.output⟩
theorem four {L : List (List UInt8)} (h : L.length = 4) : ∃ a b c d, L = [a, b, c, d] := by
  rcases L with _ | ⟨a, _ | ⟨b, _ | ⟨c, _ | ⟨d, _ | ⟨e, r⟩⟩⟩⟩⟩ <;> simp at h
  exact ⟨a, b, c, d, rfl⟩

set_option maxHeartbeats 25600000 in
set_option maxRecDepth 100000 in
theorem ruParse_short (s : ByteArray) (hs : s.size ≤ 1000000) (hm : MaxV W) (o : Own w (old W :: R)) (h4 : (spl 32 s.data.toList).length ≠ 4) :
    Calls Tryz.prog 28 #[.string s] w (Ret (prV (parseR s.data.toList)) (old W :: R) w) := by
  have o1 := o.alloc (.cells #[.string ⟨#[]⟩, .int .i64 0, .int .i64 0, .int .i64 0, .int .i64 0] 24)
  have hS := split_spec s (by omega) hm o1.swap _ o1
  have hl : s.data.toList.length = s.size := (Lib.size_eq s).symm
  have hsz := spl_len 32 s.data.toList
  obtain ⟨L, hL⟩ : ∃ L, spl 32 s.data.toList = L := ⟨_, rfl⟩
  rw [hL] at h4
  rw [hL] at hS hsz
  have HV := Lib.hid (parseR_else (by rw [hL]; exact h4))
  have h4' : ((L.length : Int) != 4) = true := by rw [bne_iff_ne]; omega
  go_enter Tryz.func28, Tryz.ntmps28
  go_wp2_with fail
  refine hS.mono ?_
  rintro e1 w1 ⟨a, c, rfl, o2, k2⟩
  have o3 := o2.up 1
  have r0 := Own.cell (T := 24) o3 0
  have r1 := Own.cell (T := 24) o3 1
  have r2 := Own.cell (T := 24) o3 2
  have r3 := Own.cell (T := 24) o3 3
  have r4 := Own.cell (T := 24) o3 4
  have rf := Own.frozen (T := 24) o3
  have rl := Own.celLt (T := 24) o3
  go_wp2
  have oZ : Own _ (cel w.heap.size 24 (ruC ru0) :: _) := ((((o3.setCell 0 (.string ⟨#[]⟩)).setCell 1 (.int .i64 0)).setCell 2 (.int .i64 0)).setCell 3 (.int .i64 0)).setCell 4 (.int .i64 0)
  refine bodyPost_ret (v := prV (ru0, 8)) ?_ rfl ?_
  · refine res_rule (b := w.heap.size) (r := ru0) (e := 8) Tryz.results28 ?_ ?_ oZ rfl
    · rfl
    · rfl
  · exact ⟨by rw [HV.out], oZ.drop.drop, calm_set (calm_set (calm_set (calm_set (calm_set k2.al))))⟩
set_option maxHeartbeats 25600000 in
set_option maxRecDepth 100000 in
theorem ruParse_empty (s : ByteArray) (hs : s.size ≤ 1000000) (hm : MaxV W) (o : Own w (old W :: R)) (a b c d : List UInt8) (hL : spl 32 s.data.toList = [a, b, c, d]) (h0 : a = []) :
    Calls Tryz.prog 28 #[.string s] w (Ret (prV (parseR s.data.toList)) (old W :: R) w) := by
  have o1 := o.alloc (.cells #[.string ⟨#[]⟩, .int .i64 0, .int .i64 0, .int .i64 0, .int .i64 0] 24)
  have hS := split_spec s (by omega) hm o1.swap _ o1
  have hl : s.data.toList.length = s.size := (Lib.size_eq s).symm
  have hsz := spl_len 32 s.data.toList
  rw [hL] at hS hsz
  have za := hsz a (by simp)
  have zb := hsz b (by simp)
  have zc := hsz c (by simp)
  have zd := hsz d (by simp)
  have hP := parseR_words hL
  clear hL hsz
  have ea := emptyB (mkB a)
  have sa := litB (mkB a) [42]
  have sb := litB (mkB b) [42]
  rw [mkB_data] at ea sa sb
  have NB := Lib.hid fun (w1 : World) (R1 : List SP) (o1 : Own w1 R1) => number_spec (mkB b) (by rw [mkB_size]; omega) o1
  have NT := Lib.hid fun (w1 : World) (R1 : List SP) (o1 : Own w1 R1) => number_spec (mkB d.tail) (by rw [mkB_size, List.length_tail]; omega) o1
  have ND := Lib.hid fun (w1 : World) (R1 : List SP) (o1 : Own w1 R1) => number_spec (mkB d) (by rw [mkB_size]; omega) o1
  have PC := Lib.hid fun (w1 : World) (R1 : List SP) (o1 : Own w1 (old W :: R1)) => ports_spec (mkB c) (by rw [mkB_size]; omega) hm o1
  have CP := Lib.hid fun (w1 : World) => prefix_spec (w := w1) d
  have VR := Lib.hid fun (r : Ru) (hr : r.st.length ≤ 2000000) (w1 : World) (R1 : List SP) (o1 : Own w1 R1) => ruValid_spec r hr o1
  unfold portsV at PC
  rw [mkB_data] at NB NT ND PC
  have KV : ∀ (st : List UInt8) (cls : Int), (if a = [42] then [] else a) = st → (if b = [42] then (-1 : Int) else (numV 5 b : Nat)) = cls → ruOf a b c d = ⟨st, cls, (portF c : Nat), (portL c : Nat), (numV 5 d.tail : Nat)⟩ := by
    rintro _ _ rfl rfl; rfl
  have hW : wordsOK a b c d = (!decide (a = []) && (decide (b = [42]) || numOK 5 b) && portOK c && decide (d.head? = some 62) && numOK 5 d.tail) := rfl
  rw [hW] at hP
  clear hW
  generalize portF c = pf at *
  generalize portL c = pl at *
  generalize portOK c = pok at *
  generalize hnd : numV 5 d.tail = nt at *
  generalize numOK 5 d.tail = kt at *
  generalize numV 5 d = nd at *
  generalize numOK 5 d = kd at *
  generalize hnb : numV 5 b = nb at *
  generalize numOK 5 b = kb at *
  obtain ⟨A, hA⟩ : ∃ A, mkB a = A := ⟨_, rfl⟩
  obtain ⟨B, hB⟩ : ∃ A, mkB b = A := ⟨_, rfl⟩
  obtain ⟨C, hC⟩ : ∃ A, mkB c = A := ⟨_, rfl⟩
  obtain ⟨D, hD⟩ : ∃ A, mkB d = A := ⟨_, rfl⟩
  rw [hA] at ea sa
  rw [hB] at sb NB
  rw [hC] at PC
  rw [hD] at ND CP
  have hS2 : Calls Tryz.prog 35 #[.string s, .string ⟨#[32]⟩] (w.alloc (.cells #[.string ⟨#[]⟩, .int .i64 0, .int .i64 0, .int .i64 0, .int .i64 0] 24)) fun e w1 => ∃ ad cc, e = .returned (.slice ad 4 cc) ∧ Own w1 (slc 9 1 ad 4 cc [.string A, .string B, .string C, .string D] :: cel w.heap.size 24 [.string ⟨#[]⟩, .int .i64 0, .int .i64 0, .int .i64 0, .int .i64 0] :: old W :: R) ∧ Calm w w1 := by
    subst hA hB hC hD
    refine hS.mono ?_
    rintro e w1 ⟨ad, cc, rfl, o2, k2⟩
    exact ⟨ad, cc, rfl, o2, ⟨k2.os, k2.tape, k2.output⟩⟩
  clear hS
  rw [decide_eq_true h0] at ea hP
  have HV := Lib.hid hP
  clear hP sa h0 hA hB hC hD KV
  go_enter Tryz.func28, Tryz.ntmps28
  go_wp2_with fail
  refine hS2.mono ?_
  rintro e1 w1 ⟨ad, cc, rfl, o2, k2⟩
  obtain ⟨g, rfl, hcell, hfr, hblt⟩ := o2.slc_cell (by decide)
  have s0 := hcell 0 (.string A) rfl
  have o3 := o2.up 1
  have r0 := Own.cell (T := 24) o3 0
  have r1 := Own.cell (T := 24) o3 1
  have r2 := Own.cell (T := 24) o3 2
  have r3 := Own.cell (T := 24) o3 3
  have r4 := Own.cell (T := 24) o3 4
  have rf := Own.frozen (T := 24) o3
  have rl := Own.celLt (T := 24) o3
  go_wp2
  have oZ : Own _ (cel w.heap.size 24 (ruC ru0) :: _) := ((((o3.setCell 0 (.string ⟨#[]⟩)).setCell 1 (.int .i64 0)).setCell 2 (.int .i64 0)).setCell 3 (.int .i64 0)).setCell 4 (.int .i64 0)
  refine bodyPost_ret (v := prV (ru0, 8)) ?_ rfl ?_
  · refine res_rule (b := w.heap.size) (r := ru0) (e := 8) Tryz.results28 ?_ ?_ oZ rfl
    · rfl
    · rfl
  · exact ⟨by rw [HV.out]; rfl, oZ.drop.drop, calm_set (calm_set (calm_set (calm_set (calm_set k2))))⟩
end
end Go.Proofs.YtbldanhjbnpdiaaGreatDoor
