/- The program's table: Stations, Station, Flow, Flows. -/
import Derived.Test.YtladamlfbdbdgaaDoorFlD
import Derived.Laws.ResultCell
namespace Go.Proofs.YtladamlfbdbdgaaDoor
open Go.RowKit
open SP
section
variable {W w w' : World} {R : List SP} {b : Nat} {T : Tab}

theorem slc_src {e : TypeId} {size : Nat} {a : Option Addr} {n c : Nat} {xs : List Value} (h1 : ∀ u ∈ xs, u.oneCell' = true) (o : Own w (slc e size a n c xs :: R)) : IsSrc w (.slice a n c) size n xs := by
  have hl := o.slc_len.1
  refine ⟨a, c, rfl, hl, h1, ?_⟩
  rcases Own.slc.1 o with ⟨_, h, _⟩ | ⟨g, sp, rfl, _, _, _, _, o1⟩
  · exact .inl h
  · refine .inr ⟨_, rfl, fun j u hu => ?_⟩
    have hadd : (⟨g, 0, none⟩ : Addr).add j = ⟨g, j, none⟩ := by unfold Addr.add; split <;> simp_all
    rw [hadd]
    exact Own.cell o1 j (by rw [List.getElem?_append_left (List.getElem?_eq_some_iff.1 hu).1]; exact hu)
theorem staC_one (S : List Sta) : ∀ u ∈ flat staC S, u.oneCell' = true := by
  intro u hu
  obtain ⟨s, _, hs⟩ := List.mem_flatMap.1 hu
  unfold staC at hs
  simp at hs
  rcases hs with rfl | rfl | rfl | rfl <;> rfl
theorem floC_one (F : List Flo) : ∀ u ∈ flat floC F, u.oneCell' = true := by
  intro u hu
  obtain ⟨s, _, hs⟩ := List.mem_flatMap.1 hu
  unfold floC at hs
  simp at hs
  rcases hs with rfl | rfl | rfl | rfl | rfl | rfl | rfl <;> rfl

set_option maxHeartbeats 1600000 in
set_option maxRecDepth 100000 in
theorem cloneS_spec {a : Option Addr} {n c : Nat} {S : List Sta} (hn : n ≤ 1000) (o : Own w (slc 64 4 a n c (flat staC S) :: R)) :
    Calls Tryd.prog 54 #[.slice a n c] w fun e w' => ∃ a' c', Ret (.slice a' n c') (slc 64 4 a' n c' (flat staC S) :: slc 64 4 a n c (flat staC S) :: R) w e w' := by
  have hnil := fun (w : World) (a : Option Addr) (n c : Nat) => Lib.run_eql_slice_nil w 56 64 a n c 0 0 Tryd.underlying56
  rcases Own.slc.1 o with ⟨rfl, rfl, rfl, hS, o1⟩ | ⟨g, sp, rfl, h1, h2, h3, h4, o1⟩
  · have o2 := Own.slc_nil (e := 64) (size := 4) o
    rw [← hS] at o2
    clear hS
    go_enter Tryd.func54, Tryd.ntmps54
    go_wp2
    go_ret
    exact ⟨none, 0, rfl, o2, Calm.refl w⟩
  · clear o1 h1 h2 h3 h4 sp
    have oZ := slc_zero (e := 64) (size := 4) (o.alloc (.cells #[] 64))
    have hsrc := slc_src (staC_one S) (oZ.up 1)
    go_enter Tryd.func54, Tryd.ntmps54
    go_wp2_with (at_builtin; refine wpList_append_src rfl _ _ rfl Tryd.staT rfl oZ rfl hsrc (by unfold maxLen; omega) (by omega) ?k1)
    case k1 =>
      intro a' c' w6 o6 k6
      go_wp2
      go_ret
      exact ⟨a', c', rfl, o6, k6.al⟩

set_option maxHeartbeats 1600000 in
set_option maxRecDepth 100000 in
theorem stations_spec (hT : T.Ok) (o : Own w (FlowP b T :: R)) :
    Calls Tryd.prog 40 #[.pointer (some ⟨b, 0, none⟩)] w fun e w' => ∃ a' c', Ret (.slice a' T.S.length c') (slc 64 4 a' T.S.length c' (flat staC T.S) :: FlowP b T :: R) w e w' := by
  have hsl := hT.sl
  obtain ⟨sa, sc, mb, fa, fc, ps, hp, o1⟩ := FlowP.iff.1 o
  have c2 := o1.cell 2
  have hcl := cloneS_spec (n := T.S.length) (by omega) (o1.up 1)
  go_enter Tryd.func40, Tryd.ntmps40
  go_wp2_with fail
  refine hcl.mono ?_
  rintro e2 w2 ⟨a', c', rfl, o2, k2⟩
  clear hcl
  go_wp2
  go_ret
  refine ⟨a', c', rfl, ?_, k2⟩
  exact (FlowP.iff.2 ⟨sa, sc, mb, fa, fc, ps, hp, o2.re [2, 1, 3, 4, 5, 0]⟩).swap

def staZ : List Value := [.int .i64 0, .string ⟨#[]⟩, .int .i64 0, .int .i64 0]
def floZ : List Value := [.int .i64 0, .int .i64 0, .int .i64 0, .int .i64 0, .int .i64 0, .int .i64 0, .int .i64 0]
/-- The station with a number. -/
def getS (S : List Sta) (i : Int) : Option Sta := if i < 0 then none else S[i.toNat]?
def stnV (S : List Sta) (i : Int) : Value := match getS S i with
  | none => .tuple #[.agg staZ.toArray, .bool false]
  | some s => .tuple #[.agg (staC s).toArray, .bool true]
set_option maxHeartbeats 1600000 in
set_option maxRecDepth 100000 in
theorem station_spec (i : Int) (hT : T.Ok) (o : Own w (FlowP b T :: R)) :
    Calls Tryd.prog 43 #[.pointer (some ⟨b, 0, none⟩), .int .i64 i] w (Ret (stnV T.S i) (FlowP b T :: R) w) := by
  have hsl := hT.sl
  obtain ⟨sa, sc, mb, fa, fc, ps, hp, o1⟩ := FlowP.iff.1 o
  have c2 := o1.cell 2
  have hbl := o1.celLt
  unfold stnV getS
  by_cases h0 : i < 0
  · rw [if_pos h0]
    go_enter Tryd.func43, Tryd.ntmps43
    go_wp2
    (try simp only [Exit.inBlock, Exit.then])
    refine bodyPost_ret (v := .tuple #[.agg staZ.toArray, .bool false]) ?_ rfl ⟨rfl, o.more _, ⟨rfl, rfl, rfl⟩⟩
    rw [results_cell_tmp rfl]
    go_simp
    rfl
  · rw [if_neg h0]
    obtain ⟨k, rfl⟩ : ∃ k : Nat, i = (k : Int) := ⟨i.toNat, by omega⟩
    rw [Int.toNat_natCast]
    by_cases hk : k < T.S.length
    · obtain ⟨s, hs⟩ : ∃ s, T.S[k]? = some s := ⟨_, List.getElem?_eq_getElem hk⟩
      obtain ⟨g, rfl, hc, _, hgl⟩ := (o1.up 1).slc_cell (by omega)
      have d0 := hc (k * 4 + 0) (.int .i64 s.id) (by rw [flat_get staC_len T.S k 0 s hs (by omega)]; rfl)
      have d1 := hc (k * 4 + 1) (.string s.nm) (by rw [flat_get staC_len T.S k 1 s hs (by omega)]; rfl)
      have d2 := hc (k * 4 + 2) (.int .i64 s.wt) (by rw [flat_get staC_len T.S k 2 s hs (by omega)]; rfl)
      have d3 := hc (k * 4 + 3) (.int .i64 s.rate) (by rw [flat_get staC_len T.S k 3 s hs (by omega)]; rfl)
      rw [Nat.add_zero] at d0
      rw [hs]
      clear hc
      go_enter Tryd.func43, Tryd.ntmps43
      go_wp2
      (try simp only [Exit.inBlock, Exit.then])
      refine bodyPost_ret (v := .tuple #[.agg (staC s).toArray, .bool true]) ?_ rfl ⟨rfl, ?_, ⟨rfl, rfl, rfl⟩⟩
      · rw [results_cell_tmp rfl]
        go_simp
        rfl
      · exact o.more _
    · rw [List.getElem?_eq_none (by omega)]
      have hk' : (T.S.length : Int) ≤ (k : Int) := by omega
      go_enter Tryd.func43, Tryd.ntmps43
      go_wp2
      (try simp only [Exit.inBlock, Exit.then])
      refine bodyPost_ret (v := .tuple #[.agg staZ.toArray, .bool false]) ?_ rfl ⟨rfl, o.more _, ⟨rfl, rfl, rfl⟩⟩
      rw [results_cell_tmp rfl]
      go_simp
      rfl

def floV (F : List (Flo × Bool)) (i : Int) : Value := match getF F i with
  | none => .tuple #[.agg floZ.toArray, .bool false]
  | some s => .tuple #[.agg (floC s).toArray, .bool true]
set_option maxHeartbeats 1600000 in
set_option maxRecDepth 100000 in
theorem flowOf_spec (f : Int) (hT : T.Ok) (o : Own w (FlowP b T :: R)) :
    Calls Tryd.prog 44 #[.pointer (some ⟨b, 0, none⟩), .int .i64 f] w (Ret (floV T.F f) (FlowP b T :: R) w) := by
  have hfl := hT.fl
  have oA := o.more (.cells floZ.toArray 67)
  obtain ⟨sa, sc, mb, fa, fc, ps, hp, o1⟩ := FlowP.iff.1 oA
  obtain ⟨sa', sc', mb', fa', fc', ps', hp', o1'⟩ := FlowP.iff.1 o
  unfold floV
  cases hg : getF T.F f with
  | none =>
    have hget := flow_no hp hfl hg o1
    clear hg
    unfold floZ at hget
    go_enter Tryd.func44, Tryd.ntmps44
    go_wp2_with fail
    refine hget.mono ?_
    rintro e4 w4 ⟨rfl, rfl⟩
    clear hget
    go_wp2
    (try simp only [Exit.inBlock, Exit.then])
    refine bodyPost_ret (v := .tuple #[.agg floZ.toArray, .bool false]) ?_ rfl ⟨rfl, o.more _, ⟨rfl, rfl, rfl⟩⟩
    rw [results_cell_tmp rfl]
    go_simp
    rfl
  | some g =>
    obtain ⟨i, c, rfl, hgi, hci, hfp, hil⟩ := flowPtr_some hp' hg
    have oF := Own.focus (blks_at hci hgi) (o1'.up 4)
    dsimp only at oF
    have oB := oF.alloc (.cells floZ.toArray 67)
    have oC := Own.unfocus (i := i) (B := cel c 67 (floC g)) (blks_at hci hgi) (oB.re [1, 2])
    rw [blks_set (c' := true) hci hgi, set_self hgi] at oC
    have hget := flow_yes hp' hfl hfp (oC.re [2, 3, 4, 5, 0])
    have d0 : w.cell? ⟨c, 0, none⟩ = some (.int .i64 g.id) := oF.cell 0
    have d1 : w.cell? ⟨c, 1, none⟩ = some (.int .i64 g.stn) := oF.cell 1
    have d2 : w.cell? ⟨c, 2, none⟩ = some (.int .i64 g.wt) := oF.cell 2
    have d3 : w.cell? ⟨c, 3, none⟩ = some (.int .i64 g.pk) := oF.cell 3
    have d4 : w.cell? ⟨c, 4, none⟩ = some (.int .i64 g.bts) := oF.cell 4
    have d5 : w.cell? ⟨c, 5, none⟩ = some (.int .i64 g.lag) := oF.cell 5
    have d6 : w.cell? ⟨c, 6, none⟩ = some (.int .i64 g.lead) := oF.cell 6
    have dl := Own.celLt oF
    clear hg
    unfold floZ at hget
    go_enter Tryd.func44, Tryd.ntmps44
    go_wp2_with fail
    refine hget.mono ?_
    rintro e4 w4 ⟨rfl, rfl⟩
    clear hget
    go_wp2
    (try simp only [Exit.inBlock, Exit.then])
    refine bodyPost_ret (v := .tuple #[.agg (floC g).toArray, .bool true]) ?_ rfl ⟨rfl, o.more _, ⟨rfl, rfl, rfl⟩⟩
    rw [results_cell_tmp rfl]
    go_simp
    rfl

/-- The flows that are there. -/
def liveF (F : List (Flo × Bool)) : List Flo := (F.filter (·.2)).map (·.1)
theorem liveF_append (F G : List (Flo × Bool)) : liveF (F ++ G) = liveF F ++ liveF G := by unfold liveF; rw [List.filter_append, List.map_append]
theorem liveF_len (F : List (Flo × Bool)) : (liveF F).length ≤ F.length := by unfold liveF; rw [List.length_map]; exact List.length_filter_le _ _
theorem liveF_step {F : List (Flo × Bool)} {i : Nat} {g : Flo} {c : Bool} (h : F[i]? = some (g, c)) : liveF (F.take (i + 1)) = liveF (F.take i) ++ (if c = true then [g] else []) := by
  rw [List.take_add_one, liveF_append, h]
  cases c <;> rfl
end
end Go.Proofs.YtladamlfbdbdgaaDoor
