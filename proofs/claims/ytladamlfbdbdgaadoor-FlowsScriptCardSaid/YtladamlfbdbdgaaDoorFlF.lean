/- The program's table: Flows. -/
import Derived.Test.YtladamlfbdbdgaaDoorFlE
namespace Go.Proofs.YtladamlfbdbdgaaDoor
open Go.RowKit
open SP
section
variable {W w w' : World} {R : List SP} {b : Nat} {T : Tab}
def FlRel (b : Nat) (T : Tab) (sa : Option Addr) (sc mb : Nat) (fa : Option Addr) (fc : Nat) (ps : List (Option Nat)) (R : List SP) (w : World) (v3 v11 : Value) (wr : World) : Prop :=
  ∃ (i n c : Nat) (a : Option Addr), v3 = .slice a n c ∧ v11 = .int .i64 (i : Int) ∧ i ≤ T.F.length ∧ n = (liveF (T.F.take i)).length ∧
    Own wr (slc 67 7 a n c (flat floC (liveF (T.F.take i))) ::
      cel b 59 [.int .i64 T.cap, .int .i64 T.rates, .slice sa T.S.length sc, .map (some mb), .slice fa T.F.length fc, .int .i64 (totF T.F)] ::
      slc 64 4 sa T.S.length sc (flat staC T.S) :: mpS (Value.int .i64) mb (nmMap T.S) :: slc 65 1 fa T.F.length fc (ps.map ptrV) :: st (blks ps T.F) :: R) ∧ Calm w wr
set_option maxHeartbeats 3200000 in
set_option maxRecDepth 100000 in
theorem flows_spec (hT : T.Ok) (o : Own w (FlowP b T :: R)) :
    Calls Tryd.prog 20 #[.pointer (some ⟨b, 0, none⟩)] w fun e w' => ∃ a' c', Ret (.slice a' (liveF T.F).length c') (slc 67 7 a' (liveF T.F).length c' (flat floC (liveF T.F)) :: FlowP b T :: R) w e w' := by
  have hfl := hT.fl
  obtain ⟨sa, sc, mb, fa, fc, ps, hp, o1⟩ := FlowP.iff.1 o
  have hpl := hp.len
  have c4 := o1.cell 4
  have hrel0 : FlRel b T sa sc mb fa fc ps R w (.slice none 0 0) (.int .i64 0) w := ⟨0, 0, 0, none, rfl, rfl, by omega, rfl, Own.slc_nil (e := 67) (size := 7) o1, Calm.refl w⟩
  clear o1
  go_enter Tryd.func20, Tryd.ntmps20
  go_wp2
  go_loopw [3, 11] (fun v3 v11 wr => FlRel b T sa sc mb fa fc ps R w v3 v11 wr) (fun _ v _ => T.F.length - (intOf v).toNat)
  case atStart => exact hrel0
  case round =>
    clear hrel0 c4
    obtain ⟨i, n, c, a, rfl, rfl, hi, hn, oR, kR⟩ := hrel
    have hll := liveF_len (T.F.take i)
    rw [List.length_take] at hll
    have HN := Lib.hid hn
    have hn1 : n ≤ 32 := by omega
    clear hn
    by_cases hil : i < T.F.length
    · obtain ⟨⟨g, cc⟩, hgi⟩ : ∃ p, T.F[i]? = some p := ⟨_, List.getElem?_eq_getElem hil⟩
      obtain ⟨p, hpi, hpc⟩ := hp.at hgi
      have hls := liveF_step hgi
      obtain ⟨ga, rfl, hcell, _, _⟩ := (oR.up 4).slc_cell (by omega)
      have r1 := hcell i (ptrV p) (by rw [List.getElem?_map, hpi]; rfl)
      clear hcell
      cases p with
      | none =>
        have hcc : cc = false := by rw [← hpc]; rfl
        subst hcc
        rw [if_neg (by decide), List.append_nil] at hls
        have HLS := Lib.hid hls
        clear hls hpc
        have r2 : wr.cell? ⟨ga, i, none⟩ = some (.pointer none) := r1
        clear r1
        go_wp2
        go_roundw
        case rel => exact ⟨i + 1, n, c, a, rfl, by go_num, by omega, by rw [HLS.out]; exact HN.out, by rw [HLS.out]; exact oR, kR⟩
        case measure => simp [intOf]; omega
      | some k =>
        have hcc : cc = true := by rw [← hpc]; rfl
        subst hcc
        rw [if_pos rfl] at hls
        have HLS := Lib.hid hls
        clear hls hpc
        have r2 : wr.cell? ⟨ga, i, none⟩ = some (.pointer (some ⟨k, 0, none⟩)) := r1
        clear r1
        have oF := Own.focus (blks_at hpi hgi) (oR.up 5)
        dsimp only at oF
        have d0 : wr.cell? ⟨k, 0, none⟩ = some (.int .i64 g.id) := oF.cell 0
        have d1 : wr.cell? ⟨k, 1, none⟩ = some (.int .i64 g.stn) := oF.cell 1
        have d2 : wr.cell? ⟨k, 2, none⟩ = some (.int .i64 g.wt) := oF.cell 2
        have d3 : wr.cell? ⟨k, 3, none⟩ = some (.int .i64 g.pk) := oF.cell 3
        have d4 : wr.cell? ⟨k, 4, none⟩ = some (.int .i64 g.bts) := oF.cell 4
        have d5 : wr.cell? ⟨k, 5, none⟩ = some (.int .i64 g.lag) := oF.cell 5
        have d6 : wr.cell? ⟨k, 6, none⟩ = some (.int .i64 g.lead) := oF.cell 6
        clear oF
        have oN := (oR.alloc (.cells #[.int .i64 g.id, .int .i64 g.stn, .int .i64 g.wt, .int .i64 g.pk, .int .i64 g.bts, .int .i64 g.lag, .int .i64 g.lead] 67)).up 1
        go_wp2_with (at_builtin; refine wpList_append_slc rfl _ _ rfl Tryd.floT rfl oN ⟨wr.heap.size, 0, none⟩ 1 1 [.int .i64 g.id, .int .i64 g.stn, .int .i64 g.wt, .int .i64 g.pk, .int .i64 g.bts, .int .i64 g.lag, .int .i64 g.lead] rfl rfl ?c1 ?c2 ?c3 ?c4 ?c5)
        case c1 => exact Own.news (T := 67) (oR.alloc _)
        case c2 => intro u hu; simp at hu; rcases hu with rfl | rfl | rfl | rfl | rfl | rfl | rfl <;> rfl
        case c3 => unfold maxLen; omega
        case c4 => omega
        case c5 =>
          intro a' c' w1 o2 k2
          go_wp2
          go_roundw
          case rel =>
            refine ⟨i + 1, n + 1, c', a', rfl, by go_num, by omega, by rw [HLS.out, List.length_append, ← HN.out]; rfl, ?_, kR.trans k2.al⟩
            rw [HLS.out, flat_append]
            exact o2.re [1, 0] 1
          case measure => simp [intOf]; omega
    · have hie : i = T.F.length := by omega
      subst hie
      rw [List.take_length] at HN oR
      have hn := HN.out
      subst hn
      go_wp2
      go_ret
      exact ⟨a, c, rfl, (FlowP.iff.2 ⟨sa, sc, mb, fa, fc, ps, hp, oR.re [1, 2, 3, 4, 5, 0]⟩).swap, kR⟩
end
end Go.Proofs.YtladamlfbdbdgaaDoor
