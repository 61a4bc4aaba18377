/- The laws of chapter 10: equal lists of stations and flows. -/
import Derived.Test.YtladamlfbdbdgaaDoorFlE
namespace Go.Proofs.YtladamlfbdbdgaaDoor
open Go.RowKit
open SP
section
variable {W w w' : World} {R : List SP}
theorem staC_cells {a : Option Addr} {n c : Nat} {S : List Sta} (o : Own w (slc 64 4 a n c (flat staC S) :: R)) {i : Nat} {s : Sta} (hs : S[i]? = some s) (hn : 0 < n) :
    ∃ g, a = some ⟨g, 0, none⟩ ∧ w.cell? ⟨g, i * 4, none⟩ = some (.int .i64 s.id) ∧ w.cell? ⟨g, i * 4 + 1, none⟩ = some (.string s.nm) ∧ w.cell? ⟨g, i * 4 + 2, none⟩ = some (.int .i64 s.wt) ∧ w.cell? ⟨g, i * 4 + 3, none⟩ = some (.int .i64 s.rate) := by
  obtain ⟨g, rfl, hc, _, _⟩ := o.slc_cell hn
  refine ⟨g, rfl, ?_, ?_, ?_, ?_⟩
  · have := hc (i * 4 + 0) (.int .i64 s.id) (by rw [flat_get staC_len S i 0 s hs (by omega)]; rfl)
    rwa [Nat.add_zero] at this
  · exact hc (i * 4 + 1) _ (by rw [flat_get staC_len S i 1 s hs (by omega)]; rfl)
  · exact hc (i * 4 + 2) _ (by rw [flat_get staC_len S i 2 s hs (by omega)]; rfl)
  · exact hc (i * 4 + 3) _ (by rw [flat_get staC_len S i 3 s hs (by omega)]; rfl)
theorem floC_cells {a : Option Addr} {n c : Nat} {F : List Flo} (o : Own w (slc 67 7 a n c (flat floC F) :: R)) {i : Nat} {f : Flo} (hf : F[i]? = some f) (hn : 0 < n) :
    ∃ g, a = some ⟨g, 0, none⟩ ∧ w.cell? ⟨g, i * 7, none⟩ = some (.int .i64 f.id) ∧ w.cell? ⟨g, i * 7 + 1, none⟩ = some (.int .i64 f.stn) ∧ w.cell? ⟨g, i * 7 + 2, none⟩ = some (.int .i64 f.wt) ∧ w.cell? ⟨g, i * 7 + 3, none⟩ = some (.int .i64 f.pk) ∧ w.cell? ⟨g, i * 7 + 4, none⟩ = some (.int .i64 f.bts) ∧ w.cell? ⟨g, i * 7 + 5, none⟩ = some (.int .i64 f.lag) ∧ w.cell? ⟨g, i * 7 + 6, none⟩ = some (.int .i64 f.lead) := by
  obtain ⟨g, rfl, hc, _, _⟩ := o.slc_cell hn
  refine ⟨g, rfl, ?_, ?_, ?_, ?_, ?_, ?_, ?_⟩
  · have := hc (i * 7 + 0) (.int .i64 f.id) (by rw [flat_get floC_len F i 0 f hf (by omega)]; rfl)
    rwa [Nat.add_zero] at this
  · exact hc (i * 7 + 1) _ (by rw [flat_get floC_len F i 1 f hf (by omega)]; rfl)
  · exact hc (i * 7 + 2) _ (by rw [flat_get floC_len F i 2 f hf (by omega)]; rfl)
  · exact hc (i * 7 + 3) _ (by rw [flat_get floC_len F i 3 f hf (by omega)]; rfl)
  · exact hc (i * 7 + 4) _ (by rw [flat_get floC_len F i 4 f hf (by omega)]; rfl)
  · exact hc (i * 7 + 5) _ (by rw [flat_get floC_len F i 5 f hf (by omega)]; rfl)
  · exact hc (i * 7 + 6) _ (by rw [flat_get floC_len F i 6 f hf (by omega)]; rfl)
def EqRelN (n : Nat) (w : World) (v : Value) (wr : World) : Prop := ∃ (i q : Nat), v = .int .i64 (i : Int) ∧ i ≤ n ∧ wr = w.drewN q
set_option maxHeartbeats 1600000 in
set_option maxRecDepth 100000 in
theorem equalF_spec {a1 a2 : Option Addr} {n c1 c2 : Nat} {F : List Flo} (hn : n = F.length) (hn2 : n ≤ 1000) (o : Own w (slc 67 7 a1 n c1 (flat floC F) :: slc 67 7 a2 n c2 (flat floC F) :: R)) :
    Calls Tryd.prog 41 #[.slice a1 n c1, .slice a2 n c2] w (Ret (.bool true) (slc 67 7 a1 n c1 (flat floC F) :: slc 67 7 a2 n c2 (flat floC F) :: R) w) := by
  have HN := Lib.hid hn
  clear hn
  go_enter Tryd.func41, Tryd.ntmps41
  go_wp2
  go_loopw [5] (fun v wr => EqRelN n w v wr) (fun v _ => n - (intOf v).toNat)
  case atStart => exact ⟨0, 0, rfl, by omega, rfl⟩
  case round =>
    obtain ⟨i, q, rfl, hi, rfl⟩ := hrel
    by_cases hlt : i < n
    · obtain ⟨f, hf⟩ : ∃ f, F[i]? = some f := ⟨_, List.getElem?_eq_getElem (by rw [← HN.out]; exact hlt)⟩
      obtain ⟨g1, hg1, d0, d1, d2, d3, d4, d5, d6⟩ := floC_cells o hf (by omega)
      obtain ⟨g2, hg2, f0, f1, f2, f3, f4, f5, f6⟩ := floC_cells (o.up 1) hf (by omega)
      subst hg1
      subst hg2
      go_wp2
      go_quiet (fail)
      go_wp2
      go_roundw
      case rel => exact ⟨i + 1, _, by go_num, by omega, rfl⟩
      case measure => simp [intOf]; omega
    · go_wp2
      go_ret
      exact ⟨rfl, o.drewN q, ⟨rfl, rfl, rfl⟩⟩
set_option maxHeartbeats 1600000 in
set_option maxRecDepth 100000 in
theorem equalS_spec {a1 a2 : Option Addr} {n c1 c2 : Nat} {F : List Sta} (hn : n = F.length) (hn2 : n ≤ 1000) (o : Own w (slc 64 4 a1 n c1 (flat staC F) :: slc 64 4 a2 n c2 (flat staC F) :: R)) :
    Calls Tryd.prog 39 #[.slice a1 n c1, .slice a2 n c2] w (Ret (.bool true) (slc 64 4 a1 n c1 (flat staC F) :: slc 64 4 a2 n c2 (flat staC F) :: R) w) := by
  have HN := Lib.hid hn
  clear hn
  go_enter Tryd.func39, Tryd.ntmps39
  go_wp2
  go_loopw [5] (fun v wr => EqRelN n w v wr) (fun v _ => n - (intOf v).toNat)
  case atStart => exact ⟨0, 0, rfl, by omega, rfl⟩
  case round =>
    obtain ⟨i, q, rfl, hi, rfl⟩ := hrel
    by_cases hlt : i < n
    · obtain ⟨f, hf⟩ : ∃ f, F[i]? = some f := ⟨_, List.getElem?_eq_getElem (by rw [← HN.out]; exact hlt)⟩
      obtain ⟨g1, hg1, d0, d1, d2, d3⟩ := staC_cells o hf (by omega)
      obtain ⟨g2, hg2, f0, f1, f2, f3⟩ := staC_cells (o.up 1) hf (by omega)
      subst hg1
      subst hg2
      go_wp2
      have hba := ba_self
      go_quiet (fail)
      go_wp2
      go_roundw
      case rel => exact ⟨i + 1, _, by go_num, by omega, rfl⟩
      case measure => simp [intOf]; omega
    · go_wp2
      go_ret
      exact ⟨rfl, o.drewN q, ⟨rfl, rfl, rfl⟩⟩
end
end Go.Proofs.YtladamlfbdbdgaaDoor
