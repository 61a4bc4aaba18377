/- The program's table: AddFlow, SetWeight, SetCaps, SetBounds, Remove. -/
import Derived.Test.YtladamlfbdbdgaaDoorFlB
namespace Go.Proofs.YtladamlfbdbdgaaDoor
open Go.RowKit
open SP
section
variable {W w w' : World} {R : List SP} {b : Nat} {T : Tab}

theorem Own.stPush {A : SP} {l : List SP} (o : Own w (A :: SP.st l :: R)) : Own w (SP.st (l ++ [A]) :: R) := by
  have o1 := Own.st.1 o.swap
  refine Own.st.2 ?_
  rw [List.append_assoc]
  exact o1
theorem addFlow_err {s x er : Int} (h : floErr T s x = er) (hne : er ≠ 0) : floId T s x = 0 ∧ floT T s x = T := by
  unfold floId floT
  rw [h, if_neg hne, if_neg hne]
  exact ⟨rfl, rfl⟩

set_option maxHeartbeats 3200000 in
set_option maxRecDepth 100000 in
theorem addFlow_spec (s x : Int) (hT : T.Ok) (o : Own w (FlowP b T :: R)) :
    Calls Tryd.prog 13 #[.pointer (some ⟨b, 0, none⟩), .int .i64 s, .int .i64 x] w (Ret (.tuple #[.int .i64 (floId T s x), .int .i64 (floErr T s x)]) (FlowP b (floT T s x) :: R) w) := by
  have hsl := hT.sl
  have hfl := hT.fl
  have htr := totF_range T.F hT.fwt
  have hcap := hT.cap
  obtain ⟨sa, sc, mb, fa, fc, ps, hp, o1⟩ := FlowP.iff.1 o
  have hpl := hp.len
  have c2 := o1.cell 2
  have c4 := o1.cell 4
  have c5 := o1.cell 5
  have c0 := o1.cell 0
  have hwt := weighty_spec (w := w) x
  by_cases h1 : s < 0 ∨ (T.S.length : Int) ≤ s
  · have hE : floErr T s x = 6 := by unfold floErr; rw [if_pos h1]
    obtain ⟨e2, e3⟩ := addFlow_err hE (by omega)
    rw [hE, e2, e3]
    clear hE e2 e3 hwt
    rcases h1 with h1 | h1
    · go_enter Tryd.func13, Tryd.ntmps13
      go_wp2
      go_ret2
      exact ⟨rfl, o, Calm.refl w⟩
    · have h2 : ¬ s < 0 := by omega
      go_enter Tryd.func13, Tryd.ntmps13
      go_wp2
      go_ret2
      exact ⟨rfl, o, Calm.refl w⟩
  have g1 : decide (s < 0) = false := decide_eq_false (by omega)
  have g2 : decide ((T.S.length : Int) ≤ s) = false := decide_eq_false (by omega)
  by_cases h2 : badW x
  · have hE : floErr T s x = 1 := by unfold floErr; rw [if_neg h1, if_pos h2]
    obtain ⟨e2, e3⟩ := addFlow_err hE (by omega)
    rw [hE, e2, e3]
    rw [decide_eq_false (by unfold badW at h2; exact h2)] at hwt
    clear hE e2 e3 h1 h2
    go_enter Tryd.func13, Tryd.ntmps13
    go_wp2_with fail
    refine hwt.mono ?_
    rintro e4 w4 ⟨rfl, rfl⟩
    go_wp2
    go_ret2
    exact ⟨rfl, o, Calm.refl w⟩
  have hx : 1 ≤ x ∧ x ≤ 16 := by unfold badW at h2; omega
  rw [decide_eq_true hx] at hwt
  by_cases h3 : T.F.length = 32
  · have hE : floErr T s x = 4 := by unfold floErr; rw [if_neg h1, if_neg h2, if_pos h3]
    obtain ⟨e2, e3⟩ := addFlow_err hE (by omega)
    rw [hE, e2, e3]
    rw [h3] at c4
    clear hE e2 e3 h1 h2 h3
    go_enter Tryd.func13, Tryd.ntmps13
    go_wp2_with fail
    refine hwt.mono ?_
    rintro e4 w4 ⟨rfl, rfl⟩
    go_wp2
    go_ret2
    exact ⟨rfl, o, Calm.refl w⟩
  have g3 : ((T.F.length : Int) == 32) = false := by rw [beq_eq_false_iff_ne]; omega
  have hwr : IntKind.i64.wrap (totF T.F + x) = totF T.F + x := by rw [IntKind.wrap_i64]; omega
  by_cases h4 : T.cap < totF T.F + x
  · have hE : floErr T s x = 12 := by unfold floErr; rw [if_neg h1, if_neg h2, if_neg h3, if_pos h4]
    obtain ⟨e2, e3⟩ := addFlow_err hE (by omega)
    rw [hE, e2, e3]
    have g4 : decide (T.cap < totF T.F + x) = true := decide_eq_true h4
    clear hE e2 e3 h1 h2 h3 h4
    go_enter Tryd.func13, Tryd.ntmps13
    go_wp2_with fail
    refine hwt.mono ?_
    rintro e4 w4 ⟨rfl, rfl⟩
    go_wp2
    go_quiet (fail)
    go_wp2
    go_ret2
    exact ⟨rfl, o.drewN _, ⟨rfl, rfl, rfl⟩⟩
  have g4 : decide (T.cap < totF T.F + x) = false := decide_eq_false h4
  have hE : floErr T s x = 0 := by unfold floErr; rw [if_neg h1, if_neg h2, if_neg h3, if_neg h4]
  have e2 : floId T s x = T.F.length := by unfold floId; rw [hE]; rfl
  have e3 : floT T s x = { T with F := T.F ++ [(newF T s x, true)] } := by unfold floT; rw [hE]; rfl
  rw [hE, e2, e3]
  have HF := Lib.hid (show floC (newF T s x) = [.int .i64 (T.F.length : Int), .int .i64 s, .int .i64 x, .int .i64 64, .int .i64 262144, .int .i64 1099511627776, .int .i64 1099511627776] from rfl)
  clear hE e2 e3 h1 h2 h3 h4
  have hbw := o1.celLt
  have hfr := o1.frozen
  go_enter Tryd.func13, Tryd.ntmps13
  go_wp2_with fail
  refine hwt.mono ?_
  rintro e4 w4 ⟨rfl, rfl⟩
  go_wp2
  go_quiet (fail)
  have oA0 := (((o1.drewN nq).alloc (.cells #[.int .i64 (T.F.length : Int), .int .i64 s, .int .i64 x, .int .i64 64, .int .i64 262144, .int .i64 1099511627776, .int .i64 1099511627776] 67)).alloc
    (.cells #[.pointer (some ⟨w.heap.size, 0, none⟩)] 65))
  have hsz : ((w.drewN nq).alloc (.cells #[.int .i64 (T.F.length : Int), .int .i64 s, .int .i64 x, .int .i64 64, .int .i64 262144, .int .i64 1099511627776, .int .i64 1099511627776] 67)).heap.size = w.heap.size + 1 := by simp
  rw [hsz] at oA0
  clear hsz
  have oA := oA0.up 5
  go_wp2_with (at_builtin; refine wpList_append_slc rfl _ _ rfl Tryd.ptrT rfl oA ⟨w.heap.size + 1, 0, none⟩ 1 1 [.pointer (some ⟨w.heap.size, 0, none⟩)] rfl rfl ?d1 ?d2 ?d3 ?d4 ?d5)
  case d1 => exact Own.news (T := 65) oA0
  case d2 => intro u hu; simp at hu; rcases hu with rfl; rfl
  case d3 => unfold maxLen; omega
  case d4 => omega
  case d5 =>
    intro a' c' w6 o6 k6
    have q := o6.up 3
    have q4 := q.cell 4
    have q5 := q.cell 5
    have qf := q.frozen
    have ql := q.celLt
    have oS := (q.setCell 4 (.slice a' (T.F.length + 1) c'))
    have p5 := oS.cell 5
    have oS2 := oS.setCell 5 (.int .i64 (totF T.F + x))
    go_wp2
    go_ret2
    have oE : Own _ (cel w.heap.size 67 (floC (newF T s x)) :: SP.st (blks ps T.F) :: _) := oS2.re [3, 6, 0, 4, 5, 1, 2]
    have oF := oE.stPush
    rw [← blks_append hpl (f := newF T s x) (c := true)] at oF
    refine ⟨rfl, FlowP.iff.2 ⟨sa, sc, mb, a', c', ps ++ [some w.heap.size], ?_, ?_⟩, ⟨k6.os, k6.tape, k6.output⟩⟩
    · unfold PtrOk at hp ⊢
      rw [List.map_append, List.map_append, hp]; rfl
    · have e4 : totF (T.F ++ [(newF T s x, true)]) = totF T.F + x := by rw [totF_append]; simp [totF, newF]
      rw [show ({ T with F := T.F ++ [(newF T s x, true)] } : Tab).F = T.F ++ [(newF T s x, true)] from rfl, e4, List.length_append, List.map_append]
      exact oF.re [5, 1, 2, 3, 4, 0] 1
end
end Go.Proofs.YtladamlfbdbdgaaDoor
