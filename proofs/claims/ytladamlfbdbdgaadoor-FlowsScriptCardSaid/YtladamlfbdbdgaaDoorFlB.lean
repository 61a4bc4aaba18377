/- The program's table: Find, AddStation, AddFlow. -/
import Derived.Test.YtladamlfbdbdgaaDoorFlA
import Derived.Test.YtladamlfbdbdgaaDoorApp
namespace Go.Proofs.YtladamlfbdbdgaaDoor
open Go.RowKit
open SP
section
variable {W w w' : World} {R : List SP} {b : Nat} {T : Tab}

theorem lookS (mb : Nat) {m : List (ByteArray × Int)} (o : Own w (mpS (Value.int .i64) mb m :: R)) (k : ByteArray) :
    (Instr.lookup 55 (.map (some mb)) (.string k) true).run Tryd.prog w = .ok (.tuple #[.int .i64 ((sget m k).getD 0), .bool (sget m k).isSome]) w := by
  rw [run_lookup_mpS Tryd.underlying55 Tryd.underlying9 Tryd.zeroValue3 o k true]
  cases sget m k <;> rfl

def findV (x : Option Int) : Value := .tuple #[.int .i64 (x.getD 0), .bool x.isSome]
set_option maxHeartbeats 1600000 in
set_option maxRecDepth 100000 in
theorem find_spec (n : ByteArray) (hT : T.Ok) (hs : n.size ≤ 2000000) (hW : TabsW W) (o : Own w (FlowP b T :: old W :: R)) :
    Calls Tryd.prog 19 #[.pointer (some ⟨b, 0, none⟩), .string n] w (Ret (findV (findT T.S n)) (FlowP b T :: old W :: R) w) := by
  have hf := labFold_spec n hs hW o.swap
  unfold findT
  by_cases hn : nameB n.data.toList = true
  · have e1 : foldE n = 0 := by unfold foldE; rw [if_pos hn]
    rw [e1] at hf
    rw [if_pos hn, ← sget_nmMap T.S hT.snm n hn]
    clear hn e1
    generalize foldS n = fs at hf ⊢
    go_enter Tryd.func19, Tryd.ntmps19
    go_wp2_with fail
    refine hf.mono ?_
    rintro e2 w2 ⟨rfl, o2, k2⟩
    clear hf
    obtain ⟨sa, sc, mb, fa, fc, ps, hp, o3⟩ := FlowP.iff.1 o2.swap
    have c3 := o3.cell 3
    have hlk := lookS mb (o3.up 2) fs
    go_wp2
    go_ret2
    exact ⟨rfl, o2.swap, k2⟩
  · have e1 : foldE n = 1 := by unfold foldE; rw [if_neg hn]
    rw [e1] at hf
    rw [if_neg hn]
    clear hn e1
    generalize foldS n = fs at hf
    go_enter Tryd.func19, Tryd.ntmps19
    go_wp2_with fail
    refine hf.mono ?_
    rintro e2 w2 ⟨rfl, o2, k2⟩
    clear hf
    go_wp2
    go_ret2
    exact ⟨rfl, o2.swap, k2⟩

theorem Tryd.staT : ElemT Tryd.prog 56 64 4 40 := ElemT.mk' Tryd.underlying56 (z := .agg #[.int .i64 0, .string ⟨#[]⟩, .int .i64 0, .int .i64 0]) (by kernel_rfl) (by kernel_rfl) (by omega)
theorem Tryd.ptrT : ElemT Tryd.prog 57 65 1 8 := ElemT.mk' Tryd.underlying57 (z := .pointer none) (by kernel_rfl) (by kernel_rfl) (by omega)
theorem Tryd.floT : ElemT Tryd.prog 44 67 7 56 := ElemT.mk' Tryd.underlying44 (z := .agg #[.int .i64 0, .int .i64 0, .int .i64 0, .int .i64 0, .int .i64 0, .int .i64 0, .int .i64 0]) (by kernel_rfl) (by kernel_rfl) (by omega)

def AddP (b : Nat) (T' : Tab) (id er : Int) (W : World) (R : List SP) (w : World) (e : Ending) (w' : World) : Prop :=
  Ret (.tuple #[.int .i64 id, .int .i64 er]) (FlowP b T' :: old W :: R) w e w'

set_option maxHeartbeats 3200000 in
set_option maxRecDepth 100000 in
theorem addStation_spec (n : ByteArray) (x r : Int) (hT : T.Ok) (hs : n.size ≤ 2000000) (hW : TabsW W) (o : Own w (FlowP b T :: old W :: R)) :
    Calls Tryd.prog 10 #[.pointer (some ⟨b, 0, none⟩), .string n, .int .i64 x, .int .i64 r] w (AddP b (staT T n x r) (staId T n x r) (staErr T n x r) W R w) := by
  have hf := labFold_spec n hs hW o.swap
  have hsl := hT.sl
  by_cases hn : nameB n.data.toList = true
  · have e1 : foldE n = 0 := by unfold foldE; rw [if_pos hn]
    have hfind : findT T.S n = sget (nmMap T.S) (foldS n) := by unfold findT; rw [if_pos hn, ← sget_nmMap T.S hT.snm n hn]
    rw [e1] at hf
    clear e1
    have hwt := weighty_spec (w := w) x
    by_cases hbad : badW x ∨ r < 0 ∨ T.rates ≤ r
    · have hE : staErr T n x r = 1 := by unfold staErr; rw [if_pos (.inr hbad)]
      have e2 : staId T n x r = 0 := by unfold staId; rw [hE]; rfl
      have e3 : staT T n x r = T := by unfold staT; rw [hE]; rfl
      rw [hE, e2, e3]
      clear hE e2 e3 hfind hn
      have HB := Lib.hid hbad
      clear hbad hwt
      generalize foldS n = fs at hf
      go_enter Tryd.func10, Tryd.ntmps10
      go_wp2_with fail
      refine hf.mono ?_
      rintro e2 w2 ⟨rfl, o2, k2⟩
      clear hf
      obtain ⟨sa, sc, mb, fa, fc, ps, hp, o3⟩ := FlowP.iff.1 o2.swap
      have c1 := o3.cell 1
      have c3 := o3.cell 3
      have hlk := lookS mb (o3.up 2) fs
      have hwt := weighty_spec (w := w2) x
      by_cases h1 : 1 ≤ x ∧ x ≤ 16
      · rw [decide_eq_true h1] at hwt
        have HB2 := Lib.hid (show r < 0 ∨ T.rates ≤ r by have := HB.out; unfold badW at this; omega)
        go_wp2_with fail
        refine hwt.mono ?_
        rintro e4 w4 ⟨rfl, rfl⟩
        go_wp2
        all_goals first
          | (go_ret2; exact ⟨rfl, o2.swap, k2⟩)
          | (exfalso; have := HB2.out; omega)
      · rw [decide_eq_false h1] at hwt
        clear h1
        go_wp2_with fail
        refine hwt.mono ?_
        rintro e4 w4 ⟨rfl, rfl⟩
        go_wp2
        all_goals go_ret2
        all_goals exact ⟨rfl, o2.swap, k2⟩
    · have hg : 1 ≤ x ∧ x ≤ 16 := by unfold badW at hbad; omega
      have hno : ¬ (nameB n.data.toList = false ∨ badW x ∨ r < 0 ∨ T.rates ≤ r) := by
        rintro (h | h)
        · rw [hn] at h; cases h
        · exact hbad h
      have r1 : decide (r < 0) = false := decide_eq_false (by omega)
      have r2 : decide (T.rates ≤ r) = false := decide_eq_false (by omega)
      cases hgt : findT T.S n with
      | some id0 =>
        have hE : staErr T n x r = 7 := by unfold staErr; rw [if_neg hno, hgt]; rfl
        have e2 : staId T n x r = 0 := by unfold staId; rw [hE]; rfl
        have e3 : staT T n x r = T := by unfold staT; rw [hE]; rfl
        rw [hE, e2, e3]
        rw [hfind] at hgt
        clear hE e2 e3 hfind hn hno hbad hwt
        generalize foldS n = fs at hf hgt
        go_enter Tryd.func10, Tryd.ntmps10
        go_wp2_with fail
        refine hf.mono ?_
        rintro e2 w2 ⟨rfl, o2, k2⟩
        clear hf
        obtain ⟨sa, sc, mb, fa, fc, ps, hp, o3⟩ := FlowP.iff.1 o2.swap
        have c1 := o3.cell 1
        have c3 := o3.cell 3
        have hlk := lookS mb (o3.up 2) fs
        rw [hgt] at hlk
        clear hgt
        have hwt := weighty_spec (w := w2) x
        rw [decide_eq_true hg] at hwt
        go_wp2_with fail
        refine hwt.mono ?_
        rintro e4 w4 ⟨rfl, rfl⟩
        go_wp2
        go_ret2
        exact ⟨rfl, o2.swap, k2⟩
      | none =>
        by_cases h16 : T.S.length = 16
        · have hE : staErr T n x r = 4 := by unfold staErr; rw [if_neg hno, hgt]; simp [h16]
          have e2 : staId T n x r = 0 := by unfold staId; rw [hE]; rfl
          have e3 : staT T n x r = T := by unfold staT; rw [hE]; rfl
          rw [hE, e2, e3]
          rw [hfind] at hgt
          clear hE e2 e3 hfind hn hno hbad hwt
          generalize foldS n = fs at hf hgt
          go_enter Tryd.func10, Tryd.ntmps10
          go_wp2_with fail
          refine hf.mono ?_
          rintro e2 w2 ⟨rfl, o2, k2⟩
          clear hf
          obtain ⟨sa, sc, mb, fa, fc, ps, hp, o3⟩ := FlowP.iff.1 o2.swap
          have c1 := o3.cell 1
          have c2 := o3.cell 2
          have c3 := o3.cell 3
          have hlk := lookS mb (o3.up 2) fs
          rw [hgt] at hlk
          clear hgt
          rw [h16] at c2
          clear h16
          have hwt := weighty_spec (w := w2) x
          rw [decide_eq_true hg] at hwt
          go_wp2_with fail
          refine hwt.mono ?_
          rintro e4 w4 ⟨rfl, rfl⟩
          go_wp2
          go_ret2
          exact ⟨rfl, o2.swap, k2⟩
        · have hE : staErr T n x r = 0 := by unfold staErr; rw [if_neg hno, hgt]; simp [h16]
          have e2 : staId T n x r = T.S.length := by unfold staId; rw [hE]; rfl
          have e3 : staT T n x r = { T with S := T.S ++ [⟨T.S.length, n, x, r⟩] } := by unfold staT; rw [hE]; rfl
          rw [hE, e2, e3]
          rw [hfind] at hgt
          have hput := sput_none (nmMap T.S) (foldS n) (T.S.length : Int) hgt
          have hnm : nmMap (T.S ++ [⟨T.S.length, n, x, r⟩]) = nmMap T.S ++ [(foldS n, (T.S.length : Int))] := by unfold nmMap; rw [List.map_append]; rfl
          rw [← hnm] at hput
          have HPUT := Lib.hid hput
          clear hE e2 e3 hfind hn hno hbad hwt hnm hput
          generalize foldS n = fs at hf hgt HPUT
          have hle : ((T.S.length : Int) == 16) = false := by rw [beq_eq_false_iff_ne]; omega
          go_enter Tryd.func10, Tryd.ntmps10
          go_wp2_with fail
          refine hf.mono ?_
          rintro e2 w2 ⟨rfl, o2, k2⟩
          clear hf
          obtain ⟨sa, sc, mb, fa, fc, ps, hp, o3⟩ := FlowP.iff.1 o2.swap
          have c1 := o3.cell 1
          have c2 := o3.cell 2
          have c3 := o3.cell 3
          have hlk := lookS mb (o3.up 2) fs
          rw [hgt] at hlk
          clear hgt
          have hwt := weighty_spec (w := w2) x
          rw [decide_eq_true hg] at hwt
          go_wp2_with fail
          refine hwt.mono ?_
          rintro e4 w4 ⟨rfl, rfl⟩
          go_wp2_with (at_mapUpdate; refine wpList_mapUpdate_mpS rfl _ _ _ rfl Tryd.underlying55 Tryd.underlying9 (o3.up 2) fs (T.S.length : Int) rfl rfl rfl ?c1)
          case c1 =>
            intro w5 o5 k5
            rw [HPUT.out] at o5
            have d2 := (o5.up 1).cell 2
            have hsz := o3.celLt
            have oN := ((o5.up 2).alloc (.cells #[.int .i64 (T.S.length : Int), .string n, .int .i64 x, .int .i64 r] 64)).up 1
            go_wp2_with (at_builtin; refine wpList_append_slc rfl _ _ rfl Tryd.staT rfl oN ⟨w5.heap.size, 0, none⟩ 1 1 [.int .i64 (T.S.length : Int), .string n, .int .i64 x, .int .i64 r] rfl rfl ?d1 ?d2 ?d3 ?d4 ?d5)
            case d1 => exact Own.news (T := 64) (o5.alloc _)
            case d2 => intro u hu; simp at hu; rcases hu with rfl | rfl | rfl | rfl <;> rfl
            case d3 => unfold maxLen; omega
            case d4 => omega
            case d5 =>
              intro a' c' w6 o6 k6
              have q := o6.up 3
              have q2 := q.cell 2
              have qf := q.frozen
              have ql := q.celLt
              have oS := q.setCell 2 (.slice a' (T.S.length + 1) c')
              go_wp2
              go_ret2
              have e3 : flat staC T.S ++ [.int .i64 (T.S.length : Int), .string n, .int .i64 x, .int .i64 r] = flat staC (T.S ++ [⟨T.S.length, n, x, r⟩]) := by rw [flat_append]; rfl
              rw [e3] at oS
              refine ⟨rfl, FlowP.iff.2 ⟨a', c', mb, fa, fc, ps, hp, ?_⟩, ⟨k6.os.trans (k5.os.trans k2.os), k6.tape.trans (k5.tape.trans k2.tape), k6.output.trans (k5.output.trans k2.output)⟩⟩
              rw [show ({ T with S := T.S ++ [⟨T.S.length, n, x, r⟩] } : Tab).S.length = T.S.length + 1 from by simp]
              exact oS.re [2, 0, 1, 3, 4, 5] 1
  · have e1 : foldE n = 1 := by unfold foldE; rw [if_neg hn]
    rw [e1] at hf
    have hE : staErr T n x r = 1 := by unfold staErr; rw [if_pos (.inl (by simpa using hn))]
    have e2 : staId T n x r = 0 := by unfold staId; rw [hE]; rfl
    have e3 : staT T n x r = T := by unfold staT; rw [hE]; rfl
    rw [hE, e2, e3]
    clear hE e2 e3 hn e1
    generalize foldS n = fs at hf
    go_enter Tryd.func10, Tryd.ntmps10
    go_wp2_with fail
    refine hf.mono ?_
    rintro e2 w2 ⟨rfl, o2, k2⟩
    clear hf
    obtain ⟨sa, sc, mb, fa, fc, ps, hp, o3⟩ := FlowP.iff.1 o2.swap
    have c3 := o3.cell 3
    have hlk := lookS mb (o3.up 2) fs
    go_wp2
    go_ret2
    exact ⟨rfl, o2.swap, k2⟩
end
end Go.Proofs.YtladamlfbdbdgaaDoor
