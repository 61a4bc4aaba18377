/- The law CompTurns: the walk. -/
import Derived.Test.YtnandakoigmknaaTurnsP
import Derived.Test.YtnandakoigmknaaSpread
import Derived.Deep.DeepCutAuto
namespace Go.Proofs.Ytnandakoigmknaa
open Go.RowKit
open SP
section
variable {P : Program} {W w w' : World} {R : List SP} {b : Nat} {reb tm : Int} {el tg : List (Int × Int)} {t e : TypeId} {size bytes : Nat}

/-- The operation 'append(s, x...)' where x has no element. -/
theorem wpList_append_empty {ops : Array Oper} {rest : List Oper} {op : Oper} {A : Act} {Q : Exit → Act → World → Prop} (hgd : op.guard = none) (s x : Operand)
    (hop : op.op = .call { callee := .builtin .append, args := #[s, x], argTypes := #[t, t] })
    (E : ElemT P t e size bytes) {g n cap : Nat} (hs : A.eval s = .slice (some ⟨g, 0, none⟩) n cap) (hn : n ≤ cap) {a : Option Addr} {c : Nat} (hx : A.eval x = .slice a 0 c)
    (h : wpList P ops Q rest (A.put op.dst (.slice (some ⟨g, 0, none⟩) n cap)) w) : wpList P ops Q (op :: rest) A w := by
  obtain ⟨ht, ⟨i, z, hi, hz, rfl, rfl, hzs⟩, hsz⟩ := E
  refine wpList_plain hgd fun K hK => ?_
  have hr : (Builtin.append_ #[t, t] op.type #[.slice (some ⟨g, 0, none⟩) n cap, .slice a 0 c]).run P w = .ok (.slice (some ⟨g, 0, none⟩) n cap) w := by
    cases a <;> simp [Builtin.append_, run_underlying ht, sizeOf, typeInfo, hi, Builtin.lenOf, Builtin.firstCells, loadCells, loadCellsFrom, hn, storeCells]
  unfold Oper.wp execOp
  simp only [hop, resolve, invoke, builtin, Sem.run_bind, Sem.run_pure, Result.andThen_ok, List.map_toArray, List.map_cons, List.map_nil, hs, hx, hr]
  exact hK _ _ h

def needs (l : List (Int × Int)) : Bool := match l with
  | [] => true
  | p :: _ => !(p.1 == 0)
def withZero (l : List (Int × Int)) : List (Int × Int) := if needs l then (0, 1) :: l else l
theorem withZero_facts {l : List (Int × Int)} (h : l.Sublist fullSet) : (withZero l).Sublist fullSet ∧ (0 : Int) ∈ (withZero l).map (·.1) := by
  unfold withZero fullSet at *
  cases h with
  | cons _ h' =>
    have hn : needs l = true := by
      cases l with
      | nil => rfl
      | cons p l =>
        have : ∀ q ∈ [((1 : Int), (2 : Int)), (2, 3), (3, 1), (4, 16)], q.1 ≠ 0 := by decide
        have := this p (h'.subset (by simp))
        simpa [needs] using this
    rw [if_pos hn]
    exact ⟨h'.cons_cons _, by simp⟩
  | cons_cons _ h' =>
    rw [if_neg (by simp [needs])]
    exact ⟨h'.cons_cons _, by simp⟩

theorem addr_add (g j : Nat) : (⟨g, 0, none⟩ : Addr).add j = ⟨g, j, none⟩ := by unfold Addr.add; split <;> simp_all
theorem list5 {l : List Int} (h : l.length = 5) : ∃ a b c d e, l = [a, b, c, d, e] := by
  match l, h with
  | [a, b, c, d, e], _ => exact ⟨a, b, c, d, e, rfl⟩
theorem flat_part_one (l : List (Int × Int)) : ∀ u ∈ flat part l, u.oneCell' = true := by
  intro u hu
  unfold flat at hu
  obtain ⟨p, _, hp⟩ := List.mem_flatMap.1 hu
  simp [part] at hp
  rcases hp with rfl | rfl <;> rfl

def ServT (sz : Int) (i b : Nat) (reb : Int) (el : List (Int × Int)) (gs : List Int) (R : List SP) (w : World) (e : Ending) (w' : World) : Prop :=
  ∃ tg' tm', TInv sz (i + 1) el tg' tm' gs ∧ Ret (.int .i64 0) (OrderR b reb el tg' tm' :: R) w e w'
theorem serve_turn {sz : Int} {i : Nat} {gs : List Int} (h : TInv sz i el tg tm gs) (hi : i ≤ 100) (h0 : (0 : Int) ∈ el.map (·.1)) (o : Own w (OrderR b reb el tg tm :: R)) :
    ∃ f : Nat, leastF el tg = (f : Int) ∧ f < 5 ∧ Calls Try.prog 18 #[.pointer (some ⟨b, 0, none⟩), .int .i64 (f : Int), .int .i64 sz] w (ServT sz i b reb el (if f = 0 then [0, 0, 0, 0, 0] else gs.set f (gs.getD f 0 + 1)) R w) := by
  have hsz := h.base.szr
  obtain ⟨_, hu, hk, hl, hp⟩ := set_facts h.base.sub
  have hne : el ≠ [] := by rintro rfl; simp at h0
  obtain ⟨_, hE, _⟩ := h.base.serve hi hne (len := sz) hsz.1 (Int.le_refl _)
  obtain ⟨f, hf, hf5, h1, h2⟩ := h.serve hi h0
  rw [hf] at hE
  have ht := h.base.tm0
  refine ⟨f, hf, hf5, (serve_spec f sz hk (by omega) h.base.uniq (h.base.vals (by omega)) (by omega) o).mono ?_⟩
  intro e w' hp'
  unfold ServPost at hp'
  rw [if_neg (by rw [hE]; simp)] at hp'
  split at hp'
  · exact ⟨_, _, h1, hp'⟩
  · exact ⟨_, _, h2, hp'⟩

def TurnsRel (W : World) (hb cb gb wb : Nat) (reb sz : Int) (v : Value) (wr : World) : Prop :=
  ∃ (i : Nat) (el tg : List (Int × Int)) (tm : Int) (gs : List Int), v = .int .i64 (i : Int) ∧ i ≤ 80 ∧ TInv sz i el tg tm gs ∧
    Own wr [OrderR hb reb el tg tm, Ch W cb (1 + 5 * i), cel gb 45 (gs.map (Value.int .i64)), cel wb 2 [.int .i64 1, .int .i64 2, .int .i64 3, .int .i64 1, .int .i64 16], old W] ∧ Calm W wr

def ZeroRel (W : World) (hb cb gb N : Nat) (reb : Int) (el tg : List (Int × Int)) (tm : Int) (gs : List Int) (l : List (Int × Int)) (v : Value) (wr : World) : Prop :=
  ∃ a cap, v = .slice a l.length cap ∧ Own wr [slc 40 2 a l.length cap (flat part l), OrderR hb reb el tg tm, Ch W cb N, cel gb 45 (gs.map (Value.int .i64)), cel (gb + 1) 2 [.int .i64 1, .int .i64 2, .int .i64 3, .int .i64 1, .int .i64 16], old W] ∧ Calm W wr

set_option maxHeartbeats 3200000 in
set_option maxRecDepth 100000 in
theorem compTurns_walk (a0 : Option Addr) (len0 cap0 : Nat) (z0 : List Int) (a1 : Int) (w : World) (w0 : IsRow .i64 w a0 len0 cap0 z0) (w1 : (Lit.int .u16 a1).wf = true) :
    Calls Try.prog 4 #[.slice a0 len0 cap0, .int .u16 a1] w fun e w' => e = .returned (.bool true) ∧ Below w.heap.size w w' := by
  have hr16 : 0 ≤ a1 ∧ a1 ≤ 65535 := by
    simp only [Lit.wf, Bool.and_eq_true, decide_eq_true_eq] at w1
    rw [show IntKind.u16.min = 0 from by decide, show IntKind.u16.max = 65535 from by decide] at w1
    exact w1
  obtain ⟨sz, hsz⟩ : ∃ sz : Int, 1 + a1 % 4096 = sz := ⟨_, rfl⟩
  have hszr : 1 ≤ sz ∧ sz ≤ 4096 := by omega
  have oW := Own.start w
  go_enter Try.func4, Try.ntmps4
  go_wp2_with fail
  refine (genNew_spec a0 len0 cap0 z0 w0 oW).mono ?_
  rintro e1 v1 ⟨cb, rfl, o1, k1⟩
  have o2 := ((o1.alloc (.cells #[.int .i64 1099511627776, .int .i64 536870912] 2)).up 2).up 2
  go_wp2_with fail
  refine (next_spec w cb 0 2 _ _ (by omega) (by omega) (by omega) o2).mono ?_
  rintro e2 v2 ⟨x, hx0, hx1, rfl, o3, k3⟩
  obtain ⟨j, rfl⟩ : ∃ j : Nat, x = (j : Int) := ⟨x.toNat, by omega⟩
  obtain ⟨reb, hreb, hr1, hr2⟩ : ∃ reb : Int, [Value.int .i64 1099511627776, .int .i64 536870912][j]? = some (.int .i64 reb) ∧ 1 ≤ reb ∧ reb ≤ 1099511627776 := by
    have : j = 0 ∨ j = 1 := by omega
    rcases this with rfl | rfl
    · exact ⟨_, rfl, by omega, by omega⟩
    · exact ⟨_, rfl, by omega, by omega⟩
  have c := Own.cell (T := 2) (vs := [.int .i64 1099511627776, .int .i64 536870912]) (o3.up 2) j hreb
  clear hreb
  go_wp2_with fail
  refine (compNew_spec reb hr1 hr2 (o3.up 2).drop).mono ?_
  rintro e4 v4 ⟨hb, rfl, o4, k4⟩
  have o5 := (o4.alloc (.cells #[.int .i64 0, .int .i64 0, .int .i64 0, .int .i64 0, .int .i64 0] 45)).alloc (.cells #[.int .i64 1, .int .i64 2, .int .i64 3, .int .i64 1, .int .i64 16] 2)
  simp only [World.size_alloc] at o5
  have hT : TurnsRel w hb cb v4.heap.size (v4.heap.size + 1) reb sz (.int .i64 0) ((v4.alloc (.cells #[.int .i64 0, .int .i64 0, .int .i64 0, .int .i64 0, .int .i64 0] 45)).alloc (.cells #[.int .i64 1, .int .i64 2, .int .i64 3, .int .i64 1, .int .i64 16] 2)) :=
    ⟨0, [], [], 0, [0, 0, 0, 0, 0], rfl, by omega, TInv.zero (SInv.start hszr), (((o5.up 1).up 3).up 3), k1.trans (k3.al.trans ⟨k4.os, k4.tape, k4.output⟩)⟩
  go_wp2
  generalize v4.heap.size = gb at *
  go_loopw [11] (fun v wr => TurnsRel w hb cb gb (gb + 1) reb sz v wr) (fun v _ => 80 - (intOf v).toNat)
  case atStart => exact hT
  case round =>
    obtain ⟨i, el, tg, tm, gs, rfl, hi, hI, oR, kR⟩ := hrel
    by_cases hlt : i < 80
    · go_wp2_with fail
      refine (set23_spec (W := w) (b := cb) (1 + 5 * i) (by omega) ((oR.up 4).up 2)).mono ?_
      rintro e5 v5 ⟨l, a, cap, hl, rfl, o5, k5⟩
      go_upto_region 12 with fail
      go_cut [53] (fun v wc => v = .bool (needs l) ∧ wc = v5)
      case first =>
        cases l with
        | nil =>
          go_wp2
          go_meet
          exact ⟨rfl, rfl⟩
        | cons p l' =>
          obtain ⟨g, rfl, d0, d1⟩ := part_cells (i := 0) (y := p) o5 rfl (by simp)
          simp only [Nat.zero_mul] at d0
          have hln : ((p :: l').length : Int) = (l'.length : Int) + 1 := by simp
          have hl0 : ¬ ((l'.length : Int) + 1) = 0 := by omega
          have hl5 : (p :: l').length ≤ 5 := hl.length_le
          by_cases hp0 : p.1 = 0
          · have hnd : needs (p :: l') = false := by simp [needs, hp0]
            rw [hp0] at d0
            go_wp2
            go_meet
            exact ⟨by rw [hnd]; simp; omega, rfl⟩
          · have hnd : needs (p :: l') = true := by simp [needs, hp0]
            have HND := Lib.hid hnd
            clear hnd
            generalize p.1 = x at *
            go_wp2
            go_meet
            exact ⟨by rw [HND.out]; simp; omega, rfl⟩
      case rest =>
        obtain ⟨rfl, rfl⟩ := hcut
        obtain ⟨hz1, hz2⟩ := withZero_facts hl
        go_upto_if 53 with fail
        go_cut [12] (fun v wc => ZeroRel w hb cb gb (1 + 5 * i + 5) reb el tg tm gs (withZero l) v wc)
        case first =>
          cases hnd : needs l with
          | true =>
            have hw : withZero l = (0, 1) :: l := by unfold withZero; rw [hnd]; rfl
            have HW := Lib.hid hw
            clear hw hnd
            have hl5 : l.length ≤ 5 := hl.length_le
            have o6 := slc_new (size := 2) (n := 1) (o5.alloc (.cells #[.int .i64 0, .int .i64 1] 40)) rfl (by decide)
            by_cases hl0 : l.length = 0
            · have hln : l = [] := List.eq_nil_of_length_eq_zero hl0
              subst hln
              go_wp2_with (at_builtin; refine wpList_append_empty (n := 1) (cap := 1) (a := a) (c := cap) rfl _ _ rfl Try.partT rfl (Nat.le_refl _) rfl ?_)
              go_meet
              rw [HW.out]
              have o7 := (o6.up 1).drop
              exact ⟨_, _, rfl, (((((o7.up 2).up 5).up 5).up 4).up 5).up 5, kR.trans ⟨k5.os, k5.tape, k5.output⟩⟩
            · obtain ⟨g, rfl, hc, _, _⟩ := (o6.up 1).slc_cell (by omega)
              go_wp2_with (at_builtin; go_loud (refine wpList_append_slc rfl _ _ rfl Try.partT rfl o6 ⟨g, 0, none⟩ l.length cap (flat part l) rfl ?c1 ?c2 ?c3 ?c4 ?c5 ?c6))
              case c1 => rw [flat_length part_len]
              case c2 => intro j u hu; rw [addr_add]; exact hc j u hu
              case c3 => exact flat_part_one l
              case c4 => unfold maxLen; omega
              case c5 => omega
              case c6 =>
                intro a' cap' w6 o7 k7
                go_wp2
                go_meet
                rw [HW.out]
                have o8 := (o7.up 1).drop
                have e1 : Value.int .i64 0 :: Value.int .i64 1 :: flat part l = flat part ((0, 1) :: l) := rfl
                have e2 : 1 + l.length = ((0, 1) :: l).length := by rw [List.length_cons, Nat.add_comm]
                rw [e1, e2] at o8
                exact ⟨a', cap', by rw [e2], (((((o8.up 2).up 5).up 5).up 4).up 5).up 5, kR.trans (k5.trans ⟨k7.os, k7.tape, k7.output⟩)⟩
          | false =>
            have hw : withZero l = l := by unfold withZero; rw [hnd]; rfl
            have HW := Lib.hid hw
            clear hw hnd
            go_wp2
            go_meet
            rw [HW.out]
            exact ⟨a, cap, rfl, (((((o5.up 2).up 5).up 5).up 4).up 5).up 5, kR.trans k5⟩
        case rest =>
          obtain ⟨a', cap', rfl, o6, k6⟩ := hcut
          clear oR o5 kR k5
          generalize withZero l = lz at *
          obtain ⟨hgood, hu6, hk6, hl6, hp6⟩ := set_facts hz1
          have hI6 := hI.elig hz1 hz2
          rw [eligEl_self hu6] at hI6
          go_wp2_with fail
          refine (eligible_ok a' lz.length cap' lz rfl (by omega) hgood o6).mono ?_
          rintro e7 w7 ⟨rfl, o7, k7⟩
          rw [eligEl_self hu6] at o7
          generalize eligTg el tm lz tg = tg6 at *
          clear hgood
          go_wp2_with fail
          refine (select_spec hk6 (by omega) o7.drop).mono ?_
          rintro e8 w8 ⟨rfl, o8, k8⟩
          obtain ⟨f, hf, hf5, hserve⟩ := serve_turn hI6 (by omega) hz2 o8
          have hsv : selV lz tg6 = .tuple #[.int .i64 (f : Int), .int .i64 0] := by unfold selV; rw [hf, if_neg (by omega)]
          rw [hsv]
          clear hsv hf
          go_wp2_with fail
          refine hserve.mono ?_
          rintro e9 w9 ⟨tg', tm', hI9, rfl, o9, k9⟩
          have K9 := k6.trans (k7.trans (k8.trans k9))
          by_cases hf0 : f = 0
          · subst hf0
            have HI9 := Lib.hid hI9
            clear hI9
            have og := o9.up 2
            obtain ⟨g0, g1, g2, g3, g4, rfl⟩ := list5 hI.len
            have z0 := og.cell 0
            have z1 := og.cell 1
            have z2 := og.cell 2
            have z3 := og.cell 3
            have z4 := og.cell 4
            have zf := og.frozen
            have zl := og.celLt
            go_wp2
            go_roundw
            case rel =>
              refine ⟨i + 1, lz, tg', tm', [0, 0, 0, 0, 0], by go_num, by omega, HI9.out, ?_, ⟨K9.os, K9.tape, K9.output⟩⟩
              have oz := ((((og.setCell 0 (.int .i64 0)).setCell 1 (.int .i64 0)).setCell 2 (.int .i64 0)).setCell 3 (.int .i64 0)).setCell 4 (.int .i64 0)
              exact ((((oz.up 2) |> Ch.more).up 2)).up 0
            case measure => simp [intOf]; omega
          · rw [if_neg hf0] at hI9
            have hbd := hI9.bnd f hf5
            have hgl : f < (gs.map (Value.int .i64)).length := by rw [List.length_map, hI.len]; exact hf5
            obtain ⟨y, hy⟩ : ∃ y, gs[f]? = some y := ⟨_, List.getElem?_eq_getElem (by rw [hI.len]; exact hf5)⟩
            have hyd : gs.getD f 0 = y := by rw [List.getD_eq_getElem?_getD, hy]; rfl
            rw [hyd] at hI9 hbd
            have hyy : (gs.set f (y + 1)).getD f 0 = y + 1 := by rw [List.getD_eq_getElem?_getD, List.getElem?_set, if_pos rfl, if_pos (by rw [hI.len]; exact hf5)]; rfl
            rw [hyy] at hbd
            have og := o9.up 2
            have z := og.cell f (v := .int .i64 y) (by rw [List.getElem?_map, hy]; rfl)
            have zf := og.frozen
            have zl := og.celLt
            have og2 := og.setCell f (.int .i64 (y + 1))
            have z2 := fun n => (og2.drewN n).cell f (v := .int .i64 (y + 1)) (by rw [List.getElem?_set, if_pos rfl, if_pos hgl])
            have hwf : [Value.int .i64 1, .int .i64 2, .int .i64 3, .int .i64 1, .int .i64 16][f]? = some (.int .i64 (wf f)) := by
              have : f = 0 ∨ f = 1 ∨ f = 2 ∨ f = 3 ∨ f = 4 := by omega
              rcases this with rfl | rfl | rfl | rfl | rfl <;> rfl
            have t0 := fun n => ((og2.drewN n).up 3).cell f hwf
            have t1 := fun n => ((og2.drewN n).up 3).cell 0
            have hwr := wf_range f
            have HI9 := Lib.hid hI9
            have HY := Lib.hid hyd
            clear hI9 hwf hyd hyy hy hgl
            have hfb : ((f : Int) == 0) = false := by simpa using hf0
            generalize wf (f : Int) = wfv at *
            have hcm : decide (wfv + 1 < y + 1) = false := by simp; omega
            have htd : Int.tdiv wfv 1 = wfv := Int.tdiv_one _
            go_wp2
            go_quiet (fail)
            go_wp2
            go_roundw
            case rel =>
              refine ⟨i + 1, lz, tg', tm', gs.set f (y + 1), by go_num, by omega, HI9.out, ?_, ⟨K9.os, K9.tape, K9.output⟩⟩
              rw [List.map_set]
              exact ((((og2.drewN _).up 2) |> Ch.more).up 2).up 0
            case measure => simp [intOf]; omega
    · go_wp2_with fail
      refine (awake23_spec oR).mono ?_
      rintro e9 w9 ⟨rfl, o9, k9⟩
      go_wp2
      go_ret
      exact ⟨rfl, (o9.up 4).below (kR.trans k9)⟩
end
end Go.Proofs.Ytnandakoigmknaa
