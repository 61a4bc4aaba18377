/- Patterns: the reference's Match. -/
import Derived.Test.YtapingmjlpmmmaaDoorLbC
namespace Go.Proofs.YtapingmjlpmmmaaDoor
open Go.RowKit
open Go.Shelf
open SP
section
variable {W w w' : World} {R : List SP}

theorem runes_any (s : ByteArray) (hs : s.size ≤ 2000000) (o : Own w R) : Calls Tryd.prog 28 #[.string s] w fun e w' =>
    ∃ a n c rs, e = .returned (.tuple #[.slice a n c, .bool (Lib.validD s.data.toList)]) ∧ n = rs.length ∧ Own w' (slc 3 1 a n c (ints rs) :: R) ∧ Calm w w' ∧ (Lib.validD s.data.toList = true → rs = runesL s.data.toList) := by
  by_cases hv : Lib.validD s.data.toList = true
  · refine (runes_ok s hs o hv).mono ?_
    rintro e w' ⟨a, c, rfl, o1, k1⟩
    exact ⟨a, _, c, _, by rw [hv], rfl, o1, k1, fun _ => rfl⟩
  · refine (runes_no s hs o hv).mono ?_
    rintro e w' ⟨rfl, o1, k1⟩
    exact ⟨none, 0, 0, [], by rw [show Lib.validD s.data.toList = false by simpa using hv], rfl, o1.slc_nil, k1, fun h => absurd h hv⟩
theorem folded_any (s : ByteArray) (hs : s.size ≤ 2000000) (o : Own w R) : Calls Tryd.prog 29 #[.string s] w fun e w' =>
    ∃ a n c rs, e = .returned (.tuple #[.slice a n c, .bool (nameB s.data.toList)]) ∧ n = rs.length ∧ Own w' (slc 3 1 a n c (ints rs) :: R) ∧ Calm w w' ∧ (nameB s.data.toList = true → rs = foldR s.data.toList) := by
  by_cases hv : nameB s.data.toList = true
  · refine (folded_ok s hs o hv).mono ?_
    rintro e w' ⟨a, c, rfl, o1, k1⟩
    exact ⟨a, _, c, _, by rw [hv], rfl, o1, k1, fun _ => rfl⟩
  · refine (folded_no s hs o hv).mono ?_
    rintro e w' ⟨rfl, o1, k1⟩
    exact ⟨none, 0, 0, [], by rw [show nameB s.data.toList = false by simpa using hv], rfl, o1.slc_nil, k1, fun h => absurd h hv⟩

theorem View.ofSlc {a : Option Addr} {n c : Nat} {xs : List Nat} (o : Own w (slc 3 1 a n c (ints xs) :: R)) : View w a n xs ∧ n ≤ c ∧ c ≤ maxLen := by
  have hl := o.slc_len
  have hx : xs.length = n := by have := hl.1; unfold ints at this; rw [List.length_map] at this; omega
  refine ⟨⟨hx, ?_⟩, hl.2⟩
  by_cases hn : n = 0
  · exact .inl hn
  · obtain ⟨b, rfl, hc, _, _⟩ := o.slc_cell (by omega)
    exact .inr ⟨b, 0, rfl, fun j u hu => by rw [Nat.zero_add]; exact hc j _ (ints_get hu)⟩

theorem foldl_snoc (l : List Nat) (q : List Nat) (c : Nat) : (l ++ [c]).foldl dedup q = dedup (l.foldl dedup q) c := by rw [List.foldl_append]; rfl
theorem dedup_length (l : List Nat) : ∀ q : List Nat, (l.foldl dedup q).length ≤ q.length + l.length := by
  induction l with
  | nil => intro q; exact Nat.le_refl _
  | cons c l ih =>
    intro q
    refine Nat.le_trans (ih _) ?_
    unfold dedup
    split <;> simp <;> omega

theorem ints_snoc (l : List Nat) (r : Nat) : ints (l ++ [r]) = ints l ++ [.int .i64 (r : Int)] := by unfold ints; rw [List.map_append]; rfl
def MaRel (rs X : List Nat) (pa xa : Option Addr) (pc xc : Nat) (R : List SP) (w : World) (v9 v10 : Value) (wr : World) : Prop :=
  ∃ (i n c : Nat) (a : Option Addr) (q : List Nat), v10 = .int .i64 (i : Int) ∧ i ≤ rs.length ∧ v9 = .slice a n c ∧ n = q.length ∧ q = ((rs.take i).map foldN).foldl dedup [] ∧ (∀ r ∈ rs.take i, starN r = true) ∧
    Own wr (slc 3 1 a n c (ints q) :: slc 3 1 xa X.length xc (ints X) :: slc 3 1 pa rs.length pc (ints rs) :: R) ∧ Calm w wr

/-- The loop's answer. -/
def maB (rs X : List Nat) : Bool := rs.all starN && lk ((rs.map foldN).foldl dedup []) X

set_option maxHeartbeats 3200000 in
set_option maxRecDepth 100000 in
theorem refMatch_spec (p s : ByteArray) (hp : p.size ≤ 2000000) (hs : s.size ≤ 2000000) (o : Own w R) :
    Calls Tryd.prog 15 #[.string p, .string s] w (Ret (.bool (matchB p.data.toList s.data.toList)) R w) := by
  have hlp : p.data.toList.length = p.size := (Lib.size_eq p).symm
  have h1 := runes_any p hp o
  have h2 := Lib.hid fun (w1 : World) (R1 : List SP) (o1 : Own w1 R1) => folded_any s hs o1
  have hM : matchB p.data.toList s.data.toList = (Lib.validD p.data.toList && decide (1 ≤ p.size) && decide (p.size ≤ 24) && nameB s.data.toList && maB (runesL p.data.toList) (foldR s.data.toList)) := by
    unfold matchB patB maB
    rw [lk_foldl, List.nil_append, hlp]
    unfold foldR
    cases Lib.validD p.data.toList <;> cases nameB s.data.toList <;> cases decide (1 ≤ p.size) <;> cases decide (p.size ≤ 24) <;> simp
  rw [hM]
  clear hM
  have hsc := runesL_scalar p.data.toList
  have hln := runesL_length p.data.toList
  rw [hlp] at hln
  obtain ⟨vp, hvp⟩ : ∃ v, Lib.validD p.data.toList = v := ⟨_, rfl⟩
  obtain ⟨vs, hvs⟩ : ∃ v, nameB s.data.toList = v := ⟨_, rfl⟩
  obtain ⟨rs, hrs⟩ : ∃ v, runesL p.data.toList = v := ⟨_, rfl⟩
  obtain ⟨X, hX⟩ : ∃ v, foldR s.data.toList = v := ⟨_, rfl⟩
  rw [hvp, hrs] at h1
  rw [hvs, hX] at h2
  rw [hvp, hvs, hrs, hX]
  rw [hrs] at hsc hln
  clear hvp hvs hrs hX hlp
  go_enter Tryd.func15, Tryd.ntmps15
  go_wp2_with fail
  refine h1.mono ?_
  rintro e1 w1 ⟨pa, n1, pc, rs1, rfl, hn1, o1, k1, hr1⟩
  clear h1
  go_wp2_with fail
  refine (h2.out w1 _ o1).mono ?_
  rintro e2 w2 ⟨xa, n2, xc, X1, rfl, hn2, o2, k2, hx2⟩
  clear o1 h2
  have fin0 : ∀ (z : Bool), z = false → Ret (.bool z) R w (.returned (.bool false)) w2 := fun z h => ⟨by rw [h], o2.drop.drop, k1.trans k2⟩
  by_cases hok : vp = true ∧ vs = true ∧ 1 ≤ p.size ∧ p.size ≤ 24
  · obtain ⟨rfl, rfl, hz1, hz2⟩ := hok
    have e1 := hr1 rfl
    have e2 := hx2 rfl
    subst e1; subst e2; subst hn1; subst hn2
    have d1 : decide ((p.size : Int) < 1) = false := decide_eq_false (by omega)
    have d2 : decide (24 < (p.size : Int)) = false := decide_eq_false (by omega)
    have HT : ∀ b : Bool, (true && decide (1 ≤ p.size) && decide (p.size ≤ 24) && true && b) = b := by
      intro b; rw [decide_eq_true hz1, decide_eq_true hz2]; simp
    have HT := Lib.hid HT
    go_wp2
    go_loopw [9, 10] (fun v9 v10 wr => MaRel rs1 X1 pa xa pc xc R w v9 v10 wr) (fun _ v _ => rs1.length - (intOf v).toNat)
    case atStart => exact ⟨0, 0, 0, none, [], rfl, by omega, rfl, rfl, rfl, by simp, o2.slc_nil, k1.trans k2⟩
    case round =>
      obtain ⟨i, _, c, a, q, rfl, hi, rfl, rfl, hq, hall, oR, kR⟩ := hrel
      have HQ := Lib.hid hq
      have hql : q.length ≤ i := by
        have := dedup_length ((rs1.take i).map foldN) []
        rw [← hq, List.length_map, List.length_take] at this
        simp only [List.length_nil] at this
        omega
      clear hq
      by_cases hil : i < rs1.length
      · obtain ⟨r, hr⟩ : ∃ r, rs1[i]? = some r := ⟨_, List.getElem?_eq_getElem hil⟩
        have hrm := List.mem_of_getElem? hr
        have hrs := hsc r hrm
        have hr1 : r ≤ 1114111 := by unfold scalar at hrs; omega
        obtain ⟨g, rfl, hcell, _, hblt⟩ := (oR.up 2).slc_cell (by omega)
        have c0 := hcell i _ (ints_get hr)
        clear hcell
        have hlet := letterR_spec (w := wr) r hr1
        have hfo := foldR_spec (w := wr) r hr1
        have htk : rs1.take (i + 1) = rs1.take i ++ [r] := by rw [List.take_add_one, hr, Option.toList_some]
        have hall2 : starN r = true → ∀ x ∈ rs1.take (i + 1), starN x = true := by
          intro h x hx
          rw [htk] at hx
          rcases List.mem_append.1 hx with hx | hx
          · exact hall x hx
          · simp at hx; subst hx; exact h
        have hqn : dedup q (foldN r) = ((rs1.take (i + 1)).map foldN).foldl dedup [] := by
          rw [htk, List.map_append, List.map_cons, List.map_nil, foldl_snoc, ← HQ.out]
        clear htk hall
        have HA := Lib.hid hall2
        have HN := Lib.hid hqn
        clear hall2 hqn
        have hstar : letterN r = true ∨ r = 42 → starN r = true := by
          intro h; unfold starN
          rcases h with h | h
          · rw [h, Bool.or_true]
          · rw [decide_eq_true h, Bool.true_or]
        have NX0 : ∀ (a' : Option Addr) (c' n' : Nat) (w1 : World) (v : Nat) (v10 : Value), v10 = .int .i64 ((i + 1 : Nat) : Int) → v = foldN r → letterN r = true ∨ r = 42 → dedup q v = q ++ [v] → n' = q.length + 1 →
            Own w1 (slc 3 1 a' n' c' (ints q ++ [.int .i64 (v : Int)]) :: slc 3 1 xa X1.length xc (ints X1) :: slc 3 1 (some ⟨g, 0, none⟩) rs1.length pc (ints rs1) :: R) → Calm w w1 →
            MaRel rs1 X1 (some ⟨g, 0, none⟩) xa pc xc R w (.slice a' n' c') v10 w1 := by
          intro a' c' n' w1 v v10 h1 h2 h3 h4 h5 h6 h7
          subst h2
          refine ⟨i + 1, n', c', a', q ++ [foldN r], h1, by omega, rfl, by simp [h5], by rw [← HN.out, h4], HA.out (hstar h3), ?_, h7⟩
          rw [ints_snoc]; exact h6
        have NX := Lib.hid NX0
        clear NX0 hstar
        by_cases h42 : r = 42
        · subst h42
          rw [show foldN 42 = 42 from rfl] at hfo HN
          have hst : starN 42 = true := rfl
          by_cases hq0 : q.length = 0
          · have hq0' : q = [] := List.eq_nil_of_length_eq_zero hq0
            subst hq0'
            go_wp2_with fail
            refine hfo.mono ?_
            rintro e3 w3 ⟨rfl, rfl⟩
            have oN := (oR.alloc (.cells #[.int .i64 (42 : Int)] 3)).up 1
            go_wp2_with (at_builtin; refine wpList_append_slc rfl _ _ rfl Tryd.elemI rfl oN ⟨wr.heap.size, 0, none⟩ 1 1 [.int .i64 (42 : Int)] rfl rfl ?c1 ?c2 ?c3 ?c4 ?c5)
            case c1 => exact Own.news (T := 3) (oR.alloc _)
            case c2 => intro u hu; simp at hu; rcases hu with rfl; rfl
            case c3 => unfold maxLen; omega
            case c4 => omega
            case c5 =>
              intro a' c' w1 o3 k3
              go_wp2
              go_roundw
              case rel => exact NX.out _ _ _ _ 42 _ (by go_num) rfl (.inr (by first | rfl | trivial)) rfl rfl ((o3.up 1).drop) (kR.trans k3.al)
              case measure => simp [intOf]; omega
          · obtain ⟨m, hm⟩ : ∃ m, q.length = m + 1 := ⟨q.length - 1, by omega⟩
            obtain ⟨last, hlast⟩ : ∃ last, q[m]? = some last := ⟨_, List.getElem?_eq_getElem (by omega)⟩
            have hgl : q.getLast? = some last := by rw [List.getLast?_eq_getElem?, hm]; exact hlast
            rw [hm] at oR
            obtain ⟨g2, rfl, hcell2, _, hblt2⟩ := oR.slc_cell (by omega)
            have d0 := hcell2 m _ (ints_get hlast)
            clear hcell2 hq0 hlast
            by_cases hl42 : last = 42
            · subst hl42
              have hdd : dedup q 42 = q := by unfold dedup; rw [if_neg (by rw [hgl]; simp)]
              have HD := Lib.hid hdd
              clear hdd hgl
              go_wp2
              go_roundw
              case rel => exact ⟨i + 1, m + 1, c, _, q, by go_num, by omega, rfl, hm.symm, by rw [← HN.out, HD.out], HA.out rfl, oR, kR⟩
              case measure => simp [intOf]; omega
            · have hdd : dedup q 42 = q ++ [42] := by unfold dedup; rw [if_pos (.inr (by rw [hgl]; simpa using hl42))]
              have HD := Lib.hid hdd
              have f1 : ((last : Int) == 42) = false := beq_eq_false_iff_ne.2 (by omega)
              have f2 : (last == 42) = false := beq_eq_false_iff_ne.2 hl42
              have f3 : ((last : Int) != 42) = true := by simp [bne, f1]
              clear hdd hgl
              go_wp2_with fail
              refine hfo.mono ?_
              rintro e3 w3 ⟨rfl, rfl⟩
              have oN := (oR.alloc (.cells #[.int .i64 (42 : Int)] 3)).up 1
              go_wp2_with (at_builtin; refine wpList_append_slc rfl _ _ rfl Tryd.elemI rfl oN ⟨wr.heap.size, 0, none⟩ 1 1 [.int .i64 (42 : Int)] rfl rfl ?c1 ?c2 ?c3 ?c4 ?c5)
              case c1 => exact Own.news (T := 3) (oR.alloc _)
              case c2 => intro u hu; simp at hu; rcases hu with rfl; rfl
              case c3 => unfold maxLen; omega
              case c4 => omega
              case c5 =>
                intro a' c' w1 o3 k3
                go_wp2
                go_roundw
                case rel => exact NX.out _ _ _ _ 42 _ (by go_num) rfl (.inr (by first | rfl | trivial)) HD.out (by rw [hm]) ((o3.up 1).drop) (kR.trans k3.al)
                case measure => simp [intOf]; omega
        · have g1 : ((r : Int) == 42) = false := beq_eq_false_iff_ne.2 (by omega)
          have g2 : ((r : Int) != 42) = true := by simp [bne, g1]
          cases hb : letterN r with
          | false =>
            rw [hb] at hlet
            have hmf : maB rs1 X1 = false := by
              unfold maB
              rw [Bool.and_eq_false_iff]
              left
              rw [Bool.eq_false_iff, ne_eq, List.all_eq_true]
              intro h
              have := h r hrm
              unfold starN at this
              rw [hb, decide_eq_false h42] at this
              cases this
            have HF := Lib.hid hmf
            clear hmf
            go_wp2_with fail
            refine hlet.mono ?_
            rintro e2 w2 ⟨rfl, rfl⟩
            go_wp2
            go_ret
            exact ⟨by rw [HT.out, HF.out]; rfl, oR.drop.drop.drop, kR⟩
          | true =>
            rw [hb] at hlet
            have hst : starN r = true := by unfold starN; rw [hb, Bool.or_true]
            have HST := Lib.hid hst
            have hdd : dedup q (foldN r) = q ++ [foldN r] := by unfold dedup; rw [if_pos (.inl (by rw [ne_eq, foldN_star]; exact h42))]
            have HD := Lib.hid hdd
            clear hdd hst
            go_wp2_with fail
            refine hlet.mono ?_
            rintro e2 w2 ⟨rfl, rfl⟩
            go_wp2_with fail
            refine hfo.mono ?_
            rintro e3 w3 ⟨rfl, rfl⟩
            have oN := (oR.alloc (.cells #[.int .i64 (foldN r : Int)] 3)).up 1
            go_wp2_with (at_builtin; refine wpList_append_slc rfl _ _ rfl Tryd.elemI rfl oN ⟨wr.heap.size, 0, none⟩ 1 1 [.int .i64 (foldN r : Int)] rfl rfl ?c1 ?c2 ?c3 ?c4 ?c5)
            case c1 => exact Own.news (T := 3) (oR.alloc _)
            case c2 => intro u hu; simp at hu; rcases hu with rfl; rfl
            case c3 => unfold maxLen; omega
            case c4 => omega
            case c5 =>
              intro a' c' w1 o3 k3
              go_wp2
              go_roundw
              case rel => exact NX.out _ _ _ _ (foldN r) _ (by go_num) rfl (.inl hb) HD.out rfl ((o3.up 1).drop) (kR.trans k3.al)
              case measure => simp [intOf]; omega
      · have hie : i = rs1.length := by omega
        subst hie
        have vq := View.ofSlc oR
        have vx := View.ofSlc (oR.up 1)
        have hk := like_spec _ wr q X1 a xa q.length c X1.length xc (Nat.le_refl _) vq.2.1 vq.2.2 vx.2.1 vx.2.2 vq.1 vx.1
        have hm : maB rs1 X1 = lk q X1 := by
          unfold maB
          rw [List.take_length] at HQ hall
          rw [HQ.out, List.all_eq_true.2 hall, Bool.true_and]
        have HM := Lib.hid hm
        clear vq vx hm
        go_wp2_with fail
        refine hk.mono ?_
        rintro e3 w3 ⟨rfl, m, rfl⟩
        go_wp2
        go_ret
        exact ⟨by rw [HT.out, HM.out]; rfl, (oR.drop.drop.drop).drewN m, kR.dn m⟩
  · have hf : (vp && decide (1 ≤ p.size) && decide (p.size ≤ 24) && vs && maB rs X) = false := by
      rw [Bool.eq_false_iff]
      intro h
      simp only [Bool.and_eq_true, decide_eq_true_eq] at h
      exact hok ⟨h.1.1.1.1, h.1.2, h.1.1.1.2, h.1.1.2⟩
    have HF := Lib.hid hf
    clear hf hr1 hx2
    cases vp with
    | false =>
      go_wp2
      go_ret
      exact fin0 _ HF.out
    | true =>
      cases vs with
      | false =>
        go_wp2
        go_ret
        exact fin0 _ HF.out
      | true =>
        by_cases hz : p.size < 1
        · have d1 : decide ((p.size : Int) < 1) = true := decide_eq_true (by omega)
          go_wp2
          go_ret
          exact fin0 _ HF.out
        · have d1 : decide ((p.size : Int) < 1) = false := decide_eq_false (by omega)
          have d2 : decide (24 < (p.size : Int)) = true := decide_eq_true (by
            have : ¬ (1 ≤ p.size ∧ p.size ≤ 24) := fun h => hok ⟨rfl, rfl, h.1, h.2⟩
            omega)
          go_wp2
          go_ret
          exact fin0 _ HF.out
end
end Go.Proofs.YtapingmjlpmmmaaDoor
