/- Names: the reference's folded, ValidName, Compare. -/
import Derived.Test.YtbldanhjbnpdiaaGreatDoorLabR
namespace Go.Proofs.YtbldanhjbnpdiaaGreatDoor
open Go.RowKit
open SP
section
variable {w w' : World} {R : List SP}

def FoldedPost (l : List UInt8) (R : List SP) (w : World) (e : Ending) (w' : World) : Prop :=
  if nameB l = true then ∃ a c, e = .returned (.tuple #[.slice a (foldR l).length c, .bool true]) ∧ Own w' (slc 3 1 a (foldR l).length c (ints (foldR l)) :: R) ∧ Calm w w'
  else e = .returned (.tuple #[.slice none 0 0, .bool false]) ∧ Own w' R ∧ Calm w w'

theorem all_letter_valid : ∀ (n : Nat) (l : List UInt8), l.length ≤ n → (runesL l).all letterN = true → Lib.validD l = true
  | 0, l, h, _ => by
    have : l = [] := List.eq_nil_of_length_eq_zero (by omega)
    subst this; exact Lib.validD_nil
  | n + 1, l, h, ha => by
    by_cases hne : l = []
    · subst hne; exact Lib.validD_nil
    · have hp := decodeL_pos l
      have hl : 0 < l.length := List.length_pos_iff.2 hne
      rw [runesL_step l hne, List.all_cons, Bool.and_eq_true] at ha
      rw [Lib.validD_step l hne, if_neg (by
        rintro ⟨h1, _⟩
        rw [h1] at ha
        exact absurd ha.1 (by decide))]
      exact all_letter_valid n _ (by rw [List.length_drop]; omega) ha.2

theorem runes_ok (s : ByteArray) (hs : s.size ≤ 2000000) (o : Own w R) (hv : Lib.validD s.data.toList = true) : Calls Tryz.prog 43 #[.string s] w fun e w' =>
    ∃ a c, e = .returned (.tuple #[.slice a (runesL s.data.toList).length c, .bool true]) ∧ Own w' (slc 3 1 a (runesL s.data.toList).length c (ints (runesL s.data.toList)) :: R) ∧ Calm w w' :=
  (runes_spec s hs o).mono fun e w' h => by unfold RunesPost at h; rw [if_pos hv] at h; exact h
theorem runes_no (s : ByteArray) (hs : s.size ≤ 2000000) (o : Own w R) (hv : ¬ Lib.validD s.data.toList = true) : Calls Tryz.prog 43 #[.string s] w fun e w' =>
    e = .returned (.tuple #[.slice none 0 0, .bool false]) ∧ Own w' R ∧ Calm w w' :=
  (runes_spec s hs o).mono fun e w' h => by unfold RunesPost at h; rw [if_neg hv] at h; exact h

def FolP (rs : List Nat) (R : List SP) (w : World) (e : Ending) (w' : World) : Prop :=
  if rs.all letterN = true then ∃ a c, e = .returned (.tuple #[.slice a rs.length c, .bool true]) ∧ Own w' (slc 3 1 a rs.length c (ints (rs.map foldN)) :: R) ∧ Calm w w'
  else e = .returned (.tuple #[.slice none 0 0, .bool false]) ∧ Own w' R ∧ Calm w w'
theorem folP_post {l : List UInt8} {rs : List Nat} (h : nameB l = rs.all letterN) (h2 : foldR l = rs.map foldN) {e : Ending} (hp : FolP rs R w e w') : FoldedPost l R w e w' := by
  unfold FoldedPost
  unfold FolP at hp
  rw [h, h2, List.length_map]
  exact hp

def FolRel (rs : List Nat) (a : Option Addr) (c : Nat) (R : List SP) (w : World) (v : Value) (wr : World) : Prop :=
  ∃ i : Nat, v = .int .i64 (i : Int) ∧ i ≤ rs.length ∧ (∀ r ∈ rs.take i, letterN r = true) ∧
    Own wr (slc 3 1 a rs.length c (ints ((rs.take i).map foldN ++ rs.drop i)) :: R) ∧ Calm w wr

theorem ints_get {l : List Nat} {i r : Nat} (h : l[i]? = some r) : (ints l)[i]? = some (.int .i64 (r : Int)) := by
  unfold ints; rw [List.getElem?_map, h]; rfl
theorem ints_set (l : List Nat) (i r : Nat) : (ints l).set i (.int .i64 (r : Int)) = ints (l.set i r) := by
  unfold ints; rw [List.map_set]; rfl

set_option maxHeartbeats 3200000 in
set_option maxRecDepth 100000 in
theorem folded_spec (s : ByteArray) (hs : s.size ≤ 2000000) (o : Own w R) : Calls Tryz.prog 34 #[.string s] w (FoldedPost s.data.toList R w) := by
  have hl : s.data.toList.length = s.size := (Lib.size_eq s).symm
  by_cases hv : Lib.validD s.data.toList = true
  · have hrun := runes_ok s hs o hv
    by_cases hz : ¬ (1 ≤ s.size ∧ s.size ≤ 24)
    · have hN : nameB s.data.toList = false := by
        unfold nameB; rw [hl]
        by_cases h1 : 1 ≤ s.size
        · rw [decide_eq_false (p := s.size ≤ 24) (by omega), Bool.and_false]
        · rw [decide_eq_false (p := 1 ≤ s.size) h1, Bool.and_false, Bool.false_and]
      clear hv
      go_enter Tryz.func34, Tryz.ntmps34
      go_wp2_with fail
      refine hrun.mono ?_
      rintro e1 w1 ⟨a, c, rfl, o1, k1⟩
      clear hrun
      go_wp2
      all_goals go_ret2
      all_goals
        unfold FoldedPost
        rw [hN, if_neg (by decide)]
        exact ⟨rfl, o1.drop, k1⟩
    · have z1 : decide ((s.size : Int) < 1) = false := decide_eq_false (by omega)
      have z2 : decide (24 < (s.size : Int)) = false := decide_eq_false (by omega)
      have hsc := runesL_scalar s.data.toList
      have hNdef : nameB s.data.toList = (runesL s.data.toList).all letterN := by
        unfold nameB; rw [hl, decide_eq_true (by omega), decide_eq_true (by omega), Bool.and_true, Bool.and_true]
      have hFdef : foldR s.data.toList = (runesL s.data.toList).map foldN := rfl
      have hrl : (runesL s.data.toList).length ≤ 24 := Nat.le_trans (runesL_length _) (by omega)
      obtain ⟨rs, hrs⟩ : ∃ rs, runesL s.data.toList = rs := ⟨_, rfl⟩
      rw [hrs] at hrun hsc hrl hNdef hFdef
      refine Calls.mono ?_ fun e w' h => folP_post hNdef hFdef h
      clear hrs hv hNdef hFdef
      go_enter Tryz.func34, Tryz.ntmps34
      go_wp2_with fail
      refine hrun.mono ?_
      rintro e1 w1 ⟨a, c, rfl, o1, k1⟩
      clear hrun
      go_wp2
      go_loopw [6] (fun v wr => FolRel rs a c R w v wr) (fun v _ => rs.length - (intOf v).toNat)
      case atStart => exact ⟨0, rfl, by omega, by simp, by simpa using o1, k1⟩
      case round =>
        obtain ⟨i, rfl, hi, hlt, oR, kR⟩ := hrel
        by_cases hil : i < rs.length
        · obtain ⟨r, hr⟩ : ∃ r, rs[i]? = some r := ⟨_, List.getElem?_eq_getElem hil⟩
          have hrm := List.mem_of_getElem? hr
          have hrs := hsc r hrm
          have hr1 : r ≤ 1114111 := by unfold scalar at hrs; omega
          have htl : (rs.take i).length = i := by rw [List.length_take]; omega
          have hget : ((rs.take i).map foldN ++ rs.drop i)[i]? = some r := by
            rw [List.getElem?_append_right (by rw [List.length_map, htl]; omega), List.length_map, htl, List.getElem?_drop, Nat.sub_self, Nat.add_zero, hr]
          have hset : ((rs.take i).map foldN ++ rs.drop i).set i (foldN r) = (rs.take (i + 1)).map foldN ++ rs.drop (i + 1) := by
            rw [List.set_append_right _ _ (by rw [List.length_map, htl]; omega), List.length_map, htl, Nat.sub_self, List.drop_eq_getElem_cons hil, List.set_cons_zero, List.take_add_one, hr]
            simp
          obtain ⟨g, rfl, hcell, hfr, hblt⟩ := oR.slc_cell (by omega)
          have c0 := hcell i _ (ints_get hget)
          have hf0 := hfr i
          clear hcell hfr
          have hlet := letterR_spec (w := wr) r hr1
          go_wp2_with fail
          cases hb : letterN r with
          | false =>
            rw [hb] at hlet
            refine hlet.mono ?_
            rintro e2 w2 ⟨rfl, rfl⟩
            clear hlet
            go_wp2
            go_ret2
            have : rs.all letterN = false := by
              rw [Bool.eq_false_iff, ne_eq, List.all_eq_true]
              intro h; have := h r hrm; rw [hb] at this; cases this
            unfold FolP
            rw [this, if_neg (by decide)]
            exact ⟨rfl, oR.drop, kR⟩
          | true =>
            rw [hb] at hlet
            refine hlet.mono ?_
            rintro e2 w2 ⟨rfl, rfl⟩
            clear hlet
            have hfo := foldR_spec (w := wr) r hr1
            go_wp2_with fail
            refine hfo.mono ?_
            rintro e2 w2 ⟨rfl, rfl⟩
            clear hfo
            have oS := oR.slc_set i (.int .i64 (foldN r : Int)) (by unfold ints; simp; omega)
            rw [ints_set, hset] at oS
            go_wp2
            go_roundw
            case rel =>
              refine ⟨i + 1, by go_num, by omega, ?_, oS, Calm.trans kR ⟨rfl, rfl, rfl⟩⟩
              intro q hq
              rw [List.take_add_one, hr] at hq
              rcases List.mem_append.1 hq with hq | hq
              · exact hlt q hq
              · simp at hq; subst hq; exact hb
            case measure => simp [intOf]; omega
        · have hie : i = rs.length := by omega
          subst hie
          go_wp2
          go_ret2
          have : rs.all letterN = true := by
            rw [List.all_eq_true]; intro r hr; exact hlt r (by rw [List.take_length]; exact hr)
          rw [List.take_length, List.drop_length, List.append_nil] at oR
          unfold FolP
          rw [this, if_pos rfl]
          exact ⟨a, c, rfl, oR, kR⟩
  · have hrun := runes_no s hs o hv
    have hN : nameB s.data.toList = false := by
      rw [Bool.eq_false_iff]
      intro h
      unfold nameB at h
      rw [Bool.and_eq_true, Bool.and_eq_true] at h
      exact hv (all_letter_valid _ _ (Nat.le_refl _) h.1.1)
    go_enter Tryz.func34, Tryz.ntmps34
    go_wp2_with fail
    refine hrun.mono ?_
    rintro e1 w1 ⟨rfl, o1, k1⟩
    clear hrun
    go_wp2
    all_goals go_ret2
    all_goals
      unfold FoldedPost
      rw [hN, if_neg (by decide)]
      exact ⟨rfl, o1, k1⟩

set_option maxHeartbeats 1600000 in
theorem validName_spec (s : ByteArray) (hs : s.size ≤ 2000000) (o : Own w R) : Calls Tryz.prog 33 #[.string s] w (Ret (.bool (nameB s.data.toList)) R w) := by
  have hfo := folded_spec s hs o
  obtain ⟨nb, hnb⟩ : ∃ nb, nameB s.data.toList = nb := ⟨_, rfl⟩
  rw [hnb]
  have hf2 : Calls Tryz.prog 34 #[.string s] w (fun e w' => ∃ v, e = .returned (.tuple #[v, .bool nb]) ∧ Own w' R ∧ Calm w w') := hfo.mono fun e w' h => by
    unfold FoldedPost at h
    rw [hnb] at h
    cases nb with
    | true => rw [if_pos rfl] at h; obtain ⟨a, c, rfl, h1, h2⟩ := h; exact ⟨_, rfl, h1.drop, h2⟩
    | false => rw [if_neg (by decide)] at h; obtain ⟨rfl, h1, h2⟩ := h; exact ⟨_, rfl, h1, h2⟩
  clear hfo hnb
  go_enter Tryz.func33, Tryz.ntmps33
  go_wp2_with fail
  refine hf2.mono ?_
  rintro e1 w1 ⟨v, rfl, o1, k1⟩
  clear hf2
  go_wp2
  go_ret
  exact ⟨rfl, o1, k1⟩

/-- Lists of folded runes compared. -/
def cmpN : List Nat → List Nat → Int
  | [], [] => 0
  | [], _ :: _ => -1
  | _ :: _, [] => 1
  | x :: l, y :: m => if x < y then -1 else if y < x then 1 else cmpN l m
/-- Two strings compared. -/
def cmpS (a b : ByteArray) : Int :=
  if nameB a.data.toList = true then (if nameB b.data.toList = true then cmpN (foldR a.data.toList) (foldR b.data.toList) else 1) else (if nameB b.data.toList = true then -1 else 0)
theorem cmpN_eq : ∀ (l m : List Nat), cmpN l m = 0 ↔ l = m
  | [], [] => by simp [cmpN]
  | [], _ :: _ => by simp [cmpN]
  | _ :: _, [] => by simp [cmpN]
  | x :: l, y :: m => by
    unfold cmpN
    rw [List.cons.injEq]
    split
    · constructor
      · intro h; omega
      · intro h; omega
    · split
      · constructor
        · intro h; omega
        · intro h; omega
      · rw [cmpN_eq l m]
        constructor
        · intro h; exact ⟨by omega, h⟩
        · intro h; exact h.2
theorem foldR_length (l : List UInt8) (h : nameB l = true) : (foldR l).length ≤ 24 := by
  unfold nameB at h
  rw [Bool.and_eq_true, Bool.and_eq_true] at h
  have := of_decide_eq_true h.2
  unfold foldR; rw [List.length_map]; exact Nat.le_trans (runesL_length l) this
theorem foldR_le (l : List UInt8) : ∀ r ∈ foldR l, r ≤ 1114143 := by
  intro r hr
  have := foldR_scalar l r hr
  unfold scalar at this; omega

def CmpRel (x y : List Nat) (p p2 : Option Addr) (c c2 : Nat) (R : List SP) (w : World) (v : Value) (wr : World) : Prop :=
  ∃ i : Nat, v = .int .i64 (i : Int) ∧ i ≤ x.length ∧ i ≤ y.length ∧ cmpN x y = cmpN (x.drop i) (y.drop i) ∧
    Own wr (slc 3 1 p2 y.length c2 (ints y) :: slc 3 1 p x.length c (ints x) :: R) ∧ Calm w wr
theorem cmpN_step {x y : List Nat} {i a b : Nat} (hx : x[i]? = some a) (hy : y[i]? = some b) : cmpN (x.drop i) (y.drop i) = if a < b then -1 else if b < a then 1 else cmpN (x.drop (i + 1)) (y.drop (i + 1)) := by
  obtain ⟨h1, h2⟩ := List.getElem?_eq_some_iff.1 hx
  obtain ⟨h3, h4⟩ := List.getElem?_eq_some_iff.1 hy
  rw [List.drop_eq_getElem_cons h1, List.drop_eq_getElem_cons h3, h2, h4]
  rfl
theorem cmpN_end {x y : List Nat} {i : Nat} (hi : i ≤ x.length) (hj : i ≤ y.length) (h : ¬ (i < x.length ∧ i < y.length)) : cmpN (x.drop i) (y.drop i) = if x.length < y.length then -1 else if y.length < x.length then 1 else 0 := by
  by_cases h1 : i = x.length
  · by_cases h2 : i = y.length
    · rw [List.drop_eq_nil_of_le (by omega), List.drop_eq_nil_of_le (by omega), if_neg (by omega), if_neg (by omega)]; rfl
    · rw [List.drop_eq_nil_of_le (show x.length ≤ i by omega), List.drop_eq_getElem_cons (l := y) (i := i) (by omega), if_pos (by omega)]; rfl
  · rw [List.drop_eq_nil_of_le (show y.length ≤ i by omega), List.drop_eq_getElem_cons (l := x) (i := i) (by omega), if_neg (by omega), if_pos (by omega)]; rfl

set_option maxHeartbeats 3200000 in
set_option maxRecDepth 100000 in
theorem compareR_spec (a b : ByteArray) (ha : a.size ≤ 2000000) (hb : b.size ≤ 2000000) (o : Own w R) : Calls Tryz.prog 26 #[.string a, .string b] w (Ret (.int .i64 (cmpS a b)) R w) := by
  have hfa := folded_spec a ha o
  have hfb : ∀ (w1 : World) (R1 : List SP), Own w1 R1 → Calls Tryz.prog 34 #[.string b] w1 (FoldedPost b.data.toList R1 w1) := fun _ _ o1 => folded_spec b hb o1
  have HFB := Lib.hid hfb
  clear hfb
  by_cases na : nameB a.data.toList = true
  · have hfa2 : Calls Tryz.prog 34 #[.string a] w (fun e w' => ∃ p c, e = .returned (.tuple #[.slice p (foldR a.data.toList).length c, .bool true]) ∧ Own w' (slc 3 1 p (foldR a.data.toList).length c (ints (foldR a.data.toList)) :: R) ∧ Calm w w') :=
      hfa.mono fun e w' h => by unfold FoldedPost at h; rw [if_pos na] at h; exact h
    clear hfa
    by_cases nb : nameB b.data.toList = true
    · have hcs : cmpS a b = cmpN (foldR a.data.toList) (foldR b.data.toList) := by unfold cmpS; rw [if_pos na, if_pos nb]
      have lx := foldR_length _ na
      have ly := foldR_length _ nb
      rw [hcs]
      clear hcs
      have hfb2 : ∀ (w1 : World) (R1 : List SP), Own w1 R1 → Calls Tryz.prog 34 #[.string b] w1 (fun e w' => ∃ p c, e = .returned (.tuple #[.slice p (foldR b.data.toList).length c, .bool true]) ∧ Own w' (slc 3 1 p (foldR b.data.toList).length c (ints (foldR b.data.toList)) :: R1) ∧ Calm w1 w') :=
        fun _ _ o1 => (HFB.out _ _ o1).mono fun e w' h => by unfold FoldedPost at h; rw [if_pos nb] at h; exact h
      have HFB2 := Lib.hid hfb2
      clear hfb2 HFB na nb
      obtain ⟨x, hx⟩ : ∃ x, foldR a.data.toList = x := ⟨_, rfl⟩
      obtain ⟨y, hy⟩ : ∃ y, foldR b.data.toList = y := ⟨_, rfl⟩
      rw [hx] at hfa2 lx ⊢
      rw [hy] at HFB2 ly ⊢
      clear hx hy
      go_enter Tryz.func26, Tryz.ntmps26
      go_wp2_with fail
      refine hfa2.mono ?_
      rintro e1 w1 ⟨p, c, rfl, o1, k1⟩
      clear hfa2
      go_wp2_with fail
      refine (HFB2.out _ _ o1).mono ?_
      rintro e2 w2 ⟨p2, c2, rfl, o2, k2⟩
      clear HFB2 o1
      go_wp2
      go_loopw [9] (fun v wr => CmpRel x y p p2 c c2 R w v wr) (fun v _ => x.length - (intOf v).toNat)
      case atStart => exact ⟨0, rfl, by omega, by omega, rfl, o2, k1.trans k2⟩
      case round =>
        obtain ⟨i, rfl, hi, hj, hc, oR, kR⟩ := hrel
        have fin : ∀ (m : Nat) (z : Int), cmpN x y = z → Ret (.int .i64 (cmpN x y)) R w (.returned (.int .i64 z)) (wr.drewN m) := fun m z hz => ⟨by rw [hz], (oR.drop.drop).drewN m, kR.dn m⟩
        have fin2 : ∀ (m k : Nat) (z : Int), cmpN x y = z → Ret (.int .i64 (cmpN x y)) R w (.returned (.int .i64 z)) ((wr.drewN m).drewN k) := fun m k z hz => ⟨by rw [hz], ((oR.drop.drop).drewN m).drewN k, (kR.dn m).dn k⟩
        have fin0 : ∀ (z : Int), cmpN x y = z → Ret (.int .i64 (cmpN x y)) R w (.returned (.int .i64 z)) wr := fun z hz => ⟨by rw [hz], oR.drop.drop, kR⟩
        by_cases h1 : i < x.length
        · by_cases h2 : i < y.length
          · obtain ⟨u, hu⟩ : ∃ u, x[i]? = some u := ⟨_, List.getElem?_eq_getElem h1⟩
            obtain ⟨t, ht⟩ : ∃ t, y[i]? = some t := ⟨_, List.getElem?_eq_getElem h2⟩
            have hst := cmpN_step hu ht
            rw [← hc] at hst
            obtain ⟨g1, rfl, hc1, _, _⟩ := (oR.up 1).slc_cell (by omega)
            obtain ⟨g2, rfl, hc2, _, _⟩ := oR.slc_cell (by omega)
            have d1 := hc1 i _ (ints_get hu)
            have d2 := hc2 i _ (ints_get ht)
            clear hc1 hc2
            by_cases c1 : u < t
            · have f1 : decide (u < t) = true := decide_eq_true (by omega)
              rw [if_pos c1] at hst
              go_wp2
              go_quiet (fail)
              go_wp2
              go_ret
              exact fin _ _ hst
            · have f1 : decide (u < t) = false := decide_eq_false (by omega)
              rw [if_neg c1] at hst
              by_cases c2 : t < u
              · have f2 : decide (t < u) = true := decide_eq_true (by omega)
                rw [if_pos c2] at hst
                go_wp2
                go_quiet (fail)
                go_wp2
                go_quiet (fail)
                go_wp2
                go_ret
                exact fin2 _ _ _ hst
              · have f2 : decide (t < u) = false := decide_eq_false (by omega)
                rw [if_neg c2] at hst
                go_wp2
                go_quiet (fail)
                go_wp2
                go_quiet (fail)
                go_wp2
                go_roundw
                case rel => exact ⟨i + 1, by go_num, by omega, by omega, hst, oR.drewN _, kR.dn _⟩
                case measure => simp [intOf]; omega
          · have he := cmpN_end hi hj (by omega)
            rw [← hc] at he
            have f0 : decide (i < y.length) = false := decide_eq_false (by omega)
            by_cases c1 : x.length < y.length
            · omega
            · rw [if_neg c1] at he
              have f1 : decide (x.length < y.length) = false := decide_eq_false (by omega)
              have f2 : decide (y.length < x.length) = true := decide_eq_true (by omega)
              rw [if_pos (by omega)] at he
              go_wp2
              go_ret
              exact fin0 _ he
        · have he := cmpN_end hi hj (by omega)
          rw [← hc] at he
          have f0 : decide (i < x.length) = false := decide_eq_false (by omega)
          by_cases c1 : x.length < y.length
          · rw [if_pos c1] at he
            have f1 : decide (x.length < y.length) = true := decide_eq_true (by omega)
            go_wp2
            go_ret
            exact fin0 _ he
          · rw [if_neg c1, if_neg (by omega)] at he
            have f1 : decide (x.length < y.length) = false := decide_eq_false (by omega)
            have f2 : decide (y.length < x.length) = false := decide_eq_false (by omega)
            go_wp2
            go_ret
            exact fin0 _ he
    · have hcs : cmpS a b = 1 := by unfold cmpS; rw [if_pos na, if_neg nb]
      rw [hcs]
      have hfb2 : ∀ (w1 : World) (R1 : List SP), Own w1 R1 → Calls Tryz.prog 34 #[.string b] w1 (fun e w' => e = .returned (.tuple #[.slice none 0 0, .bool false]) ∧ Own w' R1 ∧ Calm w1 w') :=
        fun _ _ o1 => (HFB.out _ _ o1).mono fun e w' h => by unfold FoldedPost at h; rw [if_neg nb] at h; exact h
      have HFB2 := Lib.hid hfb2
      clear hfb2 HFB na nb hcs
      go_enter Tryz.func26, Tryz.ntmps26
      go_wp2_with fail
      refine hfa2.mono ?_
      rintro e1 w1 ⟨p, c, rfl, o1, k1⟩
      clear hfa2
      go_wp2_with fail
      refine (HFB2.out _ _ o1).mono ?_
      rintro e2 w2 ⟨rfl, o2, k2⟩
      go_wp2
      go_ret
      exact ⟨rfl, o2.drop, k1.trans k2⟩
  · have hfa2 : Calls Tryz.prog 34 #[.string a] w (fun e w' => e = .returned (.tuple #[.slice none 0 0, .bool false]) ∧ Own w' R ∧ Calm w w') :=
      hfa.mono fun e w' h => by unfold FoldedPost at h; rw [if_neg na] at h; exact h
    clear hfa
    by_cases nb : nameB b.data.toList = true
    · have hcs : cmpS a b = -1 := by unfold cmpS; rw [if_neg na, if_pos nb]
      rw [hcs]
      have hfb2 : ∀ (w1 : World) (R1 : List SP), Own w1 R1 → Calls Tryz.prog 34 #[.string b] w1 (fun e w' => ∃ p c, e = .returned (.tuple #[.slice p (foldR b.data.toList).length c, .bool true]) ∧ Own w' (slc 3 1 p (foldR b.data.toList).length c (ints (foldR b.data.toList)) :: R1) ∧ Calm w1 w') :=
        fun _ _ o1 => (HFB.out _ _ o1).mono fun e w' h => by unfold FoldedPost at h; rw [if_pos nb] at h; exact h
      have HFB2 := Lib.hid hfb2
      clear hfb2 HFB na nb hcs
      go_enter Tryz.func26, Tryz.ntmps26
      go_wp2_with fail
      refine hfa2.mono ?_
      rintro e1 w1 ⟨rfl, o1, k1⟩
      clear hfa2
      go_wp2_with fail
      refine (HFB2.out _ _ o1).mono ?_
      rintro e2 w2 ⟨p, c, rfl, o2, k2⟩
      go_wp2
      go_ret
      exact ⟨rfl, o2.drop, k1.trans k2⟩
    · have hcs : cmpS a b = 0 := by unfold cmpS; rw [if_neg na, if_neg nb]
      rw [hcs]
      have hfb2 : ∀ (w1 : World) (R1 : List SP), Own w1 R1 → Calls Tryz.prog 34 #[.string b] w1 (fun e w' => e = .returned (.tuple #[.slice none 0 0, .bool false]) ∧ Own w' R1 ∧ Calm w1 w') :=
        fun _ _ o1 => (HFB.out _ _ o1).mono fun e w' h => by unfold FoldedPost at h; rw [if_neg nb] at h; exact h
      have HFB2 := Lib.hid hfb2
      clear hfb2 HFB na nb hcs
      go_enter Tryz.func26, Tryz.ntmps26
      go_wp2_with fail
      refine hfa2.mono ?_
      rintro e1 w1 ⟨rfl, o1, k1⟩
      clear hfa2
      go_wp2_with fail
      refine (HFB2.out _ _ o1).mono ?_
      rintro e2 w2 ⟨rfl, o2, k2⟩
      go_wp2
      go_ret
      exact ⟨rfl, o2, k1.trans k2⟩
end
end Go.Proofs.YtbldanhjbnpdiaaGreatDoor
