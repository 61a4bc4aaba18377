/- The error-free reference of the program: Leave, Tags, Valid, Least, Select. -/
import Derived.Test.YtnandakoigmknaaSfq
import Derived.Test.YtnandakoigmknaaTags
namespace Go.Proofs.Ytnandakoigmknaa
open Go.RowKit
open SP

section
variable {W w w' : World} {b : Nat} {reb : Int} {S : St} {R : List SP}

set_option maxHeartbeats 3200000 in
set_option maxRecDepth 100000 in
theorem sfqLeave_spec (f : Int) (o : Own w (SfqR b reb S :: R)) :
    Calls Try.prog 35 #[.pointer (some ⟨b, 0, none⟩), .int .i64 f] w (Ret (.int .i64 (leaveR S f).1) (SfqR b reb (leaveR S f).2 :: R) w) := by
  obtain ⟨ab, rb, m, rem, hm, hold, hur, hok, o1⟩ := SfqR.iff.1 o
  have c1 := o1.cell 1
  have Hold := Lib.hid hold
  clear hold
  cases hf : fget S.L f with
  | none =>
    have e : leaveR S f = (6, S) := by unfold leaveR; rw [hf]
    rw [e]; clear e
    have hlk := lookT_none (o1.up 1) hm hf
    clear hf
    go_enter Try.func35, Try.ntmps35
    go_wp2
    go_ret
    exact ⟨rfl, o.more _, ⟨rfl, rfl, rfl⟩⟩
  | some t =>
    have e : leaveR S f = (0, leaveS S f t.s) := by unfold leaveR; rw [hf]
    rw [e]; clear e
    have hlk := lookT_some (o1.up 1) hm hf
    have hbl := o1.celLt
    have hrep := hm.del f
    have hok1 := hok.leave hf
    have hom := o1.alloc (.cells #[.int .i64 t.f, .int .i64 t.w, .int .i64 t.s] 64)
    clear hf
    go_enter Try.func35, Try.ntmps35
    go_wp2_with (at_delete; refine wpList_delete_mpI rfl _ _ rfl Try.underlying91 Try.underlying3 (hom.up 2) f rfl rfl ?c1)
    case c1 =>
    intro w1 o2 k2
    have d2 := (o2.up 2).cell 2
    have q2 := Own.cell (T := 64) (vs := [.int .i64 t.f, .int .i64 t.w, .int .i64 t.s]) (o2.up 1) 2
    go_wp2
    refine wp_region_tail 7 (by kernel_rfl) (by kernel_rfl) ?_
    simp only [List.take_succ_cons, List.take_zero, List.drop_succ_cons, List.drop_zero]
    repeat still_step
    refine wpStill_nil ?_
    go_wp2_with (at_mapUpdate; refine wpList_mapUpdate_mpI rfl _ _ _ rfl Try.underlying81 Try.underlying3 ((o2.up 3).drew) f t.s rfl rfl rfl ?c2)
    case c2 =>
    intro w3 o3 k3
    have d1 := (o3.up 3).cell 1
    by_cases hz : delT f S.L = []
    · have hm0 : mdel m f = [] := by
        have := hrep.len
        rw [hz] at this
        exact List.eq_nil_of_length_eq_zero (by simpa using this)
      have hl0 : ((mdel m f).length : Int) = 0 := by rw [hm0]; rfl
      have hlb : (((mdel m f).length : Int) == 0) = true := by simpa using hl0
      have HM := Lib.hid hm0
      clear hm0 hl0
      have d2 := (o3.up 3).cell 2
      go_wp2_with (first | (at_len; refine wpList_len_mpI rfl _ rfl Try.underlying91 (o3.up 1) rfl ?_) | (refine wpList_clear_mpI rfl _ rfl Try.underlying81 o3 rfl ?c4))
      case c4 =>
      intro w4 o4 k4
      have h2 := (o4.up 3).cell 3
      have h3 := (o4.up 3).frozen
      have h4 := (o4.up 3).celLt
      have o5 := (o4.up 3).setCell 3 (.int .i64 0)
      go_wp2
      go_ret
      refine ⟨rfl, SfqR.iff.2 ⟨ab, rb, mdel m f, [], ?_, ?_, by simp [Uniq], hok1, ?_⟩, Calm.trans ⟨k2.os, k2.tape, k2.output⟩ (Calm.trans ⟨k3.os, k3.tape, k3.output⟩ ⟨k4.os, k4.tape, k4.output⟩)⟩
      · rw [HM.out, leaveS, if_pos hz]; exact Rep.start
      · rw [leaveS, if_pos hz]; exact fun _ => rfl
      · rw [leaveS, if_pos hz]
        exact o5.re [3, 0, 2, 1] 1
    · have hm0 : (mdel m f).length ≠ 0 := by
        rw [hrep.len]
        exact fun e => hz (List.eq_nil_of_length_eq_zero e)
      have hlb : (((mdel m f).length : Int) == 0) = false := beq_eq_false_iff_ne.2 (by omega)
      go_wp2_with (at_len; refine wpList_len_mpI rfl _ rfl Try.underlying91 (o3.up 1) rfl ?_)
      go_ret
      have e : leaveS S f t.s = { S with L := delT f S.L, old := fun g => if g = f then t.s else S.old g } := if_neg hz
      rw [e] at hok1 ⊢
      refine ⟨rfl, SfqR.iff.2 ⟨ab, rb, mdel m f, mput rem f t.s, hrep, fun g => ?_, hur.mput _ _, hok1, ?_⟩, Calm.trans ⟨k2.os, k2.tape, k2.output⟩ ⟨k3.os, k3.tape, k3.output⟩⟩
      · show tget (mput rem f t.s) g = if g = f then t.s else S.old g
        unfold tget
        rw [mget_mput]
        split
        · rfl
        · exact Hold.out g
      · exact o3.re [2, 3, 1, 0] 1

/-! ### Lists of tags -/
/-- The list of tags that a slice at a holds, read behind Sp. -/
def TagsAt (Sp : SP) (a : Option Addr) (L : List Tg) : Prop := ∀ (w : World) (R : List SP), Own w (Sp :: R) → ∀ (i : Nat) (t : Tg), L[i]? = some t →
  ∃ g so, a = some ⟨g, so, none⟩ ∧ w.cell? ⟨g, so + i * 3, none⟩ = some (.int .i64 t.f) ∧ w.cell? ⟨g, so + i * 3 + 1, none⟩ = some (.int .i64 t.w) ∧ w.cell? ⟨g, so + i * 3 + 2, none⟩ = some (.int .i64 t.s)
theorem tagsAt_slc (a : Option Addr) (n c : Nat) (L : List Tg) (hn : n = L.length) : TagsAt (slc 64 3 a n c (flat tagC L)) a L := by
  intro w R o i t ht
  have := (List.getElem?_eq_some_iff.1 ht).1
  obtain ⟨g, h, hc, hf, hg⟩ := o.slc_cell (by omega)
  refine ⟨g, 0, h, ?_, ?_, ?_⟩
  · rw [Nat.zero_add]; exact hc (i * 3 + 0) _ (flat_get tagC_len L i 0 t ht (by omega))
  · rw [Nat.zero_add]; exact hc (i * 3 + 1) _ (flat_get tagC_len L i 1 t ht (by omega))
  · rw [Nat.zero_add]; exact hc (i * 3 + 2) _ (flat_get tagC_len L i 2 t ht (by omega))

def ValidRel (L : List Tg) (Sp : SP) (R : List SP) (w : World) (v3 v8 : Value) (wr : World) : Prop :=
  ∃ (i : Nat) (last : Int), v8 = .int .i64 (i : Int) ∧ v3 = .int .i64 last ∧ i ≤ L.length ∧ (∀ t, L[i]? = some t → last < t.f) ∧ Own wr (Sp :: R) ∧ Calm w wr

set_option maxHeartbeats 3200000 in
set_option maxRecDepth 100000 in
theorem tagsValid_spec {Sp : SP} {L : List Tg} {a : Option Addr} {n c : Nat} (hS : TagsAt Sp a L) (hok : LOk L) (hn : n = L.length) (o : Own w (Sp :: R)) :
    Calls Try.prog 73 #[.slice a n c] w (Ret (.bool true) (Sp :: R) w) := by
  have hT : ValidRel L Sp R w (.int .i64 (-1)) (.int .i64 0) w := ⟨0, -1, rfl, rfl, by omega, fun t ht => by have := hok.rng t (List.mem_of_getElem? ht); omega, o, Calm.refl w⟩
  have hl := hok.len
  have hn2 : n ≤ 32 := by omega
  have Hn := Lib.hid hn
  clear hn
  go_enter Try.func73, Try.ntmps73
  go_wp2
  go_loopw [3, 8] (fun v3 v8 wr => ValidRel L Sp R w v3 v8 wr) (fun _ v8 _ => n - (intOf v8).toNat)
  case atStart => exact hT
  case round =>
    clear hT
    obtain ⟨i, last, rfl, rfl, hi, hlast, oR, kR⟩ := hrel
    by_cases hlt : i < n
    · obtain ⟨t, ht⟩ : ∃ t, L[i]? = some t := ⟨_, List.getElem?_eq_getElem (by have := Hn.out; omega)⟩
      obtain ⟨g, so, rfl, d0, d1, d2⟩ := hS _ _ oR i _ ht
      have h1 := hlast t ht
      have h2 := hok.rng t (List.mem_of_getElem? ht)
      have hnext : ∀ u, L[i + 1]? = some u → t.f < u.f := fun u hu => by
        have := List.pairwise_iff_getElem.1 hok.asc i (i + 1) (List.getElem?_eq_some_iff.1 ht).1 (List.getElem?_eq_some_iff.1 hu).1 (by omega)
        rw [(List.getElem?_eq_some_iff.1 ht).2, (List.getElem?_eq_some_iff.1 hu).2] at this
        exact this
      have HN := Lib.hid hnext
      obtain ⟨x, y, z⟩ := t
      dsimp only at d0 d1 d2 h1 h2 HN
      clear ht hlast hnext
      obtain ⟨h2, h3, h4, h5, h6, h7⟩ := h2
      have hw : decide (1 ≤ y ∧ y ≤ 16) = true := by simp; omega
      have hwt := fun w => weighty_spec y w
      rw [hw] at hwt
      clear hw
      have oA := oR.alloc (.cells #[.int .i64 x, .int .i64 y, .int .i64 z] 64)
      go_wp2_with (go_at_call 85; refine (hwt _).mono ?_; rintro e w1 ⟨rfl, rfl⟩)
      go_roundw
      case rel => exact ⟨i + 1, x, by go_num, rfl, by have := Hn.out; omega, HN.out, oA.drop, ⟨kR.os, kR.tape, kR.output⟩⟩
      case measure => simp [intOf]; omega
    · go_wp2
      go_ret
      exact ⟨rfl, oR, kR⟩

def LeastRelT (L : List Tg) (T : Nat) (Sp : SP) (R : List SP) (w : World) (v3 v16 : Value) (wr : World) : Prop :=
  ∃ (i best : Nat), v16 = .int .i64 (i : Int) ∧ v3 = .int .i64 (best : Int) ∧ i ≤ L.length ∧ best < L.length ∧ leastG L (L.drop i) i best = T ∧ Own wr (Sp :: R) ∧ Calm w wr

set_option maxHeartbeats 3200000 in
set_option maxRecDepth 100000 in
theorem tagsLeast_spec {Sp : SP} {L : List Tg} {a : Option Addr} {n c : Nat} (hS : TagsAt Sp a L) (hok : LOk L) (hn : n = L.length) (o : Own w (Sp :: R)) :
    Calls Try.prog 54 #[.slice a n c] w (Ret (.int .i64 (if L = [] then -1 else (leastN L : Int))) (Sp :: R) w) := by
  by_cases hz : L = []
  · rw [if_pos hz]
    have hn0 : n = 0 := by rw [hn, hz]; rfl
    subst hn0
    clear hn hz
    go_enter Try.func54, Try.ntmps54
    go_wp2
    go_ret
    exact ⟨rfl, o, Calm.refl w⟩
  · rw [if_neg hz]
    have hpos : 0 < n := by rw [hn]; exact List.length_pos_iff.2 hz
    have hl := hok.len
    have hn2 : n ≤ 32 := by omega
    have hv := tagsValid_spec (c := c) hS hok hn o
    have hT0 : leastG L (L.drop 0) 0 0 = leastN L := rfl
    generalize leastN L = T at *
    have HT0 := Lib.hid hT0
    have Hn := Lib.hid hn
    have hnb : ((n : Int) == 0) = false := by simp; omega
    clear hn hz hT0
    go_enter Try.func54, Try.ntmps54
    go_wp2_with (go_at_call 73; refine hv.mono ?_; rintro e w1 ⟨rfl, o1, k1⟩)
    have hT : LeastRelT L T Sp R w (.int .i64 0) (.int .i64 0) w1 := ⟨0, 0, rfl, rfl, by omega, by have := Hn.out; omega, HT0.out, o1, k1⟩
    go_wp2
    go_loopw [3, 16] (fun v3 v16 wr => LeastRelT L T Sp R w v3 v16 wr) (fun _ v16 _ => n - (intOf v16).toNat)
    case atStart => exact hT
    case round =>
      clear hT hv
      obtain ⟨i, best, rfl, rfl, hi, hb, hE, oR, kR⟩ := hrel
      have HT := Lib.hid hE
      clear hE
      by_cases hlt : i < n
      · obtain ⟨t, ht⟩ : ∃ t, L[i]? = some t := ⟨_, List.getElem?_eq_getElem (by have := Hn.out; omega)⟩
        obtain ⟨u, hu⟩ : ∃ u, L[best]? = some u := ⟨_, List.getElem?_eq_getElem (by have := Hn.out; omega)⟩
        obtain ⟨g, so, rfl, d0, d1, d2⟩ := hS _ _ oR i _ ht
        have oA := oR.alloc (.cells #[.int .i64 t.f, .int .i64 t.w, .int .i64 t.s] 64)
        obtain ⟨g', so', hgg, _, _, e2⟩ := hS _ _ (oA.up 1) best _ hu
        cases hgg
        have hstep : leastG L (L.drop i) i best = leastG L (L.drop (i + 1)) (i + 1) (if t.s < u.s then i else best) := by
          rw [drop_at ht, leastG, List.getD_eq_getElem?_getD, hu]; rfl
        have Hstep := Lib.hid hstep
        have hbn : best < n := by have := Hn.out; omega
        obtain ⟨x, y, z⟩ := t
        obtain ⟨x', y', z'⟩ := u
        dsimp only at d0 d1 d2 e2 Hstep
        clear ht hu hstep
        by_cases hc : z < z'
        · have hd : decide (z < z') = true := by simpa using hc
          go_wp2
          go_quiet (fail)
          go_wp2
          go_roundw
          case rel => exact ⟨i + 1, i, by go_num, rfl, by have := Hn.out; omega, by have := Hn.out; omega, by rw [← HT.out, Hstep.out, if_pos hc], oA.drop.drewN _, ⟨kR.os, kR.tape, kR.output⟩⟩
          case measure => simp [intOf]; omega
        · have hd : decide (z < z') = false := by simpa using hc
          go_wp2
          go_quiet (fail)
          go_wp2
          go_roundw
          case rel => exact ⟨i + 1, best, by go_num, rfl, by have := Hn.out; omega, hb, by rw [← HT.out, Hstep.out, if_neg (by omega)], oA.drop.drewN _, ⟨kR.os, kR.tape, kR.output⟩⟩
          case measure => simp [intOf]; omega
      · go_wp2
        go_ret
        have hbT : best = T := by rw [← HT.out, List.drop_eq_nil_of_le (by have := Hn.out; omega)]; rfl
        exact ⟨by rw [hbT]; rfl, oR, kR⟩

/-! ### Tags -/
def TagsRel (b ab rb : Nat) (reb : Int) (S : St) (m : List (Int × Tg)) (rem : List (Int × Int)) (a : Option Addr) (cap : Nat) (ks : List Int) (R : List SP) (w : World) (v3 v13 : Value) (wr : World) : Prop :=
  ∃ (i : Nat) (a' : Option Addr) (c' : Nat), v13 = .int .i64 (i : Int) ∧ i ≤ S.L.length ∧ v3 = .slice a' i c' ∧
    Own wr (slc 64 3 a' i c' (flat tagC (S.L.take i)) :: slc 3 1 a ks.length cap (ks.map (Value.int .i64)) :: cel b 93 [.int .i64 reb, .map (some ab), .map (some rb), .int .i64 S.tm, .int .i64 S.aw] :: mpI tagV ab m :: mpI (Value.int .i64) rb rem :: R) ∧ Calm w wr

def TagsPost (b : Nat) (reb : Int) (S : St) (R : List SP) (w : World) (e : Ending) (w' : World) : Prop :=
  ∃ (a : Option Addr) (c : Nat), Ret (.slice a S.L.length c) (slc 64 3 a S.L.length c (flat tagC S.L) :: SfqR b reb S :: R) w e w'

set_option maxHeartbeats 3200000 in
set_option maxRecDepth 100000 in
theorem sfqTags_spec (o : Own w (SfqR b reb S :: R)) :
    Calls Try.prog 31 #[.pointer (some ⟨b, 0, none⟩)] w (TagsPost b reb S R w) := by
  obtain ⟨ab, rb, m, rem, hm, hold, hur, hok, o1⟩ := SfqR.iff.1 o
  have c1 := o1.cell 1
  have Hold := Lib.hid hold
  clear hold
  have hlen := hm.ok.len
  have hml := hm.len
  have hks := hm.sort
  go_enter Try.func31, Try.ntmps31
  go_wp2_with fail
  refine (keysTag_spec _ _).mono ?_
  rintro e1 w1 ⟨rfl, rfl⟩
  have o2 := ((o1.alloc (.cells #[.map (some ab)] 91)).up 2).up 1
  go_wp2_with fail
  refine (sortedTag_spec w.heap.size hm.keyOk (by omega) o2).mono ?_
  rintro e2 w2 ⟨a, cap, rfl, o3, k3⟩
  rw [hks] at o3
  have hkl : (S.L.map (·.f)).length = m.length := by rw [List.length_map, hml]
  rw [← hkl] at o3 ⊢
  have hget : ∀ (i : Nat) (t : Tg), S.L[i]? = some t → (S.L.map (·.f))[i]? = some t.f := fun i t h => by rw [List.getElem?_map, h]; rfl
  have Hget := Lib.hid hget
  have hkn : (S.L.map (·.f)).length = S.L.length := List.length_map _
  generalize S.L.map (·.f) = ks at *
  have hT : TagsRel b ab rb reb S m rem a cap ks R w (.slice none 0 0) (.int .i64 0) w2 :=
    ⟨0, none, 0, rfl, by omega, rfl, Own.slc_nil (o3.re [0, 2, 1, 3]), ⟨k3.os, k3.tape, k3.output⟩⟩
  have Hkn := Lib.hid hkn
  have hk32 : ks.length ≤ 32 := by omega
  clear hkn hkl hks hml o3 k3 o2 o1 c1 hget
  go_wp2
  go_loopw [3, 13] (fun v3 v13 wr => TagsRel b ab rb reb S m rem a cap ks R w v3 v13 wr) (fun _ v13 _ => ks.length - (intOf v13).toNat)
  case atStart => exact hT
  case round =>
    clear hT
    obtain ⟨i, a', c', rfl, hi, rfl, oR, kR⟩ := hrel
    by_cases hlt : i < ks.length
    · obtain ⟨t, ht⟩ : ∃ t, S.L[i]? = some t := ⟨_, List.getElem?_eq_getElem (by have := Hkn.out; omega)⟩
      have hkt := Hget.out i t ht
      obtain ⟨g, rfl, hc, _, _⟩ := (oR.up 1).slc_cell (by omega)
      have d0 := hc i (.int .i64 t.f) (by rw [List.getElem?_map, hkt]; rfl)
      have c1 := (oR.up 2).cell 1
      have hfg := fget_mem hm.ok (List.mem_of_getElem? ht)
      have hlk := lookT_one (oR.up 3) hm hfg
      have htk : S.L.take (i + 1) = S.L.take i ++ [t] := by rw [List.take_add_one, ht]; rfl
      have HTK := Lib.hid htk
      have oA := oR.alloc (.cells #[.int .i64 t.f, .int .i64 t.w, .int .i64 t.s] 64)
      clear hc hkt ht hfg htk
      go_wp2_with (at_builtin; refine wpList_append_slc rfl _ _ rfl Try.tagT rfl (oA.up 1) ⟨wr.heap.size, 0, none⟩ 1 1 [.int .i64 t.f, .int .i64 t.w, .int .i64 t.s] rfl rfl ?c1 ?c2 ?c3 ?c4 ?c5)
      case c1 => exact Own.news (T := 64) oA
      case c2 => intro u hu; simp at hu; rcases hu with rfl | rfl | rfl <;> rfl
      case c3 => unfold maxLen; omega
      case c4 => omega
      case c5 =>
      intro a2 c2 w5 o5 k5
      go_wp2
      go_roundw
      case rel =>
        refine ⟨i + 1, a2, c2, by go_num, by have := Hkn.out; omega, rfl, ?_, kR.trans ⟨k5.os, k5.tape, k5.output⟩⟩
        rw [HTK.out, flat_append]
        exact (o5.up 1).drop
      case measure => simp [intOf]; omega
    · have hin : i = S.L.length := by have := Hkn.out; omega
      subst hin
      rw [List.take_length] at oR
      go_wp2
      go_ret
      refine ⟨a', c', rfl, ?_, kR⟩
      refine Own.swap (SfqR.iff.2 ⟨ab, rb, m, rem, hm, Hold.out, hur, hok, ?_⟩)
      exact (oR.re [1, 2, 3, 4, 0] 1)

set_option maxHeartbeats 1600000 in
set_option maxRecDepth 100000 in
theorem sfqSelect_spec (o : Own w (SfqR b reb S :: R)) :
    Calls Try.prog 36 #[.pointer (some ⟨b, 0, none⟩)] w (Ret (.tuple #[.int .i64 (selT S.L).1, .int .i64 (selT S.L).2]) (SfqR b reb S :: R) w) := by
  have hok := (SfqR.ok o).ok
  go_enter Try.func36, Try.ntmps36
  go_wp2_with fail
  refine (sfqTags_spec o).mono ?_
  rintro e1 w1 ⟨a, c, rfl, o1, k1⟩
  have hS := tagsAt_slc a S.L.length c S.L rfl
  go_wp2_with fail
  refine (tagsLeast_spec hS hok rfl o1).mono ?_
  rintro e2 w2 ⟨rfl, o2, k2⟩
  by_cases hz : S.L = []
  · have e1 : selT S.L = (0, 5) := if_pos hz
    have HE := Lib.hid e1
    rw [if_pos hz]
    clear hz e1
    go_wp2
    go_ret2
    rw [HE.out]
    exact ⟨rfl, o2.drop, k1.trans k2⟩
  · have e1 : selT S.L = ((lst S.L).f, 0) := if_neg hz
    have hlt := leastN_lt hz
    have hgt : S.L[leastN S.L]? = some (lst S.L) := by unfold lst; rw [List.getD_eq_getElem?_getD, List.getElem?_eq_getElem hlt]; rfl
    obtain ⟨g, so, rfl, d0, _, _⟩ := hS _ _ o2 _ _ hgt
    have HE := Lib.hid e1
    rw [if_neg hz]
    have hl32 := hok.len
    clear hz e1 hgt hS
    generalize leastN S.L = k at *
    generalize lst S.L = t at *
    go_wp2
    go_ret2
    rw [HE.out]
    exact ⟨rfl, o2.drop, k1.trans k2⟩
end
end Go.Proofs.Ytnandakoigmknaa
