/- Texts that the law rests on, put together by a program. -/
import Derived.Test.YtkmlkpfabkhleaaIwfqGoodD
import Derived.Test.YtkmlkpfabkhleaaIwfqGoodB
import Derived.Test.YtkmlkpfabkhleaaIwfqGoodC
import Derived.Deep.RegionLaw
import Derived.Deep.DeepCutAuto
import Derived.Deep.CutBlock
/- Iwfq: tags sorted by a key. -/
namespace Go.Proofs.Ytkmlkpfabkhleaa
open Go.RowKit Go.Shelf Go.Lib Go.Sort
open SP

/-- The tags of a list. -/
abbrev Sub (L : List Tg) : Type := { t : Tg // t ∈ L }
theorem flatK_sub {L : List Tg} [Inhabited (Sub L)] (d : Array (Sub L)) : (flatK (fun x : Sub L => tagC x.1) 3 d).toList = flat tagC (d.toList.map (·.1)) := by
  apply List.ext_getElem?
  intro t
  by_cases ht : t < d.size * 3
  · have hi : t / 3 < d.size := by omega
    have h1 : (flatK (fun x : Sub L => tagC x.1) 3 d).toList[t]? = some ((flatK (fun x : Sub L => tagC x.1) 3 d)[t]!) := by
      rw [Array.getElem?_toList, getElem!_pos (flatK (fun x : Sub L => tagC x.1) 3 d) t (by simpa using ht)]
      exact Array.getElem?_eq_getElem _
    have h0 : (d.toList.map (·.1))[t / 3]? = some d[t / 3]!.1 := by
      rw [List.getElem?_map, Array.getElem?_toList, getElem!_pos d (t / 3) hi, Array.getElem?_eq_getElem hi]
      rfl
    have h2 := flat_get tagC_len (d.toList.map (·.1)) (t / 3) (t % 3) d[t / 3]!.1 h0 (Nat.mod_lt _ (by omega))
    rw [h1, get_flatK _ _ _ _ ht]
    rw [show t / 3 * 3 + t % 3 = t from by omega] at h2
    rw [h2]
    have h3 : t % 3 < (tagC d[t / 3]!.1).length := by rw [tagC_len]; exact Nat.mod_lt _ (by omega)
    rw [List.getElem?_eq_getElem h3, getElem!_pos (tagC d[t / 3]!.1) (t % 3) h3]
  · rw [List.getElem?_eq_none (by simp; omega), List.getElem?_eq_none (by rw [flat_length tagC_len]; simp; omega)]

def cfK (key : Tg → Int) (x y : Tg) : Int := orZ (cmpZ (key x) (key y)) (cmpZ x.f y.f)
theorem lt_cfK (key : Tg → Int) {L : List Tg} (x y : Sub L) : ltOf (fun a b : Sub L => cfK key a.1 b.1) x y = ltK key x.1 y.1 := by
  unfold ltOf cfK orZ cmpZ ltK
  rw [decide_eq_decide]
  by_cases h1 : key x.1 < key y.1 <;> by_cases h2 : key y.1 < key x.1 <;> by_cases h3 : x.1.f < y.1.f <;> by_cases h4 : y.1.f < x.1.f <;> simp [h1, h2, h3, h4] <;> omega
theorem swoK (key : Tg → Int) (L : List Tg) : SWO (ltOf (fun a b : Sub L => cfK key a.1 b.1)) where
  irrefl x := by rw [lt_cfK]; exact ltK_irrefl key x.1
  trans x y z h1 h2 := by rw [lt_cfK] at *; exact ltK_trans h1 h2
  ntrans x y z h1 h2 := by rw [lt_cfK] at *; unfold ltK at *; simp only [decide_eq_false_iff_not] at *; omega
theorem pw_ne {l1 l2 : List Tg} (hp : l1.Perm l2) (h : l2.Pairwise (fun a b => a.f < b.f)) : l1.Pairwise (fun a b => a.f ≠ b.f) :=
  hp.symm.pairwise (h.imp fun hab => by omega) fun hab => hab.symm
theorem merge_srt {key : Tg → Int} {L : List Tg} (h : L.Pairwise (fun a b => a.f < b.f)) :
    (L.attach.mergeSort fun x y : Sub L => !(ltOf (fun a b : Sub L => cfK key a.1 b.1)) y x).map (·.1) = srtK key L := by
  have hperm : ((L.attach.mergeSort fun x y : Sub L => !(ltOf (fun a b : Sub L => cfK key a.1 b.1)) y x).map (·.1)).Perm L := by
    have := (List.mergeSort_perm L.attach (fun x y : Sub L => !(ltOf (fun a b : Sub L => cfK key a.1 b.1)) y x)).map (·.1)
    rwa [List.attach_map_subtype_val] at this
  refine sorted_eq (key := key) (hperm.trans (srtK_perm key L).symm) ?_ (srtK_sorted h)
  have hne := pw_ne hperm h
  rw [List.pairwise_map] at hne ⊢
  have hs := List.pairwise_mergeSort (le := fun x y : Sub L => !(ltOf (fun a b : Sub L => cfK key a.1 b.1)) y x) (fun a b c h1 h2 => by
      rw [Bool.not_eq_true'] at *
      rw [lt_cfK] at *
      unfold ltK at *
      simp only [decide_eq_false_iff_not] at *
      omega) (fun a b => by
      rw [Bool.or_eq_true, Bool.not_eq_true', Bool.not_eq_true', lt_cfK, lt_cfK]
      unfold ltK
      simp only [decide_eq_false_iff_not]
      omega) L.attach
  refine (hs.and hne).imp fun {a b} hab => ?_
  obtain ⟨h1, h2⟩ := hab
  rw [Bool.not_eq_true', lt_cfK] at h1
  exact ltK_or (fun e => h2 e.symm) (by rw [h1]; simp)

section
variable {W w w' : World} {R : List SP} {b rp ab kb : Nat} {m : List (Int × Acc)}
theorem Own.sortedT {g : Nat} {xs sp : List Value} {F : Array Value} {n : Nat} {os : Array Obj} {T : TypeId} (o : Own w (SP.blk g (.cells (xs ++ sp).toArray T (0, 0)) :: R)) (hF : F.size = xs.length) :
    Own (grow (putRow id (Sort.ahead w n) g 0 F) os) (SP.blk g (.cells (F.toList ++ sp).toArray T (0, 0)) :: R) := by
  have hb := o.blk
  have hlt := o.lt
  refine o.put ?_ (fun k hk hk2 => ?_)
  · have h1 : (grow (putRow id (Sort.ahead w n) g 0 F) os).heap[g]? = (putRow id (Sort.ahead w n) g 0 F).heap[g]? := by
      unfold grow
      show ((putRow id (Sort.ahead w n) g 0 F).heap ++ os)[g]? = _
      rw [Array.getElem?_append_left (by simpa [putRow, mapBlock, Sort.ahead] using hlt)]
    rw [h1]
    show (w.heap.modify g (onCells (putCells id 0 F)))[g]? = _
    rw [Array.getElem?_modify, if_pos rfl, hb]
    simp only [Option.map_some, onCells]
    congr 2
    apply Array.ext_getElem?
    intro k
    simp only [putCells, Array.getElem?_mapIdx, List.getElem?_toArray, Nat.zero_le, true_and, Nat.zero_add, Nat.sub_zero, id]
    by_cases hk : k < F.size
    · rw [List.getElem?_append_left (by omega), List.getElem?_append_left (by simpa using hk), List.getElem?_eq_getElem (by omega)]
      simp [hk]
    · rw [List.getElem?_append_right (by omega), List.getElem?_append_right (by simp; omega), hF]
      simp [hF ▸ hk, hF]
  · unfold grow
    show ((putRow id (Sort.ahead w n) g 0 F).heap ++ os)[k]? = _
    rw [Array.getElem?_append_left (by simpa [putRow, mapBlock, Sort.ahead] using hk2)]
    show (w.heap.modify g (onCells (putCells id 0 F)))[k]? = _
    rw [Array.getElem?_modify, if_neg (fun h => hk h.symm)]

set_option maxHeartbeats 1600000 in
theorem sortT_spec {key : Tg → Int} {a : Option Addr} {n c : Nat} {L : List Tg} {B : SP} (hok : L.Pairwise (fun a b => a.f < b.f)) (hne : L ≠ []) (hn : n = L.length) (hn2 : n ≤ 1000000)
    (hcmp : ∀ (w : World) (R' : List SP), Own w (B :: R') → ∀ x ∈ L, ∀ y ∈ L, Calls Try.prog 88 #[tagV x, tagV y, .pointer (some ⟨kb, 0, none⟩)] w (GRet (.int .i64 (cfK key x y)) w))
    (o : Own w (slc 106 3 a n c (flat tagC L) :: B :: R)) :
    Calls Try.prog 87 #[.slice a n c, .func (.func 88) #[] #[.pointer (some ⟨kb, 0, none⟩)]] w (Ret (.tuple #[]) (slc 106 3 a n c (flat tagC (srtK key L)) :: B :: R) w) := by
  subst hn
  rcases Own.slc.1 o with ⟨rfl, hz, rfl, hx, o1⟩ | ⟨g, sp, rfl, h1, h2, h3, h4, o1⟩
  · exact absurd (List.eq_nil_of_length_eq_zero hz) hne
  · obtain ⟨t0, ht0⟩ := List.exists_mem_of_ne_nil L hne
    haveI : Inhabited (Sub L) := ⟨⟨t0, ht0⟩⟩
    have eg : ∀ args w, (callFunc 88 args).run Try.prog w = .ok (.enter 88 args) w := enters_of Try.func88 (by kernel_rfl) rfl
    have hat : (L.attach.toArray.toList.map (·.1)) = L := by rw [List.toList_toArray, List.attach_map_subtype_val]
    have hsz0 : L.attach.toArray.size = L.length := by simp
    have hH : HoldsK (fun x : Sub L => tagC x.1) 3 w g 0 L.attach.toArray := by
      intro t ht
      have ht2 : t < L.length * 3 := by simpa using ht
      have hget : (flatK (fun x : Sub L => tagC x.1) 3 L.attach.toArray)[t]? = some ((flatK (fun x : Sub L => tagC x.1) 3 L.attach.toArray)[t]!) := by
        rw [getElem!_pos _ t ht]; exact Array.getElem?_eq_getElem ht
      rw [← Array.getElem?_toList, flatK_sub, hat] at hget
      refine ⟨?_, ?_⟩
      · rw [Nat.zero_add]
        exact Own.cell (T := 106) (vs := flat tagC L ++ sp) o1 t (by rw [List.getElem?_append_left (List.getElem?_eq_some_iff.1 hget).1]; exact hget)
      · exact Own.frozen (T := 106) (vs := flat tagC L ++ sp) o1 _
    have hlay : CmpLays Try.prog 88 #[.pointer (some ⟨kb, 0, none⟩)] (fun x : Sub L => tagC x.1) 3 (fun x y : Sub L => cfK key x.1 y.1) g 0 L.attach.toArray.size w := by
      intro m os dk hdk x y
      have hsz : (flatK (fun x : Sub L => tagC x.1) 3 dk).size = (flat tagC L).length := by
        rw [size_flatK, flat_length tagC_len, hdk, hsz0]
      have oS := Own.sortedT (F := flatK (fun x : Sub L => tagC x.1) 3 dk) (n := m) (os := os) o1 hsz
      exact (hcmp _ _ oS.drop x.1 x.2 y.1 y.2).mono fun e w' h => h
    have hcon := AnyQ.slices_SortFunc_total (P := Try.prog) Try.sortT 3 Try.isAgg106 Try.sizeOf106 (fun x : Sub L => tagC x.1) (fun _ => rfl) (fun x v hv => by simp [tagC] at hv; rcases hv with rfl | rfl | rfl <;> rfl) (fun x y : Sub L => cfK key x.1 y.1) (swoK key L) 88 #[.pointer (some ⟨kb, 0, none⟩)] g 0 c L.attach.toArray w eg hlay hH o1.lt (by rw [hsz0]; omega)
      (fun x y h1 h2 => by
        rw [lt_cfK] at h1 h2
        have hf : x.1.f = y.1.f := by
          unfold ltK at h1 h2
          simp only [decide_eq_false_iff_not] at h1 h2
          omega
        refine Subtype.ext ?_
        obtain ⟨i, hi⟩ := List.getElem?_of_mem x.2
        obtain ⟨j, hj⟩ := List.getElem?_of_mem y.2
        obtain ⟨i1, i2⟩ := List.getElem?_eq_some_iff.1 hi
        obtain ⟨j1, j2⟩ := List.getElem?_eq_some_iff.1 hj
        rcases Nat.lt_trichotomy i j with hlt | rfl | hlt
        · have := List.pairwise_iff_getElem.1 hok i j i1 j1 hlt
          rw [i2, j2] at this; omega
        · rw [← i2, ← j2]
        · have := List.pairwise_iff_getElem.1 hok j i j1 i1 hlt
          rw [i2, j2] at this; omega)
    rw [hsz0] at hcon
    change Calls Try.prog 87 _ _ _ at hcon
    refine hcon.mono ?_
    rintro e w' ⟨rfl, n, os, rfl⟩
    have hmg := merge_srt (key := key) hok
    have hsz : (flatK (fun x : Sub L => tagC x.1) 3 (L.attach.toArray.toList.mergeSort fun x y : Sub L => !(ltOf (fun x y : Sub L => cfK key x.1 y.1)) y x).toArray).size = (flat tagC L).length := by
      rw [size_flatK, flat_length tagC_len, List.size_toArray, List.length_mergeSort]
      simp
    have o2 := Own.sortedT (F := flatK (fun x : Sub L => tagC x.1) 3 (L.attach.toArray.toList.mergeSort fun x y : Sub L => !(ltOf (fun x y : Sub L => cfK key x.1 y.1)) y x).toArray) (n := n) (os := os) o1 hsz
    rw [flatK_sub, List.toList_toArray, List.toList_toArray, hmg] at o2
    refine ⟨rfl, Own.slc.2 (.inr ⟨g, sp, rfl, h1, h2, by rw [flat_length tagC_len, srtK_len], h4, o2⟩), ⟨rfl, rfl, rfl⟩⟩
end
end Go.Proofs.Ytkmlkpfabkhleaa

/- Iwfq: the flows sorted by a key of their tags. -/
namespace Go.Proofs.Ytkmlkpfabkhleaa
open Go.RowKit
open SP
section
variable {W w w' : World} {R : List SP} {b rp ab kb : Nat} {m : List (Int × Acc)}

theorem slc_srcT {e : TypeId} {size : Nat} {a : Option Addr} {n c : Nat} {xs : List Value} (h1 : ∀ u ∈ xs, u.oneCell' = true) (o : Own w (slc e size a n c xs :: R)) : IsSrc w (.slice a n c) size n xs := by
  have hl := o.slc_len.1
  refine ⟨a, c, rfl, hl, h1, ?_⟩
  rcases Own.slc.1 o with ⟨_, h, _⟩ | ⟨g, sp, rfl, _, _, _, _, o1⟩
  · exact .inl h
  · refine .inr ⟨_, rfl, fun j u hu => ?_⟩
    have hadd : (⟨g, 0, none⟩ : Addr).add j = ⟨g, j, none⟩ := by unfold Addr.add; split <;> simp_all
    rw [hadd]
    exact Own.cell o1 j (by rw [List.getElem?_append_left (List.getElem?_eq_some_iff.1 hu).1]; exact hu)
theorem tagC_one (S : List Tg) : ∀ u ∈ flat tagC S, u.oneCell' = true := by
  intro u hu
  obtain ⟨s, _, hs⟩ := List.mem_flatMap.1 hu
  unfold tagC at hs
  simp at hs
  rcases hs with rfl | rfl | rfl <;> rfl
set_option maxHeartbeats 1600000 in
set_option maxRecDepth 100000 in
theorem cloneTg_spec {a : Option Addr} {n c : Nat} {S : List Tg} (hn : n ≤ 1000) (o : Own w (slc 106 3 a n c (flat tagC S) :: R)) :
    Calls Try.prog 86 #[.slice a n c] w fun e w' => ∃ a' c', Ret (.slice a' n c') (slc 106 3 a' n c' (flat tagC S) :: slc 106 3 a n c (flat tagC S) :: R) w e w' := by
  have hnil := fun (w : World) (a : Option Addr) (n c : Nat) => Lib.run_eql_slice_nil w 102 106 a n c 0 0 Try.underlying102
  rcases Own.slc.1 o with ⟨rfl, rfl, rfl, hS, o1⟩ | ⟨g, sp, rfl, h1, h2, h3, h4, o1⟩
  · have o2 := Own.slc_nil (e := 106) (size := 3) o
    rw [← hS] at o2
    clear hS
    go_enter Try.func86, Try.ntmps86
    go_wp2
    go_ret
    exact ⟨none, 0, rfl, o2, Calm.refl w⟩
  · clear o1 h1 h2 h3 h4 sp
    have oZ := slc_zero (e := 106) (size := 3) (o.alloc (.cells #[] 106))
    have hsrc := slc_srcT (tagC_one S) (oZ.up 1)
    go_enter Try.func86, Try.ntmps86
    go_wp2_with (at_builtin; refine wpList_append_src rfl _ _ rfl Try.tagT rfl oZ rfl hsrc (by unfold maxLen; omega) (by omega) ?k1)
    case k1 =>
      intro a' c' w6 o6 k6
      go_wp2
      go_ret
      exact ⟨a', c', rfl, o6, ⟨k6.os, k6.tape, k6.output⟩⟩

theorem Try.intIw : ElemT Try.prog 22 3 1 8 := ElemT.mk' Try.underlying22 (z := .int .i64 0) (by kernel_rfl) (by kernel_rfl) (by omega)
def flI (L : List Tg) : List Value := (L.map (·.f)).map (Value.int .i64)
theorem flI_snoc (L : List Tg) (i : Nat) (t : Tg) (h : L[i]? = some t) : flI (L.take (i + 1)) = flI (L.take i) ++ [.int .i64 t.f] := by
  unfold flI
  rw [List.take_add_one, h]
  simp
def SrtRel (M : List Tg) (a1 : Option Addr) (c1 : Nat) (B : SP) (R : List SP) (w : World) (v5 v15 : Value) (wr : World) : Prop :=
  ∃ (i : Nat) (a5 : Option Addr) (c5 : Nat), v15 = .int .i64 (i : Int) ∧ i ≤ M.length ∧ v5 = .slice a5 i c5 ∧
    Own wr (slc 3 1 a5 i c5 (flI (M.take i)) :: slc 106 3 a1 M.length c1 (flat tagC M) :: B :: R) ∧ Calm w wr
def SortedPost (M : List Tg) (a : Option Addr) (n c : Nat) (L : List Tg) (Q : SP) (R : List SP) (w : World) (e : Ending) (w' : World) : Prop :=
  ∃ (a' : Option Addr) (c' : Nat), Ret (.slice a' n c') (slc 3 1 a' n c' (flI M) :: slc 106 3 a n c (flat tagC L) :: Q :: R) w e w'
set_option maxHeartbeats 3200000 in
set_option maxRecDepth 100000 in
theorem sorted_spec {key : Tg → Int} {fn : Nat} {bs : Array Value} {a : Option Addr} {n c : Nat} {L : List Tg} {Q : SP} (hok : L.Pairwise (fun a b => a.f < b.f)) (hne : L ≠ []) (hn : n = L.length) (hn2 : n ≤ 1000)
    (hcmp : ∀ (kb : Nat) (w : World) (R' : List SP), Own w (boxK kb (.func (.func fn) bs #[]) :: Q :: R') → ∀ x ∈ L, ∀ y ∈ L, Calls Try.prog 88 #[tagV x, tagV y, .pointer (some ⟨kb, 0, none⟩)] w (GRet (.int .i64 (cfK key x y)) w))
    (o : Own w (slc 106 3 a n c (flat tagC L) :: Q :: R)) :
    Calls Try.prog 54 #[.slice a n c, .func (.func fn) bs #[]] w (SortedPost (srtK key L) a n c L Q R w) := by
  have oA : Own (w.alloc (.cells #[.func (.func fn) bs #[]] 110)) (boxK w.heap.size (.func (.func fn) bs #[]) :: slc 106 3 a n c (flat tagC L) :: Q :: R) := o.alloc _
  have hcl := cloneTg_spec hn2 (oA.re [1])
  have HN := Lib.hid hn
  have hM := srtK_len key L
  obtain ⟨M, hMM⟩ : ∃ M, srtK key L = M := ⟨_, rfl⟩
  rw [hMM] at hM
  have HM := Lib.hid hM
  have HMM := Lib.hid hMM
  rw [hMM]
  clear hn hM hMM
  go_enter Try.func54, Try.ntmps54
  go_wp2_with fail
  refine hcl.mono ?_
  rintro e1 w1 ⟨a1, c1, rfl, o1, k1⟩
  clear hcl
  have oS : Own w1 (slc 106 3 a1 n c1 (flat tagC L) :: st [boxK w.heap.size (.func (.func fn) bs #[]), Q] :: slc 106 3 a n c (flat tagC L) :: R) := Own.swap (Own.st.2 (o1.re [2, 3, 0, 1]))
  have hsr := sortT_spec (key := key) (kb := w.heap.size) (c := c1) hok hne HN.out (by omega) (fun w R' o => hcmp _ w R' (Own.st.1 o)) oS
  rw [HMM.out] at hsr
  generalize w.heap.size = kb at *
  have b0 := Own.cell (T := 110) (vs := [.func (.func fn) bs #[]]) (o1.up 2) 0
  go_wp2_with fail
  refine hsr.mono ?_
  rintro e2 w2 ⟨rfl, o2, k2⟩
  have hnM : n = M.length := by rw [HN.out, HM.out]
  have hT : SrtRel M a1 c1 (st [boxK kb (.func (.func fn) bs #[]), Q]) (slc 106 3 a n c (flat tagC L) :: R) w (.slice none 0 0) (.int .i64 0) w2 := ⟨0, none, 0, rfl, Nat.zero_le _, rfl, Own.slc_nil (by rw [← hnM]; exact o2), (qcalm_alloc (Calm.refl w)).trans (k1.trans k2)⟩
  have HNM := Lib.hid hnM
  clear hsr oS o1 o2 k1 k2 oA o b0 hnM
  go_wp2
  go_loopw [5, 15] (fun v5 v15 wr => SrtRel M a1 c1 (st [boxK kb (.func (.func fn) bs #[]), Q]) (slc 106 3 a n c (flat tagC L) :: R) w v5 v15 wr) (fun _ v _ => n - (Lib.intOf v).toNat)
  case atStart => exact hT
  case round =>
    clear hT
    obtain ⟨i, a5, c5, rfl, hi, rfl, oR, kR⟩ := hrel
    by_cases hlt : i < n
    · obtain ⟨t, ht⟩ : ∃ t, M[i]? = some t := ⟨_, List.getElem?_eq_getElem (by have := HNM.out; omega)⟩
      obtain ⟨g, rfl, hc, _, hgl⟩ := (oR.up 1).slc_cell (by have := HNM.out; omega)
      have d0 := hc (i * 3 + 0) _ (flat_get tagC_len M i 0 t ht (by omega))
      rw [Nat.add_zero] at d0
      have d1 := hc (i * 3 + 1) _ (flat_get tagC_len M i 1 t ht (by omega))
      have d2 := hc (i * 3 + 2) _ (flat_get tagC_len M i 2 t ht (by omega))
      change wr.cell? ⟨g, i * 3, none⟩ = some (.int .i64 t.f) at d0
      change wr.cell? ⟨g, i * 3 + 1, none⟩ = some (.int .i64 t.w) at d1
      change wr.cell? ⟨g, i * 3 + 2, none⟩ = some (.int .i64 t.s) at d2
      clear hc
      have HSN := Lib.hid (flI_snoc M i t ht)
      have hn2' : (n : Int) ≤ 1000 := by omega
      have oA := (oR.alloc (.cells #[.int .i64 t.f, .int .i64 t.w, .int .i64 t.s] 106)).drop
      have oB := oA.alloc (.cells #[.int .i64 t.f] 3)
      simp only [World.size_alloc] at oB
      clear ht
      go_wp2_with (at_builtin; refine wpList_append_slc rfl _ _ rfl Try.intIw rfl (oB.up 1) ⟨wr.heap.size + 1, 0, none⟩ 1 1 [.int .i64 t.f] rfl rfl ?c1 ?c2 ?c3 ?c4 ?c5)
      case c1 => exact Own.news (T := 3) oB
      case c2 => intro u hu; simp at hu; rcases hu with rfl; rfl
      case c3 => unfold maxLen; omega
      case c4 => omega
      case c5 =>
      intro a6 c6 w6 o6 k6
      go_wp2
      go_roundw
      case rel => exact ⟨i + 1, a6, c6, by go_num, by have := HNM.out; omega, rfl, by rw [HSN.out]; exact o6.re [1] 1, kR.trans ⟨k6.os, k6.tape, k6.output⟩⟩
      case measure => simp [Lib.intOf]; omega
    · have hin : i = n := by have := HNM.out; omega
      subst hin
      have hnM := HNM.out
      rw [hnM, List.take_length] at oR
      rw [← hnM] at oR
      clear hnM
      go_wp2
      go_ret
      exact ⟨a5, c5, rfl, (Own.st.1 (oR.re [2])).re [0, 3, 2, 4, 1] 2, kR⟩
end
end Go.Proofs.Ytkmlkpfabkhleaa

/- Iwfq: which packets may be sent in place of others. -/
namespace Go.Proofs.Ytkmlkpfabkhleaa
open Go.RowKit
open SP
section
variable {W w w' : World} {R : List SP} {b rp ab : Nat} {m : List (Int × Acc)}

theorem Grw.drewN (w : World) (n : Nat) : Grw w (w.drewN n) := ⟨n, #[], by rw [Go.Sort.grow_empty]⟩
/-- Accounts within their bounds' range. -/
def AccOk (m : List (Int × Acc)) : Prop := ∀ f, (-1099511627776 ≤ (accO m f).1 ∧ (accO m f).1 ≤ 1099511627776) ∧ (0 ≤ (accO m f).2.1 ∧ (accO m f).2.1 ≤ 1099511627776) ∧ (0 ≤ (accO m f).2.2 ∧ (accO m f).2.2 ≤ 1099511627776)
theorem AccOk.lag (h : AccOk m) : LagOk m := fun f => (h f).1

set_option maxHeartbeats 1600000 in
set_option maxRecDepth 100000 in
theorem permitted_spec {k j len : Int} (hm : AccOk m) (h0 : 0 ≤ len) (h1 : len ≤ 4096) (o : Own w (IwC b rp ab :: mpI accI ab m :: R)) :
    Calls Try.prog 57 #[.pointer (some ⟨b, 0, none⟩), .int .i64 k, .int .i64 j, .int .i64 len] w (GRet (.bool (permI m k j len)) w) := by
  have hlk := fun n => lookI ((o.drewN n).up 1) k
  have hlj := fun n => lookI ((o.drewN n).up 1) j
  have c1 := o.cell 1
  have cl := o.celLt
  have hk := hm k
  have hj := hm j
  unfold permI
  unfold accI at hlk hlj
  generalize accO m k = A at *
  generalize accO m j = B at *
  obtain ⟨x, y, z⟩ := A
  obtain ⟨x2, y2, z2⟩ := B
  dsimp only at *
  have f0 := fun w => (Try.fieldI (.int .i64 x) (.int .i64 y) (.int .i64 z) w).1
  have f1 := fun w => (Try.fieldI (.int .i64 x) (.int .i64 y) (.int .i64 z) w).2.1
  have g0 := fun w => (Try.fieldI (.int .i64 x2) (.int .i64 y2) (.int .i64 z2) w).1
  have g2 := fun w => (Try.fieldI (.int .i64 x2) (.int .i64 y2) (.int .i64 z2) w).2.2
  by_cases hkj : k = j
  · have e : (k == j) = true := by simpa using hkj
    have e2 : decide (k = j) = true := by simpa using hkj
    rw [e2]
    clear hkj e2
    go_enter Try.func57, Try.ntmps57
    go_wp2
    go_quiet (fail)
    go_wp2
    go_ret
    exact ⟨rfl, Grw.drewN w _⟩
  · have e : (k == j) = false := by simpa using hkj
    have e2 : decide (k = j) = false := by simpa using hkj
    rw [e2]
    clear hkj e2
    cases d1 : decide (x + len ≤ y) with
    | false =>
      go_enter Try.func57, Try.ntmps57
      go_wp2
      go_quiet (fail)
      go_wp2
      go_ret
      exact ⟨rfl, Grw.drewN w _⟩
    | true =>
      obtain ⟨D, hD⟩ : ∃ D, decide (-z2 ≤ x2 - len) = D := ⟨_, rfl⟩
      rw [hD]
      go_enter Try.func57, Try.ntmps57
      go_wp2
      go_quiet (fail)
      go_wp2
      go_ret
      exact ⟨rfl, Grw.drewN w _⟩
end
end Go.Proofs.Ytkmlkpfabkhleaa

/- Drawn regions whose operations all give values that can be named beforehand. -/
namespace Go.Proofs.Ytkmlkpfabkhleaa
open Go.RowKit
open SP
/-- What has been done gives these values. -/
def Vals (f : Nat → Value) (L : Nat → Bool) (v : Nat → Value) : Prop := ∀ i, L i = true → v i = f i
theorem Vals.no {f : Nat → Value} {v : Nat → Value} : Vals f (fun _ => false) v := fun _ h => (Bool.false_ne_true h).elim
theorem Vals.put {f : Nat → Value} {L : Nat → Bool} {v : Nat → Value} (h : Vals f L v) (i : Nat) {x : Value} (hx : x = f i) : Vals f (dIns L i) (dUpd v i x) := fun j hj => by
  unfold dUpd
  split
  · rename_i e; rw [e]; exact hx
  · rename_i e
    unfold dIns at hj
    rw [if_neg e] at hj
    exact h j hj
/-- The same, where of some nothing is said. -/
def OVals (f : Nat → Option Value) (L : Nat → Bool) (v : Nat → Value) : Prop := ∀ i x, f i = some x → L i = true → v i = x
theorem OVals.no {f : Nat → Option Value} {v : Nat → Value} : OVals f (fun _ => false) v := fun _ _ _ h => (Bool.false_ne_true h).elim
theorem OVals.put {f : Nat → Option Value} {L : Nat → Bool} {v : Nat → Value} (h : OVals f L v) (i : Nat) {x : Value} (hx : ∀ y, f i = some y → x = y) : OVals f (dIns L i) (dUpd v i x) := fun j y hy hj => by
  unfold dUpd
  split
  · rename_i e; subst e; exact hx y hy
  · rename_i e
    unfold dIns at hj
    rw [if_neg e] at hj
    exact h j y hy hj
theorem some_eq {x y : Value} (h : some x = some y) : x = y := Option.some.inj h
end Go.Proofs.Ytkmlkpfabkhleaa

/- Drawn regions with guards that are decided beforehand. -/
namespace Go.Proofs.Ytkmlkpfabkhleaa
open Go.RowKit
open SP
section
variable {P : Program} {ops : Array Oper} {Q : Exit → Act → World → Prop}
theorem wanted_at {A0 a : Act} {L : Nat → Bool} {v : Nat → Value} {o : Oper} {j : Nat} {want b : Bool} {t : Nat} (hA : Agree A0 ops L v a) (hg : o.guard = some (j, want)) (ht : (ops[j]?).bind (·.dst) = some t) (hl : L j = true) (hv : v j = .bool b) :
    Region.wanted o (yielded ops a.tmps) = (b == want) := by
  have h := hA.get j hl ht
  rw [hv] at h
  unfold Region.wanted
  rw [hg]
  show (yielded ops a.tmps j == some want) = _
  unfold yielded
  rw [ht]
  simp only [Option.bind_some]
  cases hx : a.tmps[t]? with
  | none => rw [hx] at h; cases h
  | some x =>
    rw [hx] at h
    have : x = .bool b := h
    subst this
    simp
theorem DrawStep.run {A0 : Act} {Inv : (Nat → Bool) → (Nat → Value) → World → Prop} {i : Nat} {o : Oper} {j : Nat} {want : Bool} {t : Nat} (hg : o.guard = some (j, want)) (ht : (ops[j]?).bind (·.dst) = some t)
    (hj : (o.after.any fun e => decide (e.on = j) && Region.binds .any e) = true) (hv : ∀ L v w, Inv L v w → L j = true → v j = .bool want)
    (h : ∀ (L : Nat → Bool) (v : Nat → Value) (a : Act) (w : World), L i = false → (∀ e ∈ o.after, Region.binds .any e = true → L e.on = true) → Agree A0 ops L v a → Inv L v w →
      ∀ K' : Act → World → Prop, Shut (∀ x w', Inv (dIns L i) (dUpd v i x) w' → K' (a.put o.dst x) w') → Oper.wp P o a w K' Q) : DrawStep P ops Q A0 Inv i o := by
  intro L v a w h1 h2 h3 h4 K' hK
  rw [Array.any_eq_true'] at hj
  obtain ⟨e, he, hb⟩ := hj
  rw [Bool.and_eq_true, decide_eq_true_eq] at hb
  have hl : L j = true := hb.1 ▸ h2 e he hb.2
  rw [if_pos (by rw [wanted_at h3 hg ht hl (hv L v w h4 hl)]; simp)]
  exact h L v a w h1 h2 h3 h4 K' hK
theorem DrawStep.skip {A0 : Act} {Inv : (Nat → Bool) → (Nat → Value) → World → Prop} {i : Nat} {o : Oper} {j : Nat} {want : Bool} {t : Nat} (hg : o.guard = some (j, want)) (ht : (ops[j]?).bind (·.dst) = some t)
    (hj : (o.after.any fun e => decide (e.on = j) && Region.binds .any e) = true) (hv : ∀ L v w, Inv L v w → L j = true → v j = .bool (!want))
    (hi : ∀ L v w, L i = false → Inv L v w → Inv (dIns L i) (dUpd v i undef) w) : DrawStep P ops Q A0 Inv i o := by
  intro L v a w h1 h2 h3 h4 K' hK
  rw [Array.any_eq_true'] at hj
  obtain ⟨e, he, hb⟩ := hj
  rw [Bool.and_eq_true, decide_eq_true_eq] at hb
  have hl : L j = true := hb.1 ▸ h2 e he hb.2
  rw [if_neg (by rw [wanted_at h3 hg ht hl (hv L v w h4 hl)]; cases want <;> decide)]
  exact hK.out _ _ (hi L v w h1 h4)
theorem DrawStep.skipU {A0 : Act} {Inv : (Nat → Bool) → (Nat → Value) → World → Prop} {i : Nat} {o : Oper} {j : Nat} {want : Bool} {t : Nat} (hg : o.guard = some (j, want)) (ht : (ops[j]?).bind (·.dst) = some t)
    (hj : (o.after.any fun e => decide (e.on = j) && Region.binds .any e) = true) (hv : ∀ L v w, Inv L v w → L j = true → v j = undef)
    (hi : ∀ L v w, L i = false → Inv L v w → Inv (dIns L i) (dUpd v i undef) w) : DrawStep P ops Q A0 Inv i o := by
  intro L v a w h1 h2 h3 h4 K' hK
  rw [Array.any_eq_true'] at hj
  obtain ⟨e, he, hb⟩ := hj
  rw [Bool.and_eq_true, decide_eq_true_eq] at hb
  have hl : L j = true := hb.1 ▸ h2 e he hb.2
  have hw : Region.wanted o (yielded ops a.tmps) = false := by
    have h := h3.get j hl ht
    rw [hv L v w h4 hl] at h
    unfold Region.wanted
    rw [hg]
    show (yielded ops a.tmps j == some want) = _
    unfold yielded
    rw [ht]
    simp only [Option.bind_some]
    cases hx : a.tmps[t]? with
    | none => rfl
    | some x =>
      rw [hx] at h
      have : x = undef := h
      subst this
      rfl
  rw [if_neg (by rw [hw]; decide)]
  exact hK.out _ _ (hi L v w h1 h4)
end
end Go.Proofs.Ytkmlkpfabkhleaa

/- Drawn regions that make one struct and store it last. -/
namespace Go.Proofs.Ytkmlkpfabkhleaa
open Go.RowKit
open SP
/-- The struct of a region: not made yet, made (cells zs), stored (cells ys). -/
def Pb (la ls : Bool) (v : Value) (T : TypeId) (zs ys : List Value) : SP :=
  st [pu (ls = true → la = true), if la = true then ex fun (g : Nat) => st [pu (v = .pointer (some ⟨g, 0, none⟩)), cel g T (if ls = true then ys else zs)] else pu True]
section
variable {w w' : World} {R : List SP} {v : Value} {T : TypeId} {zs ys : List Value}
theorem Pb.no (o : Own w R) : Own w (Pb false false v T zs ys :: R) := by
  unfold Pb
  rw [if_neg Bool.false_ne_true]
  exact Own.st.2 (Own.pu.2 ⟨fun h => h, Own.pu.2 ⟨trivial, o⟩⟩)
theorem Pb.new {ls : Bool} (o : Own w (Pb false ls v T zs ys :: R)) : Own (w.alloc (.cells zs.toArray T)) (Pb true ls (.pointer (some ⟨w.heap.size, 0, none⟩)) T zs ys :: R) := by
  unfold Pb at o ⊢
  obtain ⟨h, o⟩ := Own.pu.1 (Own.st.1 o)
  have hls : ls = false := by
    cases ls with
    | false => rfl
    | true => exact absurd (h rfl) Bool.false_ne_true
  subst hls
  rw [if_neg Bool.false_ne_true] at o
  rw [if_pos rfl, if_neg Bool.false_ne_true]
  exact Own.st.2 (Own.pu.2 ⟨fun _ => rfl, Own.ex.2 ⟨w.heap.size, Own.st.2 (Own.pu.2 ⟨rfl, (Own.pu.1 o).2.alloc _⟩)⟩⟩)
theorem Pb.val (o : Own w (Pb true false v T zs ys :: R)) : ∃ g : Nat, v = .pointer (some ⟨g, 0, none⟩) ∧ Own w (cel g T zs :: R) := by
  unfold Pb at o
  obtain ⟨_, o⟩ := Own.pu.1 (Own.st.1 o)
  rw [if_pos rfl, if_neg Bool.false_ne_true] at o
  obtain ⟨g, o⟩ := Own.ex.1 o
  obtain ⟨h, o⟩ := Own.pu.1 (Own.st.1 o)
  exact ⟨g, h, o⟩
theorem Pb.set {g : Nat} (o : Own w (cel g T ys :: R)) : Own w (Pb true true (.pointer (some ⟨g, 0, none⟩)) T zs ys :: R) := by
  unfold Pb
  rw [if_pos rfl, if_pos rfl]
  exact Own.st.2 (Own.pu.2 ⟨fun _ => rfl, Own.ex.2 ⟨g, Own.st.2 (Own.pu.2 ⟨rfl, o⟩)⟩⟩)
theorem Pb.put {g : Nat} {l : Bool} (o : Own w (cel g T ys :: R)) (hl : l = true) (hv : v = .pointer (some ⟨g, 0, none⟩)) : Own w (Pb l true v T zs ys :: R) := by
  subst hl
  subst hv
  exact Pb.set o
theorem Pb.got (o : Own w (Pb true true v T zs ys :: R)) : ∃ g : Nat, v = .pointer (some ⟨g, 0, none⟩) ∧ Own w (cel g T ys :: R) := by
  unfold Pb at o
  obtain ⟨_, o⟩ := Own.pu.1 (Own.st.1 o)
  rw [if_pos rfl, if_pos rfl] at o
  obtain ⟨g, o⟩ := Own.ex.1 o
  obtain ⟨h, o⟩ := Own.pu.1 (Own.st.1 o)
  exact ⟨g, h, o⟩
end
end Go.Proofs.Ytkmlkpfabkhleaa

/- Iwfq: a packet sent. -/
namespace Go.Proofs.Ytkmlkpfabkhleaa
open Go.RowKit
open SP
section
variable {W w w' : World} {R : List SP} {b rp ab : Nat} {m : List (Int × Acc)} {reb : Int} {S S' : St}

theorem chRow8 {fn : Func} (h : fn.results = #[.cell 8 33, .tmp 9]) {tmps : Array Value} {p : Nat} {x y z : Int} {e : Int} (hp : tmps.getD 8 undef = .pointer (some ⟨p, 0, none⟩)) (he : tmps.getD 9 undef = .int .i64 e)
    (o : Own w (cel p 33 [.int .i64 x, .int .i64 y, .int .i64 z] :: R)) : (results fn tmps).run Try.prog w = .ok (.tuple #[chV ⟨x, y, z⟩, .int .i64 e]) w := by
  have c0 := o.cell 0
  have c1 := o.cell 1
  have c2 := o.cell 2
  rw [results_cell_tmp h, hp, he]
  unfold chV
  go_simp
abbrev choC (p : Nat) (x y z : Int) : SP := cel p 33 [.int .i64 x, .int .i64 y, .int .i64 z]
theorem choSet {p : Nat} {x y z : Int} (o : Own w (choC p 0 0 0 :: R)) : Own (((w.setCell ⟨p, 0, none⟩ (.int .i64 x)).setCell ⟨p, 1, none⟩ (.int .i64 y)).setCell ⟨p, 2, none⟩ (.int .i64 z)) (choC p x y z :: R) :=
  Own.setCell (T := 33) (vs := [.int .i64 x, .int .i64 y, .int .i64 0]) (Own.setCell (T := 33) (vs := [.int .i64 x, .int .i64 0, .int .i64 0]) (Own.setCell (T := 33) (vs := [.int .i64 0, .int .i64 0, .int .i64 0]) o 0 (.int .i64 x)) 1 (.int .i64 y)) 2 (.int .i64 z)

set_option maxHeartbeats 3200000 in
set_option maxRecDepth 100000 in
theorem serve_own {k len : Int} (haw : 0 ≤ S.aw ∧ S.aw ≤ 1152921504606846976) (hc : chargeR reb S k len = (0, S')) (o : Own w (IwC b rp ab :: SfqR rp reb S :: mpI accI ab m :: R)) :
    Calls Try.prog 58 #[.pointer (some ⟨b, 0, none⟩), .int .i64 k, .int .i64 k, .int .i64 len] w (Ret (.tuple #[chV ⟨k, k, 1⟩, .int .i64 0]) (IwC b rp ab :: SfqR rp reb S' :: mpI accI ab m :: R) w) := by
  have oA : Own (w.alloc (.cells #[.int .i64 0, .int .i64 0, .int .i64 0] 33)) (choC w.heap.size 0 0 0 :: IwC b rp ab :: SfqR rp reb S :: mpI accI ab m :: R) := o.alloc _
  have c0 := (oA.up 1).cell 0
  have cl := (oA.up 1).celLt
  have hq := sfqCharge_spec k len haw (oA.re [2])
  rw [hc] at hq
  clear hc
  go_enter Try.func58, Try.ntmps58
  go_wp2_with fail
  refine hq.mono ?_
  rintro e1 w1 ⟨rfl, o1, k1⟩
  clear hq
  have z0 := Own.cell (T := 33) (vs := [.int .i64 0, .int .i64 0, .int .i64 0]) (o1.up 1) 0
  have z1 := Own.cell (T := 33) (vs := [.int .i64 0, .int .i64 0, .int .i64 0]) (o1.up 1) 1
  have z2 := Own.cell (T := 33) (vs := [.int .i64 0, .int .i64 0, .int .i64 0]) (o1.up 1) 2
  have zf := Own.frozen (T := 33) (vs := [.int .i64 0, .int .i64 0, .int .i64 0]) (o1.up 1)
  have zl := Own.celLt (T := 33) (vs := [.int .i64 0, .int .i64 0, .int .i64 0]) (o1.up 1)
  have o5 := choSet (x := k) (y := k) (z := 1) (o1.up 1)
  go_wp2
  refine bodyPost_ret (v := .tuple #[chV ⟨k, k, 1⟩, .int .i64 0]) ?_ rfl ?_
  · exact chRow8 (p := w.heap.size) rfl rfl rfl o5
  · exact ⟨rfl, (o5.drop).re [1, 0], ⟨k1.os, k1.tape, k1.output⟩⟩

abbrev accP_ (p : Nat) (x y z : Int) : SP := cel p 101 [.int .i64 x, .int .i64 y, .int .i64 z]
def SvMid (w0 : World) (b rp ab : Nat) (reb : Int) (S' : St) (m : List (Int × Acc)) (A D : Acc) (R : List SP) (w : World) (v11 v12 : Value) (wc : World) : Prop :=
  ∃ p q : Nat, v11 = .pointer (some ⟨p, 0, none⟩) ∧ v12 = .pointer (some ⟨q, 0, none⟩) ∧
    Own wc (accP_ p A.1 A.2.1 A.2.2 :: accP_ q D.1 D.2.1 D.2.2 :: SfqR rp reb S' :: choC w0.heap.size 0 0 0 :: IwC b rp ab :: mpI accI ab m :: R) ∧ Calm w wc
def mvI (c s : Int) (a d : Acc) (x y : Int) (m : List (Int × Acc)) (L : Nat → Bool) : List (Int × Acc) :=
  if L 17 then mput (mput m c (x, a.2.1, a.2.2)) s (y, d.2.1, d.2.2) else if L 14 then mput m c (x, a.2.1, a.2.2) else m
def SvInv (b rp p q ab : Nat) (c s : Int) (a d : Acc) (x y : Int) (m : List (Int × Acc)) (R : List SP) (w : World) (L : Nat → Bool) (v : Nat → Value) (wc : World) : Prop :=
  Own wc (mpI accI ab (mvI c s a d x y m L) :: accP_ q y d.2.1 d.2.2 :: accP_ p x a.2.1 a.2.2 :: IwC b rp ab :: R) ∧ Calm w wc ∧
  ((L 0 = true → v 0 = .pointer (some ⟨b, 0, none⟩)) ∧ (L 1 = true → v 1 = .pointer (some ⟨b, 0, none⟩)) ∧ (L 2 = true → v 2 = .pointer (some ⟨b, 1, none⟩)) ∧ (L 3 = true → v 3 = .map (some ab)) ∧
  (L 4 = true → v 4 = .int .i64 c) ∧ (L 5 = true → v 5 = .pointer (some ⟨b, 0, none⟩)) ∧ (L 6 = true → v 6 = .pointer (some ⟨b, 0, none⟩)) ∧ (L 7 = true → v 7 = .pointer (some ⟨b, 1, none⟩)) ∧
  (L 8 = true → v 8 = .map (some ab)) ∧ (L 9 = true → v 9 = .int .i64 s) ∧ (L 10 = true → v 10 = .agg #[.int .i64 x, .int .i64 a.2.1, .int .i64 a.2.2]) ∧ (L 11 = true → v 11 = .agg #[.int .i64 y, .int .i64 d.2.1, .int .i64 d.2.2])) ∧
  (L 12 = true → ∃ born : Nat, v 12 = .tuple #[accI a, .int .i64 (born : Int)] ∧ (L 13 = true → v 13 = .int .i64 (born : Int)) ∧ (L 14 = false → BornAt m wc ab c born)) ∧
  (L 15 = true → ∃ born : Nat, v 15 = .tuple #[accI d, .int .i64 (born : Int)] ∧ (L 16 = true → v 16 = .int .i64 (born : Int)) ∧ (L 17 = false → BornAt (mput m c (x, a.2.1, a.2.2)) wc ab s born)) ∧
  (L 13 = true → L 12 = true) ∧ (L 14 = true → L 13 = true) ∧ (L 15 = true → L 14 = true) ∧ (L 16 = true → L 15 = true) ∧ (L 17 = true → L 16 = true)
set_option maxHeartbeats 6400000 in
set_option maxRecDepth 100000 in
theorem serve_pair {k j len : Int} (hkj : k ≠ j) (h0 : 0 ≤ len) (h1 : len ≤ 4096) (haw : 0 ≤ S.aw ∧ S.aw ≤ 1152921504606846976) (hc : chargeR reb S k len = (0, S')) {A D : Acc} (hk : mget m k = some A) (hj : mget m j = some D)
    (hA : -1099511627776 ≤ A.1 ∧ A.1 ≤ 1099511627776) (hD : -1099511627776 ≤ D.1 ∧ D.1 ≤ 1099511627776) (o : Own w (IwC b rp ab :: SfqR rp reb S :: mpI accI ab m :: R)) :
    Calls Try.prog 58 #[.pointer (some ⟨b, 0, none⟩), .int .i64 k, .int .i64 j, .int .i64 len] w (Ret (.tuple #[chV ⟨k, j, 5⟩, .int .i64 0]) (IwC b rp ab :: SfqR rp reb S' :: mpI accI ab (mput (mput m k (accP A len)) j (accP D (-len))) :: R) w) := by
  have oA : Own (w.alloc (.cells #[.int .i64 0, .int .i64 0, .int .i64 0] 33)) (choC w.heap.size 0 0 0 :: IwC b rp ab :: SfqR rp reb S :: mpI accI ab m :: R) := o.alloc _
  have c0 := (oA.up 1).cell 0
  have cl := (oA.up 1).celLt
  have hq := sfqCharge_spec k len haw (oA.re [2])
  rw [hc] at hq
  clear hc
  have e : (k == j) = false := by simpa using hkj
  have hAO : accO m k = A := by unfold accO; rw [hk]; rfl
  have hDO : accO m j = D := by unfold accO; rw [hj]; rfl
  have HK := Lib.hid hk
  have HJ := Lib.hid hj
  have HKJ := Lib.hid hkj
  clear hk hj hkj
  go_enter Try.func58, Try.ntmps58
  go_wp2_with fail
  refine hq.mono ?_
  rintro e1 w1 ⟨rfl, o1, k1⟩
  clear hq
  have x1 := (o1.up 2).cell 1
  have xl := (o1.up 2).celLt
  have hlk := fun (w : World) (R : List SP) (o : Own w (mpI accI ab m :: R)) => lookI o k
  have hlj := fun (w : World) (R : List SP) (o : Own w (mpI accI ab m :: R)) => lookI o j
  rw [hAO] at hlk
  rw [hDO] at hlj
  unfold accI at hlk hlj
  obtain ⟨a1, a2, a3⟩ := A
  obtain ⟨d1, d2, d3⟩ := D
  dsimp only at hlk hlj hA hD
  have HLK := Lib.hid hlk
  have HLJ := Lib.hid hlj
  clear hlk hlj hAO hDO
  have K1 : Calm w w1 := (qcalm_alloc (Calm.refl w)).trans k1
  go_upto_region 6 with fail
  go_cut [11, 12] (fun v11 v12 wc => SvMid w b rp ab reb S' m (a1, a2, a3) (d1, d2, d3) R w v11 v12 wc)
  case first =>
    refine wp_region_draws (fun L v wc => Own wc (Pb (L 12) (L 14) (v 12) 101 [.int .i64 0, .int .i64 0, .int .i64 0] [.int .i64 a1, .int .i64 a2, .int .i64 a3] :: Pb (L 13) (L 15) (v 13) 101 [.int .i64 0, .int .i64 0, .int .i64 0] [.int .i64 d1, .int .i64 d2, .int .i64 d3] :: SfqR rp reb S' :: choC w.heap.size 0 0 0 :: IwC b rp ab :: mpI accI ab m :: R) ∧ Calm w wc ∧ OVals (fun i => ([some (.pointer (some ⟨b, 0, none⟩)), some (.pointer (some ⟨b, 0, none⟩)), some (.pointer (some ⟨b, 1, none⟩)), some (.map (some ab)), some (.int .i64 k), some (.agg #[.int .i64 a1, .int .i64 a2, .int .i64 a3]), some (.pointer (some ⟨b, 0, none⟩)), some (.pointer (some ⟨b, 0, none⟩)), some (.pointer (some ⟨b, 1, none⟩)), some (.map (some ab)), some (.int .i64 j), some (.agg #[.int .i64 d1, .int .i64 d2, .int .i64 d3]), none, none, none, none] : List (Option Value)).getD i none) L v) (by kernel_rfl) (by kernel_rfl) (by kernel_rfl) ?h0 ?step ?fin
    case h0 => exact ⟨(Pb.no (Pb.no o1.drew)), qcalm_drew K1, OVals.no⟩
    case step =>
      refine ⟨DrawStep.mk rfl ?_, DrawStep.mk rfl ?_, DrawStep.mk rfl ?_, DrawStep.mk rfl ?_, DrawStep.mk rfl ?_, DrawStep.mk rfl ?_, DrawStep.mk rfl ?_, DrawStep.mk rfl ?_, DrawStep.mk rfl ?_, DrawStep.mk rfl ?_, DrawStep.mk rfl ?_, DrawStep.mk rfl ?_, DrawStep.mk rfl ?_, DrawStep.mk rfl ?_, DrawStep.mk rfl ?_, DrawStep.mk rfl ?_, trivial⟩
      all_goals intro L v actZ wc hL hd hA hI K' hK
      all_goals obtain ⟨oD, kD, hv⟩ := hI
      all_goals simp [Region.binds] at hd
      all_goals have HV := Lib.hid hv
      all_goals clear hv
      · have c0_ := hA.base 0 (by rfl)
        simp only [List.getElem?_toArray, List.getElem?_cons_zero, List.getElem?_cons_succ, Option.getD_some] at c0_
        go_simp
        exact hK.out (.pointer (some ⟨b, 0, none⟩)) _ ⟨oD, kD, HV.out.put 0 (fun _ h => some_eq h)⟩
      · have h0_ : L 0 = true := by simp [hd]
        have c30_ : actZ.tmps[30]?.getD undef = .pointer (some ⟨b, 0, none⟩) := (hA.get 0 h0_).trans (HV.out 0 _ rfl h0_)
        go_simp
        exact hK.out (.pointer (some ⟨b, 0, none⟩)) _ ⟨oD, kD, HV.out.put 1 (fun _ h => some_eq h)⟩
      · have h1_ : L 1 = true := by simp [hd]
        have c31_ : actZ.tmps[31]?.getD undef = .pointer (some ⟨b, 0, none⟩) := (hA.get 1 h1_).trans (HV.out 1 _ rfl h1_)
        go_simp
        exact hK.out (.pointer (some ⟨b, 1, none⟩)) _ ⟨oD, kD, HV.out.put 2 (fun _ h => some_eq h)⟩
      · have h2_ : L 2 = true := by simp [hd]
        have c32_ : actZ.tmps[32]?.getD undef = .pointer (some ⟨b, 1, none⟩) := (hA.get 2 h2_).trans (HV.out 2 _ rfl h2_)
        have u_ := (oD.up 4).cell 1
        go_simp
        exact hK.out (.map (some ab)) _ ⟨oD, kD, HV.out.put 3 (fun _ h => some_eq h)⟩
      · have c1_ := hA.base 1 (by rfl)
        simp only [List.getElem?_toArray, List.getElem?_cons_zero, List.getElem?_cons_succ, Option.getD_some] at c1_
        go_simp
        exact hK.out (.int .i64 k) _ ⟨oD, kD, HV.out.put 4 (fun _ h => some_eq h)⟩
      · have h3_ : L 3 = true := by simp [hd]
        have c33_ : actZ.tmps[33]?.getD undef = .map (some ab) := (hA.get 3 h3_).trans (HV.out 3 _ rfl h3_)
        have h4_ : L 4 = true := by simp [hd]
        have c34_ : actZ.tmps[34]?.getD undef = .int .i64 k := (hA.get 4 h4_).trans (HV.out 4 _ rfl h4_)
        have u_ := HLK.out _ _ (oD.up 5)
        go_simp
        exact hK.out (.agg #[.int .i64 a1, .int .i64 a2, .int .i64 a3]) _ ⟨oD, kD, HV.out.put 5 (fun _ h => some_eq h)⟩
      · have c0_ := hA.base 0 (by rfl)
        simp only [List.getElem?_toArray, List.getElem?_cons_zero, List.getElem?_cons_succ, Option.getD_some] at c0_
        go_simp
        exact hK.out (.pointer (some ⟨b, 0, none⟩)) _ ⟨oD, kD, HV.out.put 6 (fun _ h => some_eq h)⟩
      · have h6_ : L 6 = true := by simp [hd]
        have c36_ : actZ.tmps[36]?.getD undef = .pointer (some ⟨b, 0, none⟩) := (hA.get 6 h6_).trans (HV.out 6 _ rfl h6_)
        go_simp
        exact hK.out (.pointer (some ⟨b, 0, none⟩)) _ ⟨oD, kD, HV.out.put 7 (fun _ h => some_eq h)⟩
      · have h7_ : L 7 = true := by simp [hd]
        have c37_ : actZ.tmps[37]?.getD undef = .pointer (some ⟨b, 0, none⟩) := (hA.get 7 h7_).trans (HV.out 7 _ rfl h7_)
        go_simp
        exact hK.out (.pointer (some ⟨b, 1, none⟩)) _ ⟨oD, kD, HV.out.put 8 (fun _ h => some_eq h)⟩
      · have h8_ : L 8 = true := by simp [hd]
        have c38_ : actZ.tmps[38]?.getD undef = .pointer (some ⟨b, 1, none⟩) := (hA.get 8 h8_).trans (HV.out 8 _ rfl h8_)
        have u_ := (oD.up 4).cell 1
        go_simp
        exact hK.out (.map (some ab)) _ ⟨oD, kD, HV.out.put 9 (fun _ h => some_eq h)⟩
      · have c2_ := hA.base 2 (by rfl)
        simp only [List.getElem?_toArray, List.getElem?_cons_zero, List.getElem?_cons_succ, Option.getD_some] at c2_
        go_simp
        exact hK.out (.int .i64 j) _ ⟨oD, kD, HV.out.put 10 (fun _ h => some_eq h)⟩
      · have h9_ : L 9 = true := by simp [hd]
        have c39_ : actZ.tmps[39]?.getD undef = .map (some ab) := (hA.get 9 h9_).trans (HV.out 9 _ rfl h9_)
        have h10_ : L 10 = true := by simp [hd]
        have c40_ : actZ.tmps[40]?.getD undef = .int .i64 j := (hA.get 10 h10_).trans (HV.out 10 _ rfl h10_)
        have u_ := HLJ.out _ _ (oD.up 5)
        go_simp
        exact hK.out (.agg #[.int .i64 d1, .int .i64 d2, .int .i64 d3]) _ ⟨oD, kD, HV.out.put 11 (fun _ h => some_eq h)⟩
      · rw [hL] at oD
        go_simp
        exact hK.out _ _ ⟨Pb.new oD, qcalm_alloc kD, HV.out.put 12 (fun _ h => by cases h)⟩
      · have oD := oD.swap
        rw [hL] at oD
        go_simp
        exact hK.out _ _ ⟨(Pb.new oD).swap, qcalm_alloc kD, HV.out.put 13 (fun _ h => by cases h)⟩
      · have h12_ : L 12 = true := by simp [hd]
        have c11_ := hA.get 12 h12_
        have h5_ : L 5 = true := by simp [hd]
        have c35_ : actZ.tmps[35]?.getD undef = .agg #[.int .i64 a1, .int .i64 a2, .int .i64 a3] := (hA.get 5 h5_).trans (HV.out 5 _ rfl h5_)
        rw [h12_, hL] at oD
        obtain ⟨gN, hgN, oN⟩ := Pb.val oD
        rw [hgN] at c11_
        have hgN := Lib.hid hgN
        have n0_ := oN.cell 0
        have n1_ := oN.cell 1
        have n2_ := oN.cell 2
        have nf_ := oN.frozen
        have nl_ := oN.celLt
        go_simp
        have oY := ((oN.setCell 0 (.int .i64 a1)).setCell 1 (.int .i64 a2)).setCell 2 (.int .i64 a3)
        have oQ := Pb.put (l := L 12) (v := v 12) (zs := [.int .i64 0, .int .i64 0, .int .i64 0]) oY h12_ hgN.out
        exact hK.out undef _ ⟨oQ, qcalm_set (qcalm_set (qcalm_set kD)), HV.out.put 14 (fun _ h => by cases h)⟩
      · have h13_ : L 13 = true := by simp [hd]
        have c12_ := hA.get 13 h13_
        have h11_ : L 11 = true := by simp [hd]
        have c41_ : actZ.tmps[41]?.getD undef = .agg #[.int .i64 d1, .int .i64 d2, .int .i64 d3] := (hA.get 11 h11_).trans (HV.out 11 _ rfl h11_)
        have oD := oD.swap
        rw [h13_, hL] at oD
        obtain ⟨gN, hgN, oN⟩ := Pb.val oD
        rw [hgN] at c12_
        have hgN := Lib.hid hgN
        have n0_ := oN.cell 0
        have n1_ := oN.cell 1
        have n2_ := oN.cell 2
        have nf_ := oN.frozen
        have nl_ := oN.celLt
        go_simp
        have oY := ((oN.setCell 0 (.int .i64 d1)).setCell 1 (.int .i64 d2)).setCell 2 (.int .i64 d3)
        have oQ := Pb.put (l := L 13) (v := v 13) (zs := [.int .i64 0, .int .i64 0, .int .i64 0]) oY h13_ hgN.out
        exact hK.out undef _ ⟨oQ.swap, qcalm_set (qcalm_set (qcalm_set kD)), HV.out.put 15 (fun _ h => by cases h)⟩
    case fin =>
      rintro L v wc hall ⟨oD, kD, hv⟩
      rw [hall 12 (by decide), hall 14 (by decide)] at oD
      obtain ⟨gN, hgN, oN⟩ := Pb.got oD
      have oN := oN.swap
      rw [hall 13 (by decide), hall 15 (by decide)] at oN
      obtain ⟨gM, hgM, oM⟩ := Pb.got oN
      clear hv hall oD oN
      simp only [putAll, Act.put, List.setIfInBounds_toArray, List.set_cons_zero, List.set_cons_succ]
      go_wp2
      go_meet
      exact ⟨gN, gM, hgN, hgM, oM.swap, kD⟩
  case rest =>
    obtain ⟨p, q, rfl, rfl, oE, kE⟩ := hcut
    clear o1 k1 K1 x1 xl oA c0 cl o
    dsimp only at oE
    have x0 := oE.cell 0
    have xf := oE.frozen
    have xl := oE.celLt
    have w1_ := IntWalk.i64_in (a1 + len) (by omega)
    have w2_ := IntWalk.i64_in (d1 - len) (by omega)
    have oE1 := oE.setCell 0 (.int .i64 (a1 + len))
    have y0 := (oE1.up 1).cell 0
    have yf := (oE1.up 1).frozen
    have yl := (oE1.up 1).celLt
    have oE2 := (oE1.up 1).setCell 0 (.int .i64 (d1 - len))
    have z0 := oE2.cell 0
    have z1 := oE2.cell 1
    have z2 := oE2.cell 2
    have t0 := (oE2.up 1).cell 0
    have t1 := (oE2.up 1).cell 1
    have t2 := (oE2.up 1).cell 2
    have b1 := (oE2.up 4).cell 1
    have bl := (oE2.up 4).celLt
    have K2 := qcalm_set (x := ⟨q, 0, none⟩) (v := .int .i64 (d1 - len)) (qcalm_set (x := ⟨p, 0, none⟩) (v := .int .i64 (a1 + len)) kE)
    go_upto_region 9 with fail
    obtain ⟨x, hx⟩ : ∃ x, a1 + len = x := ⟨_, rfl⟩
    obtain ⟨y, hy⟩ : ∃ y, d1 - len = y := ⟨_, rfl⟩
    rw [hx, hy] at oE2 K2 ⊢
    have oB : Own _ (mpI accI ab m :: accP_ q y d2 d3 :: accP_ p x a2 a3 :: IwC b rp ab :: SfqR rp reb S' :: choC w.heap.size 0 0 0 :: R) := oE2.drew.re [5, 0, 1, 4]
    have kB := qcalm_drew K2
    have hgd : mget (mput m k (x, a2, a3)) j = some (d1, d2, d3) := by rw [mget_mput, if_neg (fun h => HKJ.out h.symm)]; exact HJ.out
    have HX := Lib.hid hx
    have HY := Lib.hid hy
    generalize hR2 : (SfqR rp reb S' :: choC w.heap.size 0 0 0 :: R) = R2 at *
    clear x0 xf xl y0 yf yl z0 z1 z2 t0 t1 t2 b1 bl oE oE1 oE2 K2 kE hx hy w1_ w2_
    refine wp_region_draws (fun L v wc => SvInv b rp p q ab k j (a1, a2, a3) (d1, d2, d3) x y m R2 w L v wc) (by kernel_rfl) (by kernel_rfl) (by kernel_rfl) ?h0 ?step ?fin
    case h0 =>
      have F : ∀ {p : Prop}, false = true → p := fun h => (Bool.false_ne_true h).elim
      skip
      exact ⟨oB, kB, ⟨F, F, F, F, F, F, F, F, F, F, F, F⟩, F, F, F, F, F, F, F⟩
    case step =>
      refine ⟨DrawStep.mk rfl ?_, DrawStep.mk rfl ?_, DrawStep.mk rfl ?_, DrawStep.mk rfl ?_, DrawStep.mk rfl ?_, DrawStep.mk rfl ?_, DrawStep.mk rfl ?_, DrawStep.mk rfl ?_, DrawStep.mk rfl ?_, DrawStep.mk rfl ?_, DrawStep.mk rfl ?_, DrawStep.mk rfl ?_, DrawStep.mk rfl ?_, DrawStep.mk rfl ?_, DrawStep.mk rfl ?_, DrawStep.mk rfl ?_, DrawStep.mk rfl ?_, DrawStep.mk rfl ?_, trivial⟩
      all_goals intro L v ac wc hL hd hA hI K' hK
      all_goals obtain ⟨oD, kD, ⟨f0, f1, f2, f3, f4, f5, f6, f7, f8, f9, f10, f11⟩, e12, e15, l13, l14, l15, l16, l17⟩ := hI
      all_goals simp [Region.binds] at hd
      · have c0 := hA.base 0 (by rfl)
        simp only [List.getElem?_toArray, List.getElem?_cons_zero, Option.getD_some] at c0
        go_simp
        exact hK.out _ _ ⟨oD, kD, ⟨fun _ => rfl, f1, f2, f3, f4, f5, f6, f7, f8, f9, f10, f11⟩, e12, e15, l13, l14, l15, l16, l17⟩
      · have c0 := (hA.get 0 hd).trans (f0 hd)
        go_simp
        exact hK.out _ _ ⟨oD, kD, ⟨f0, fun _ => rfl, f2, f3, f4, f5, f6, f7, f8, f9, f10, f11⟩, e12, e15, l13, l14, l15, l16, l17⟩
      · have c0 := (hA.get 1 hd).trans (f1 hd)
        go_simp
        exact hK.out _ _ ⟨oD, kD, ⟨f0, f1, fun _ => rfl, f3, f4, f5, f6, f7, f8, f9, f10, f11⟩, e12, e15, l13, l14, l15, l16, l17⟩
      · have c0 := (hA.get 2 hd).trans (f2 hd)
        have cc := (oD.up 3).cell 1
        go_simp
        exact hK.out _ _ ⟨oD, kD, ⟨f0, f1, f2, fun _ => rfl, f4, f5, f6, f7, f8, f9, f10, f11⟩, e12, e15, l13, l14, l15, l16, l17⟩
      · have c0 := hA.base 1 (by rfl)
        simp only [List.getElem?_toArray, List.getElem?_cons_zero, List.getElem?_cons_succ, Option.getD_some] at c0
        go_simp
        exact hK.out _ _ ⟨oD, kD, ⟨f0, f1, f2, f3, fun _ => rfl, f5, f6, f7, f8, f9, f10, f11⟩, e12, e15, l13, l14, l15, l16, l17⟩
      · have c0 := hA.base 0 (by rfl)
        simp only [List.getElem?_toArray, List.getElem?_cons_zero, Option.getD_some] at c0
        go_simp
        exact hK.out _ _ ⟨oD, kD, ⟨f0, f1, f2, f3, f4, fun _ => rfl, f6, f7, f8, f9, f10, f11⟩, e12, e15, l13, l14, l15, l16, l17⟩
      · have c0 := (hA.get 5 hd).trans (f5 hd)
        go_simp
        exact hK.out _ _ ⟨oD, kD, ⟨f0, f1, f2, f3, f4, f5, fun _ => rfl, f7, f8, f9, f10, f11⟩, e12, e15, l13, l14, l15, l16, l17⟩
      · have c0 := (hA.get 6 hd).trans (f6 hd)
        go_simp
        exact hK.out _ _ ⟨oD, kD, ⟨f0, f1, f2, f3, f4, f5, f6, fun _ => rfl, f8, f9, f10, f11⟩, e12, e15, l13, l14, l15, l16, l17⟩
      · have c0 := (hA.get 7 hd).trans (f7 hd)
        have cc := (oD.up 3).cell 1
        go_simp
        exact hK.out _ _ ⟨oD, kD, ⟨f0, f1, f2, f3, f4, f5, f6, f7, fun _ => rfl, f9, f10, f11⟩, e12, e15, l13, l14, l15, l16, l17⟩
      · have c0 := hA.base 2 (by rfl)
        simp only [List.getElem?_toArray, List.getElem?_cons_zero, List.getElem?_cons_succ, Option.getD_some] at c0
        go_simp
        exact hK.out _ _ ⟨oD, kD, ⟨f0, f1, f2, f3, f4, f5, f6, f7, f8, fun _ => rfl, f10, f11⟩, e12, e15, l13, l14, l15, l16, l17⟩
      · have c0 := hA.base 11 (by rfl)
        simp only [List.getElem?_toArray, List.getElem?_cons_zero, List.getElem?_cons_succ, Option.getD_some] at c0
        have cc := (oD.up 2).cell 0
        have cc1 := (oD.up 2).cell 1
        have cc2 := (oD.up 2).cell 2
        go_simp
        exact hK.out _ _ ⟨oD, kD, ⟨f0, f1, f2, f3, f4, f5, f6, f7, f8, f9, fun _ => rfl, f11⟩, e12, e15, l13, l14, l15, l16, l17⟩
      · have c0 := hA.base 12 (by rfl)
        simp only [List.getElem?_toArray, List.getElem?_cons_zero, List.getElem?_cons_succ, Option.getD_some] at c0
        have cc := (oD.up 1).cell 0
        have cc1 := (oD.up 1).cell 1
        have cc2 := (oD.up 1).cell 2
        go_simp
        exact hK.out _ _ ⟨oD, kD, ⟨f0, f1, f2, f3, f4, f5, f6, f7, f8, f9, f10, fun _ => rfl⟩, e12, e15, l13, l14, l15, l16, l17⟩
      · have c0 := (hA.get 3 hd.1).trans (f3 hd.1)
        have c4 := (hA.get 4 hd.2.1).trans (f4 hd.2.1)
        have n13 : L 13 = false := by cases h : L 13 with | false => rfl | true => rw [l13 h] at hL; cases hL
        have n14 : L 14 = false := by cases h : L 14 with | false => rfl | true => rw [l14 h] at n13; cases n13
        have n15 : L 15 = false := by cases h : L 15 with | false => rfl | true => rw [l15 h] at n14; cases n14
        have n16 : L 16 = false := by cases h : L 16 with | false => rfl | true => rw [l16 h] at n15; cases n15
        have n17 : L 17 = false := by cases h : L 17 with | false => rfl | true => rw [l17 h] at n16; cases n16
        have eM : mvI k j (a1, a2, a3) (d1, d2, d3) x y m L = m := by unfold mvI; rw [n17, n14]; rfl
        rw [eM] at oD
        obtain ⟨w2, born, hr, hB, o2, k2⟩ := run_mapEntry_mpI Try.underlying96 Try.underlying3 oD k HK.out
        have o3 : Own w2 (mpI accI ab (mvI k j (a1, a2, a3) (d1, d2, d3) x y m L) :: accP_ q y d2 d3 :: accP_ p x a2 a3 :: IwC b rp ab :: R2) := by rw [eM]; exact o2
        go_simp
        exact hK.out _ _ ⟨o3, kD.trans k2, ⟨f0, f1, f2, f3, f4, f5, f6, f7, f8, f9, f10, f11⟩, fun _ => ⟨born, rfl, fun h => (Bool.false_ne_true (n13.symm.trans h)).elim, fun _ => hB⟩, fun h => (Bool.false_ne_true (n15.symm.trans h)).elim, fun h => rfl, l14, l15, l16, l17⟩
      · obtain ⟨born, h12, h13, hB⟩ := e12 hd
        have c0 := (hA.get 12 hd).trans h12
        go_simp
        exact hK.out _ _ ⟨oD, kD, ⟨f0, f1, f2, f3, f4, f5, f6, f7, f8, f9, f10, f11⟩, fun _ => ⟨born, h12, fun _ => rfl, hB⟩, e15, fun _ => hd, fun h => rfl, l15, l16, l17⟩
      · obtain ⟨born, h12, h13, hB⟩ := e12 hd.2.2.2.1
        have c0 := (hA.get 3 hd.1).trans (f3 hd.1)
        have c1' := (hA.get 13 hd.2.1).trans (h13 hd.2.1)
        have c2 := (hA.get 10 hd.2.2.1).trans (f10 hd.2.2.1)
        have hd13 := hd.2.1
        have n15 : L 15 = false := by cases h : L 15 with | false => rfl | true => rw [l15 h] at hL; cases hL
        have n16 : L 16 = false := by cases h : L 16 with | false => rfl | true => rw [l16 h] at n15; cases n15
        have n17 : L 17 = false := by cases h : L 17 with | false => rfl | true => rw [l17 h] at n16; cases n16
        have eM : mvI k j (a1, a2, a3) (d1, d2, d3) x y m L = m := by unfold mvI; rw [n17, hL]; rfl
        rw [eM] at oD
        obtain ⟨w2, hr, o2, k2⟩ := run_entryStore_mpI (P := Try.prog) (t := 96) oD k (x, a2, a3) (hB hL)
        have o3 : Own w2 (mpI accI ab (mvI k j (a1, a2, a3) (d1, d2, d3) x y m (dIns L 14)) :: accP_ q y d2 d3 :: accP_ p x a2 a3 :: IwC b rp ab :: R2) := by
          have : mvI k j (a1, a2, a3) (d1, d2, d3) x y m (dIns L 14) = mput m k (x, a2, a3) := by unfold mvI; rw [show dIns L 14 17 = L 17 from rfl, n17]; rfl
          rw [this]; exact o2
        have hr' : (Instr.entryStore 96 (.map (some ab)) (.int .i64 (born : Int)) (.agg #[.int .i64 x, .int .i64 a2, .int .i64 a3])).run Try.prog wc = .ok () w2 := hr
        go_simp
        exact hK.out undef _ ⟨o3, kD.trans k2, ⟨f0, f1, f2, f3, f4, f5, f6, f7, f8, f9, f10, f11⟩, fun h => ⟨born, h12, h13, fun h => (Bool.false_ne_true h.symm).elim⟩, fun h => (Bool.false_ne_true (n15.symm.trans h)).elim, l13, fun _ => hd13, fun h => rfl, l16, l17⟩
      · have c0 := (hA.get 8 hd.1).trans (f8 hd.1)
        have c4 := (hA.get 9 hd.2.1).trans (f9 hd.2.1)
        have h14 := hd.2.2.1
        have n16 : L 16 = false := by cases h : L 16 with | false => rfl | true => rw [l16 h] at hL; cases hL
        have n17 : L 17 = false := by cases h : L 17 with | false => rfl | true => rw [l17 h] at n16; cases n16
        have eM : mvI k j (a1, a2, a3) (d1, d2, d3) x y m L = mput m k (x, a2, a3) := by unfold mvI; rw [n17, h14]; rfl
        rw [eM] at oD
        obtain ⟨w2, born, hr, hB, o2, k2⟩ := run_mapEntry_mpI Try.underlying96 Try.underlying3 oD j hgd
        have o3 : Own w2 (mpI accI ab (mvI k j (a1, a2, a3) (d1, d2, d3) x y m L) :: accP_ q y d2 d3 :: accP_ p x a2 a3 :: IwC b rp ab :: R2) := by rw [eM]; exact o2
        have e12' : ∃ born : Nat, v 12 = .tuple #[accI (a1, a2, a3), .int .i64 (born : Int)] ∧ (L 13 = true → v 13 = .int .i64 (born : Int)) ∧ (L 14 = false → BornAt m w2 ab k born) := by
          obtain ⟨b0, h1, h2, _⟩ := e12 (l13 (l14 h14))
          exact ⟨b0, h1, h2, fun h => (by rw [h14] at h; cases h)⟩
        go_simp
        exact hK.out _ _ ⟨o3, kD.trans k2, ⟨f0, f1, f2, f3, f4, f5, f6, f7, f8, f9, f10, f11⟩, fun _ => e12', fun _ => ⟨born, rfl, fun h => (Bool.false_ne_true (n16.symm.trans h)).elim, fun _ => hB⟩, l13, l14, fun _ => h14, fun h => rfl, l17⟩
      · obtain ⟨born, h12, h13, hB⟩ := e15 hd
        have c0 := (hA.get 15 hd).trans h12
        go_simp
        exact hK.out _ _ ⟨oD, kD, ⟨f0, f1, f2, f3, f4, f5, f6, f7, f8, f9, f10, f11⟩, e12, fun _ => ⟨born, h12, fun _ => rfl, hB⟩, l13, l14, l15, fun _ => hd, fun h => rfl⟩
      · obtain ⟨born, h12, h13, hB⟩ := e15 hd.2.2.2.1
        have c0 := (hA.get 8 hd.1).trans (f8 hd.1)
        have c1' := (hA.get 16 hd.2.1).trans (h13 hd.2.1)
        have c2 := (hA.get 11 hd.2.2.1).trans (f11 hd.2.2.1)
        have hd16 := hd.2.1
        have h14 := l15 (l16 hd16)
        have eM : mvI k j (a1, a2, a3) (d1, d2, d3) x y m L = mput m k (x, a2, a3) := by unfold mvI; rw [hL, h14]; rfl
        rw [eM] at oD
        obtain ⟨w2, hr, o2, k2⟩ := run_entryStore_mpI (P := Try.prog) (t := 96) oD j (y, d2, d3) (hB hL)
        have o3 : Own w2 (mpI accI ab (mvI k j (a1, a2, a3) (d1, d2, d3) x y m (dIns L 17)) :: accP_ q y d2 d3 :: accP_ p x a2 a3 :: IwC b rp ab :: R2) := o2
        have hr' : (Instr.entryStore 96 (.map (some ab)) (.int .i64 (born : Int)) (.agg #[.int .i64 y, .int .i64 d2, .int .i64 d3])).run Try.prog wc = .ok () w2 := hr
        have e12' : ∃ born : Nat, v 12 = .tuple #[accI (a1, a2, a3), .int .i64 (born : Int)] ∧ (L 13 = true → v 13 = .int .i64 (born : Int)) ∧ (L 14 = false → BornAt m w2 ab k born) := by
          obtain ⟨b0, h1, h2, _⟩ := e12 (l13 (l14 h14))
          exact ⟨b0, h1, h2, fun h => (by rw [h14] at h; cases h)⟩
        go_simp
        exact hK.out undef _ ⟨o3, kD.trans k2, ⟨f0, f1, f2, f3, f4, f5, f6, f7, f8, f9, f10, f11⟩, fun _ => e12', fun h => ⟨born, h12, h13, fun h => (Bool.false_ne_true h.symm).elim⟩, l13, l14, l15, l16, fun _ => hd16⟩
    case fin =>
      rintro L v wc hall ⟨oD, kD, _⟩
      have eM : mvI k j (a1, a2, a3) (d1, d2, d3) x y m L = mput (mput m k (x, a2, a3)) j (y, d2, d3) := by unfold mvI; rw [hall 17 (by decide)]; rfl
      rw [eM, ← hR2] at oD
      clear hall oB kB hR2
      have oF := oD.re [5, 3, 4, 0, 1, 2]
      have z0 := Own.cell (T := 33) (vs := [.int .i64 0, .int .i64 0, .int .i64 0]) oF 0
      have z1 := Own.cell (T := 33) (vs := [.int .i64 0, .int .i64 0, .int .i64 0]) oF 1
      have z2 := Own.cell (T := 33) (vs := [.int .i64 0, .int .i64 0, .int .i64 0]) oF 2
      have zf := Own.frozen (T := 33) (vs := [.int .i64 0, .int .i64 0, .int .i64 0]) oF
      have zl := Own.celLt (T := 33) (vs := [.int .i64 0, .int .i64 0, .int .i64 0]) oF
      have o5 := choSet (x := k) (y := j) (z := 5) oF
      simp only [putAll, Act.put, List.setIfInBounds_toArray, List.set_cons_zero, List.set_cons_succ]
      go_wp2
      refine bodyPost_ret (v := .tuple #[chV ⟨k, j, 5⟩, .int .i64 0]) ?_ rfl ?_
      · exact chRow8 (p := w.heap.size) rfl rfl rfl o5
      · refine ⟨rfl, ?_, qcalm_set (qcalm_set (qcalm_set kD))⟩
        rw [show accP (a1, a2, a3) len = (x, a2, a3) from by unfold accP; dsimp only; rw [HX.out], show accP (d1, d2, d3) (-len) = (y, d2, d3) from by unfold accP; dsimp only; rw [← HY.out, Int.sub_eq_add_neg]]
        exact (o5.drop).re [3, 4] 2
end
end Go.Proofs.Ytkmlkpfabkhleaa

/- Iwfq: whether heads fit; the lengths of the packets that can be sent; the first pair. -/
namespace Go.Proofs.Ytkmlkpfabkhleaa
open Go.RowKit
open SP
section
variable {W w w' : World} {R : List SP}

set_option maxHeartbeats 800000 in
set_option maxRecDepth 100000 in
theorem fitsI_spec (h : Head) (t : Tg) (o : Own w R) :
    Calls Try.prog 53 #[headV h, tagV t] w (Ret (.bool (fit1 h t)) R w) := by
  unfold headV tagV
  by_cases h1 : h.f = t.f
  · by_cases h2 : 1 ≤ h.len
    · by_cases h3 : h.len ≤ 4096
      · have e : fit1 h t = true := by simp [fit1, h1, h2, h3]
        rw [e]; clear e
        go_enter Try.func53, Try.ntmps53
        go_wp2
        go_ret
        exact ⟨rfl, ((o.alloc _).drop.alloc _).drop, ⟨rfl, rfl, rfl⟩⟩
      · have e : fit1 h t = false := by simp [fit1, h3]
        rw [e]; clear e
        go_enter Try.func53, Try.ntmps53
        go_wp2
        go_ret
        exact ⟨rfl, ((o.alloc _).drop.alloc _).drop, ⟨rfl, rfl, rfl⟩⟩
    · have e : fit1 h t = false := by simp [fit1, h2]
      rw [e]; clear e
      go_enter Try.func53, Try.ntmps53
      go_wp2
      go_ret
      exact ⟨rfl, ((o.alloc _).drop.alloc _).drop, ⟨rfl, rfl, rfl⟩⟩
  · have e : fit1 h t = false := by simp [fit1, h1]
    have hb : (h.f == t.f) = false := by simpa using h1
    rw [e]; clear e
    go_enter Try.func53, Try.ntmps53
    go_wp2
    go_ret
    exact ⟨rfl, ((o.alloc _).drop.alloc _).drop, ⟨rfl, rfl, rfl⟩⟩

set_option maxHeartbeats 3200000 in
set_option maxRecDepth 100000 in
theorem equalFuncI_spec {S1 S2 : SP} {a a' : Option Addr} {n c n' c' : Nat} {H : List Head} {L : List Tg} (h1 : HeadsAt S1 a H) (h2 : TagsAt S2 a' L) (hn : n = H.length) (hn' : n' = L.length) (hl : n ≤ 1000) (o : Own w (S1 :: S2 :: R)) :
    Calls Try.prog 52 #[.slice a n c, .slice a' n' c', .func (.func 53) #[] #[]] w (Ret (.bool (fitsL H L)) (S1 :: S2 :: R) w) := by
  obtain ⟨X, hX⟩ : ∃ X, fitsL H L = X := ⟨_, rfl⟩
  rw [hX]
  by_cases hne : n = n'
  · subst hne
    have hT : FitRel S1 S2 H L R w (.int .i64 0) w := ⟨0, rfl, by omega, rfl, o, Calm.refl w⟩
    have Hn := Lib.hid hn
    have Hn' := Lib.hid hn'
    have HX := Lib.hid hX
    clear hn hX hn'
    go_enter Try.func52, Try.ntmps52
    go_wp2
    go_loopw [17] (fun v wr => FitRel S1 S2 H L R w v wr) (fun v _ => n - (Lib.intOf v).toNat)
    case atStart => exact hT
    case round =>
      clear hT
      obtain ⟨i, rfl, hi, hid, oR, kR⟩ := hrel
      have HI := Lib.hid hid
      clear hid
      by_cases hlt : i < n
      · obtain ⟨h, hh⟩ : ∃ h, H[i]? = some h := ⟨_, List.getElem?_eq_getElem (by have := Hn.out; omega)⟩
        obtain ⟨t, ht⟩ : ∃ t, L[i]? = some t := ⟨_, List.getElem?_eq_getElem (by have := Hn'.out; omega)⟩
        obtain ⟨g, rfl, d0, d1, d2⟩ := h1 _ _ oR i _ hh
        obtain ⟨g', so, rfl, e0, e1, e2⟩ := h2 _ _ (oR.up 1) i _ ht
        have HST := Lib.hid (fitsL_step hh ht)
        have oA := (oR.alloc (.cells #[.int .i64 h.f, .int .i64 h.len, .bool h.good] 41)).drop
        obtain ⟨g2, so2, hq, f0, f1, f2⟩ := h2 _ _ (oA.up 1) i _ ht
        cases hq
        have oB := ((oR.alloc (.cells #[.int .i64 h.f, .int .i64 h.len, .bool h.good] 41)).drop.alloc (.cells #[.int .i64 t.f, .int .i64 t.w, .int .i64 t.s] 106)).drop
        have hc := fitsI_spec h t oB
        clear hh ht
        by_cases he : fit1 h t = true
        · rw [he] at hc
          have hv : fitsL H L = fitsL (H.drop (i + 1)) (L.drop (i + 1)) := by rw [HI.out, HST.out, he]; rfl
          have HV := Lib.hid hv
          clear he hv
          go_wp2_with fail
          refine hc.mono ?_
          rintro e1 w1 ⟨rfl, o1, k1⟩
          clear hc
          go_wp2
          go_roundw
          case rel => exact ⟨i + 1, by go_num, by have := Hn.out; omega, HV.out, o1, Calm.trans kR ⟨k1.os, k1.tape, k1.output⟩⟩
          case measure => simp [Lib.intOf]; omega
        · rw [Bool.not_eq_true] at he
          rw [he] at hc
          have hv : X = false := by rw [← HX.out, HI.out, HST.out, he]; rfl
          have HV := Lib.hid hv
          clear he hv
          go_wp2_with fail
          refine hc.mono ?_
          rintro e1 w1 ⟨rfl, o1, k1⟩
          clear hc
          go_wp2
          go_ret
          exact ⟨by rw [HV.out]; rfl, o1, Calm.trans kR ⟨k1.os, k1.tape, k1.output⟩⟩
      · have hn := Hn.out
        have hn' := Hn'.out
        have hv : X = true := by
          rw [← HX.out, HI.out, List.drop_eq_nil_of_le (by omega), List.drop_eq_nil_of_le (by omega)]; rfl
        have HV := Lib.hid hv
        clear hv hn hn'
        go_wp2
        go_ret
        exact ⟨by rw [HV.out]; rfl, oR, kR⟩
  · have hv : X = false := by rw [← hX]; exact fitsL_len (by omega)
    have HV := Lib.hid hv
    clear hv hX hn hn'
    go_enter Try.func52, Try.ntmps52
    go_wp2
    go_ret
    exact ⟨by rw [HV.out]; rfl, o, Calm.refl w⟩

/-- The lengths of the packets that can be sent. -/
def lenM (H : List Head) : List (Int × Int) := H.foldl (fun m h => if h.good then mput m h.f h.len else m) []
theorem lenM_snoc (H : List Head) (h : Head) : lenM (H ++ [h]) = if h.good then mput (lenM H) h.f h.len else lenM H := by
  unfold lenM
  rw [List.foldl_append]; rfl
theorem lenM_step {H : List Head} {i : Nat} {h : Head} (e : H[i]? = some h) : lenM (H.take (i + 1)) = if h.good then mput (lenM (H.take i)) h.f h.len else lenM (H.take i) := by
  rw [List.take_add_one, e]; exact lenM_snoc _ _
theorem headOf_snoc (H : List Head) (h : Head) (f : Int) (hn : ∀ x ∈ H, x.f ≠ h.f) : headOf (H ++ [h]) f = if f = h.f then h else headOf H f := by
  unfold headOf
  rw [List.find?_append]
  by_cases e : f = h.f
  · subst e
    have : H.find? (fun x => x.f == h.f) = none := List.find?_eq_none.2 fun x hx => by simpa using hn x hx
    rw [this, if_pos rfl, Option.none_or, List.find?_cons_of_pos (by simp)]
    rfl
  · have : [h].find? (fun x => x.f == f) = none := List.find?_eq_none.2 fun x hx => by
      rw [List.mem_singleton] at hx
      subst hx
      simpa using fun e2 => e e2.symm
    rw [this, if_neg e, Option.or_none]
theorem lenM_take {H : List Head} (f : Int) (hp : H.Pairwise (fun a b => a.f < b.f)) : ∀ i : Nat, i ≤ H.length → mget (lenM (H.take i)) f = if (headOf (H.take i) f).good = true then some (headOf (H.take i) f).len else none
  | 0, _ => rfl
  | i + 1, hi => by
    obtain ⟨h, hh⟩ : ∃ h, H[i]? = some h := ⟨_, List.getElem?_eq_getElem (by omega)⟩
    obtain ⟨hi1, hi2⟩ := List.getElem?_eq_some_iff.1 hh
    have ih := lenM_take f hp i (by omega)
    have hn : ∀ x ∈ H.take i, x.f ≠ h.f := fun x hx => by
      obtain ⟨q, hq⟩ := List.getElem?_of_mem hx
      obtain ⟨q1, q2⟩ := List.getElem?_eq_some_iff.1 hq
      rw [List.length_take] at q1
      have := List.pairwise_iff_getElem.1 hp q i (by omega) hi1 (by omega)
      rw [List.getElem_take] at q2
      rw [q2, hi2] at this
      omega
    have hst : H.take (i + 1) = H.take i ++ [h] := by rw [List.take_add_one, hh]; rfl
    rw [hst, lenM_snoc, headOf_snoc _ h f hn]
    cases hg : h.good with
    | true =>
      rw [if_pos rfl, mget_mput]
      by_cases e : f = h.f
      · rw [if_pos e, if_pos e, hg, if_pos rfl]
      · rw [if_neg e, if_neg e, ih]
    | false =>
      rw [if_neg (by simp)]
      by_cases e : f = h.f
      · rw [if_pos e, hg, if_neg (by simp), ih]
        have : headOf (H.take i) f = ⟨0, 0, false⟩ := by
          unfold headOf
          rw [List.find?_eq_none.2 fun x hx => by simpa using fun e2 => hn x hx (e2.trans e)]
          rfl
        rw [this]; rfl
      · rw [if_neg e, ih]
theorem lenM_get {H : List Head} (f : Int) (hp : H.Pairwise (fun a b => a.f < b.f)) : mget (lenM H) f = if (headOf H f).good = true then some (headOf H f).len else none := by
  have := lenM_take f hp H.length (Nat.le_refl _)
  rwa [List.take_length] at this
theorem pairI_at {ok : Tg → Tg → Bool} {js : List Tg} : ∀ {ks : List Tg} {i y : Nat} {k j : Tg}, ks[i]? = some k → (∀ k' ∈ ks.take i, ∀ j' ∈ js, ok k' j' = false) → js[y]? = some j → (∀ j' ∈ js.take y, ok k j' = false) → ok k j = true → pairI ok js ks = some (k, j)
  | [], i, y, k, j, h, _, _, _, _ => by simp at h
  | x :: ks, 0, y, k, j, h, _, hj, hy, ho => by
    simp at h
    subst h
    have hf : js.find? (ok x) = some j := by
      rw [List.find?_eq_some_iff_append]
      obtain ⟨y1, y2⟩ := List.getElem?_eq_some_iff.1 hj
      refine ⟨ho, js.take y, js.drop (y + 1), ?_, fun a ha => by rw [hy a ha]; rfl⟩
      rw [← y2, ← List.drop_eq_getElem_cons y1, List.take_append_drop]
    unfold pairI
    rw [hf]
  | x :: ks, i + 1, y, k, j, h, hk, hj, hy, ho => by
    have hf : js.find? (ok x) = none := List.find?_eq_none.2 fun a ha => by rw [hk x (by simp) a ha]; simp
    unfold pairI
    rw [hf]
    exact pairI_at (ks := ks) (by simpa using h) (fun k' hk' => hk k' (by simp [hk'])) hj hy ho
theorem pairI_end {ok : Tg → Tg → Bool} {js : List Tg} : ∀ {ks : List Tg}, (∀ k' ∈ ks, ∀ j' ∈ js, ok k' j' = false) → pairI ok js ks = none
  | [], _ => rfl
  | x :: ks, hk => by
    have hf : js.find? (ok x) = none := List.find?_eq_none.2 fun a ha => by rw [hk x (by simp) a ha]; simp
    unfold pairI
    rw [hf]
    exact pairI_end fun k' hk' => hk k' (by simp [hk'])
theorem take_step {α : Type} {l : List α} {i : Nat} {x : α} (h : l[i]? = some x) {p : α → Prop} (h1 : ∀ y ∈ l.take i, p y) (h2 : p x) : ∀ y ∈ l.take (i + 1), p y := fun y hy => by
  rw [List.take_add_one, h] at hy
  rcases List.mem_append.1 hy with hy | hy
  · exact h1 y hy
  · simp at hy; subst hy; exact h2
end
end Go.Proofs.Ytkmlkpfabkhleaa

/- Iwfq: a slot. -/
namespace Go.Proofs.Ytkmlkpfabkhleaa
open Go.RowKit
open SP
section
variable {W w w' : World} {R : List SP} {b rp ab : Nat} {reb : Int} {s : Iw} {Sp : SP}

structure IwOk (reb : Int) (s : Iw) : Prop where
  ok : LOk s.R.L
  aw : 0 ≤ s.R.aw ∧ s.R.aw ≤ 1152921504606846976
  acc : AccOk s.m
  ks : ∀ t ∈ s.R.L, ∃ a, mget s.m t.f = some a
  ch : ∀ t ∈ s.R.L, ∀ len : Int, 1 ≤ len → len ≤ 4096 → (chargeR reb s.R t.f len).1 = 0
theorem Try.zeroIntI (w : World) : (zeroValue 3).run Try.prog w = .ok (.int .i64 0) w := by kernel_rfl
theorem lookLen {lb : Nat} {M : List (Int × Int)} (o : Own w (mpI (Value.int .i64) lb M :: R)) (k : Int) :
    (Instr.lookup 108 (.map (some lb)) (.int .i64 k) true).run Try.prog w = .ok (match mget M k with | some l => .tuple #[.int .i64 l, .bool true] | none => .tuple #[.int .i64 0, .bool false]) w := by
  rw [run_lookup_mpI Try.underlying108 Try.underlying3 Try.zeroIntI o k true]
  cases mget M k <;> rfl
theorem st2 {A B : SP} {l : List SP} (o : Own w (A :: B :: l)) : Own w (st [A, B] :: l) := (Own.st (m := [A, B])).2 o
theorem un2 {A B : SP} {l : List SP} (o : Own w (st [A, B] :: l)) : Own w (A :: B :: l) := (Own.st (m := [A, B])).1 o
theorem serve_ownJ {m : List (Int × Acc)} {S S' : St} {k j len : Int} (h : k = j) (haw : 0 ≤ S.aw ∧ S.aw ≤ 1152921504606846976) (hc : chargeR reb S k len = (0, S')) (o : Own w (IwC b rp ab :: SfqR rp reb S :: mpI accI ab m :: R)) :
    Calls Try.prog 58 #[.pointer (some ⟨b, 0, none⟩), .int .i64 k, .int .i64 j, .int .i64 len] w (Ret (.tuple #[chV ⟨k, k, 1⟩, .int .i64 0]) (IwC b rp ab :: SfqR rp reb S' :: mpI accI ab m :: R) w) := by
  subst h; exact serve_own haw hc o
def LmRel (n : Nat) (lb : Nat) (H : List Head) (P : List SP) (w : World) (v : Value) (wr : World) : Prop :=
  ∃ i : Nat, v = .int .i64 (i : Int) ∧ i ≤ n ∧ Own wr (mpI (Value.int .i64) lb (lenM (H.take i)) :: Sp :: P) ∧ Calm w wr
def OuRel (n : Nat) (ok : Tg → Tg → Bool) (KS JS : List Tg) (P : List SP) (w : World) (v : Value) (wr : World) : Prop :=
  ∃ i : Nat, v = .int .i64 (i : Int) ∧ i ≤ n ∧ (∀ k' ∈ KS.take i, ∀ j' ∈ JS, ok k' j' = false) ∧ Own wr P ∧ Calm w wr
def InRel (n : Nat) (ok : Tg → Bool) (JS : List Tg) (P : List SP) (w : World) (v : Value) (wr : World) : Prop :=
  ∃ i : Nat, v = .int .i64 (i : Int) ∧ i ≤ n ∧ (∀ j' ∈ JS.take i, ok j' = false) ∧ Own wr P ∧ Calm w wr
theorem flI_get {L : List Tg} {i : Nat} {t : Tg} (h : L[i]? = some t) : (flI L)[i]? = some (.int .i64 t.f) := by
  unfold flI
  rw [List.getElem?_map, List.getElem?_map, h]; rfl

set_option maxHeartbeats 12800000 in
set_option maxRecDepth 100000 in
theorem iwStep_spec {a : Option Addr} {n c : Nat} {H : List Head} (hs : IwOk reb s) (h1 : HeadsAt Sp a H) (hn : n = H.length) (hf : fitsH s.R.L H = true) (hne : H ≠ []) (o : Own w (IwR b reb s :: Sp :: R)) :
    Calls Try.prog 20 #[.pointer (some ⟨b, 0, none⟩), .slice a n c] w
      (Ret (.tuple #[chV (stepI reb s H).1, .int .i64 (stepI reb s H).2.1]) (IwR b reb (stepI reb s H).2.2 :: Sp :: R) w) := by
  obtain ⟨rp, ab, o1⟩ := IwR.iff.1 o
  obtain ⟨f1, f2⟩ := fits_len hf
  have hLl : s.R.L.length = n := by have := congrArg List.length f1; simp only [List.length_map] at this; omega
  have hL32 : s.R.L.length ≤ 32 := hs.ok.len
  have hLne : s.R.L ≠ [] := fun e => by rw [e] at hLl; simp at hLl; exact hne (List.eq_nil_of_length_eq_zero (by omega))
  have hn1 : 1 ≤ n := by have : s.R.L.length ≠ 0 := fun e => hLne (List.eq_nil_of_length_eq_zero e); omega
  have hn32 : n ≤ 32 := by omega
  have oA : Own (w.alloc (.cells #[.int .i64 0, .int .i64 0, .int .i64 0] 33)) (choC w.heap.size 0 0 0 :: IwC b rp ab :: SfqR rp reb s.R :: mpI accI ab s.m :: Sp :: R) := o1.alloc _
  have c0 := (oA.up 1).cell 0
  have cl := (oA.up 1).celLt
  have hst := stepI_eq (reb := reb) hf hne
  obtain ⟨RS, hRS⟩ : ∃ RS, stepI reb s H = RS := ⟨_, rfl⟩
  rw [hRS] at hst ⊢
  clear hRS
  have HST := Lib.hid hst
  have HN := Lib.hid hn
  have HNE := Lib.hid hne
  have HLL := Lib.hid hLl
  clear hst hn hne hLl
  go_enter Try.func20, Try.ntmps20
  go_wp2_with fail
  refine (sfqTags_spec (oA.re [2])).mono ?_
  rintro e1 w1 ⟨a', c', rfl, o2, k1⟩
  have he := equalFuncI_spec (c := c) (n' := s.R.L.length) (c' := c') h1 (tagsAt_slc a' s.R.L.length c' s.R.L rfl) HN.out rfl (by omega) (o2.re [5, 0])
  rw [fitsL_eq, hf] at he
  have HF := Lib.hid hf
  clear hf
  go_wp2_with fail
  refine he.mono ?_
  rintro e2 w2 ⟨rfl, o3, k2⟩
  clear he c0 cl
  have K2 : Calm w w2 := (qcalm_alloc (Calm.refl w)).trans (k1.trans k2)
  have hmm := @run_makeMap Try.prog
  have oM := o3.mpI_made (f := Value.int .i64) (α := Int)
  have hn0 : ((n : Int) == 0) = false := by simpa using (by omega : ¬ (n : Int) = 0)
  have hT : LmRel (Sp := Sp) n w2.heap.size H (slc 106 3 a' s.R.L.length c' (flat tagC s.R.L) :: SfqR rp reb s.R :: choC w.heap.size 0 0 0 :: IwC b rp ab :: mpI accI ab s.m :: R) w (.int .i64 0) (w2.alloc (.map #[] 0)) := ⟨0, rfl, Nat.zero_le _, oM, qcalm_alloc K2⟩
  clear oM o3 o2 k1 k2 K2 oA o o1
  go_wp2
  go_loopw [38] (fun v wr => LmRel (Sp := Sp) n w2.heap.size H (slc 106 3 a' s.R.L.length c' (flat tagC s.R.L) :: SfqR rp reb s.R :: choC w.heap.size 0 0 0 :: IwC b rp ab :: mpI accI ab s.m :: R) w v wr) (fun v _ => n - (Lib.intOf v).toNat)
  case atStart => exact hT
  case round =>
    clear hT hmm
    obtain ⟨i, rfl, hi, oR, kR⟩ := hrel
    by_cases hlt : i < n
    · obtain ⟨h, hh⟩ : ∃ h, H[i]? = some h := ⟨_, List.getElem?_eq_getElem (by have := HN.out; omega)⟩
      obtain ⟨g, rfl, d0, d1, d2⟩ := h1 _ _ (oR.up 1) i _ hh
      have HSN := Lib.hid (lenM_step hh)
      have oH := (oR.alloc (.cells #[.int .i64 h.f, .int .i64 h.len, .bool h.good] 41)).drop
      obtain ⟨w5, hr5, o5, k5⟩ := run_mapUpdate_mpI (P := Try.prog) (f := Value.int .i64) Try.underlying108 Try.underlying3 oH h.f h.len
      clear hh
      obtain ⟨gd, hgd⟩ : ∃ gd, h.good = gd := ⟨_, rfl⟩
      rw [hgd] at d2 oH hr5 k5
      have HG := Lib.hid hgd
      clear hgd
      cases gd with
      | true =>
        go_wp2
        go_roundw
        case rel => exact ⟨i + 1, by go_num, by omega, by rw [HSN.out, HG.out, if_pos rfl]; exact o5, kR.trans ⟨k5.os, k5.tape, k5.output⟩⟩
        case measure => simp [Lib.intOf]; omega
      | false =>
        clear hr5 o5 k5
        go_wp2
        go_roundw
        case rel => exact ⟨i + 1, by go_num, by omega, by rw [HSN.out, HG.out, if_neg (by simp)]; exact oH, kR.trans ⟨rfl, rfl, rfl⟩⟩
        case measure => simp [Lib.intOf]; omega
    · have hin : n = i := by omega
      subst hin
      rw [List.take_of_length_le (by have := HN.out; omega)] at oR
      clear hi hlt
      have hlg := fun f => lenM_get (H := H) f (by rw [← List.pairwise_map (f := Head.f) (R := fun a b => a < b), f1, List.pairwise_map]; exact hs.ok.asc)
      obtain ⟨lb, hlb⟩ : ∃ lb, w2.heap.size = lb := ⟨_, rfl⟩
      rw [hlb] at oR ⊢
      clear hlb
      have oS : Own wr (slc 106 3 a' s.R.L.length c' (flat tagC s.R.L) :: st [IwC b rp ab, mpI accI ab s.m] :: mpI (Value.int .i64) lb (lenM H) :: Sp :: SfqR rp reb s.R :: choC w.heap.size 0 0 0 :: R) := (st2 (oR.re [5, 6])).re [3]
      have hTg : ∀ t ∈ s.R.L, TgR t := fun t ht => by have := hs.ok.rng t ht; exact ⟨this.2.2.1, this.2.2.2.1, this.2.2.2.2.1, this.2.2.2.2.2⟩
      have hsv := sorted_spec (key := svcI s.m) (fn := 55) (bs := #[.pointer (some ⟨b, 0, none⟩)]) (c := c') (Q := st [IwC b rp ab, mpI accI ab s.m]) hs.ok.asc hLne rfl (by omega)
        (fun kb w R' o x hx y hy => cmpSvc_spec hs.acc.lag (hTg x hx) (hTg y hy) ((un2 (o.re [1])).re [2])) oS
      clear oS
      go_wp2_with fail
      refine hsv.mono ?_
      rintro e4 w4 ⟨a4, c4, rfl, o4, k4⟩
      have hss := sorted_spec (key := (·.s)) (fn := 56) (bs := #[]) (c := c') (Q := st [IwC b rp ab, mpI accI ab s.m]) hs.ok.asc hLne rfl (by omega)
        (fun kb w R' o x hx y hy => cmpSta_spec o) (o4.re [1, 2])
      clear hsv o4
      go_wp2_with fail
      refine hss.mono ?_
      rintro e6 w6 ⟨a6, c6, rfl, o6, k6⟩
      have oP : Own w6 (IwC b rp ab :: mpI accI ab s.m :: slc 3 1 a6 s.R.L.length c6 (flI (srtK (·.s) s.R.L)) :: slc 3 1 a4 s.R.L.length c4 (flI (srtK (svcI s.m) s.R.L)) :: mpI (Value.int .i64) lb (lenM H) :: slc 106 3 a' s.R.L.length c' (flat tagC s.R.L) :: Sp :: SfqR rp reb s.R :: choC w.heap.size 0 0 0 :: R) := (un2 (o6.re [2])).re [0, 1, 2, 4, 5, 3]
      have K6 := kR.trans (k4.trans k6)
      clear hss o6 k4 k6 kR oR
      have hst := HST.out
      obtain ⟨KS, hKS⟩ : ∃ KS, srtK (·.s) s.R.L = KS := ⟨_, rfl⟩
      obtain ⟨JS, hJS⟩ : ∃ JS, srtK (svcI s.m) s.R.L = JS := ⟨_, rfl⟩
      have hKl : KS.length = s.R.L.length := by rw [← hKS, srtK_len]
      have hJl : JS.length = s.R.L.length := by rw [← hJS, srtK_len]
      have hKm : ∀ t ∈ KS, t ∈ s.R.L := fun t ht => by rw [← hKS] at ht; exact srtK_mem.1 ht
      have hJm : ∀ t ∈ JS, t ∈ s.R.L := fun t ht => by rw [← hJS] at ht; exact srtK_mem.1 ht
      rw [hKS, hJS] at oP hst
      have HKL := Lib.hid hKl
      have HJL := Lib.hid hJl
      clear HST hKS hJS hKl hJl
      have HST := Lib.hid hst
      have HLG := Lib.hid hlg
      clear hst hlg
      have hT : OuRel s.R.L.length (okI s.m H) KS JS (IwC b rp ab :: mpI accI ab s.m :: slc 3 1 a6 s.R.L.length c6 (flI KS) :: slc 3 1 a4 s.R.L.length c4 (flI JS) :: mpI (Value.int .i64) lb (lenM H) :: slc 106 3 a' s.R.L.length c' (flat tagC s.R.L) :: Sp :: SfqR rp reb s.R :: choC w.heap.size 0 0 0 :: R) w (.int .i64 0) w6 := ⟨0, rfl, Nat.zero_le _, by simp, oP, K6⟩
      clear oP K6
      go_wp2
      go_loopw [57] (fun v wr => OuRel s.R.L.length (okI s.m H) KS JS (IwC b rp ab :: mpI accI ab s.m :: slc 3 1 a6 s.R.L.length c6 (flI KS) :: slc 3 1 a4 s.R.L.length c4 (flI JS) :: mpI (Value.int .i64) lb (lenM H) :: slc 106 3 a' s.R.L.length c' (flat tagC s.R.L) :: Sp :: SfqR rp reb s.R :: choC w.heap.size 0 0 0 :: R) w v wr) (fun v _ => s.R.L.length - (Lib.intOf v).toNat)
      case atStart => exact hT
      case round =>
        clear hT
        obtain ⟨i, rfl, hi, hno, oR, kR⟩ := hrel
        by_cases hlt : i < s.R.L.length
        · obtain ⟨k, hk⟩ : ∃ k, KS[i]? = some k := ⟨_, List.getElem?_eq_getElem (by have := HKL.out; omega)⟩
          obtain ⟨gk, rfl, hck, _, hkl⟩ := (oR.up 2).slc_cell (by omega)
          have dk := hck i _ (flI_get hk)
          have HK := Lib.hid hk
          have HNO := Lib.hid hno
          clear hck hk hno
          have hT : InRel s.R.L.length (okI s.m H k) JS (IwC b rp ab :: mpI accI ab s.m :: slc 3 1 (some ⟨gk, 0, none⟩) s.R.L.length c6 (flI KS) :: slc 3 1 a4 s.R.L.length c4 (flI JS) :: mpI (Value.int .i64) lb (lenM H) :: slc 106 3 a' s.R.L.length c' (flat tagC s.R.L) :: Sp :: SfqR rp reb s.R :: choC w.heap.size 0 0 0 :: R) w (.int .i64 0) wr := ⟨0, rfl, Nat.zero_le _, by simp, oR, kR⟩
          clear oR kR
          go_wp2
          go_loopw [63] (fun v wr => InRel s.R.L.length (okI s.m H k) JS (IwC b rp ab :: mpI accI ab s.m :: slc 3 1 (some ⟨gk, 0, none⟩) s.R.L.length c6 (flI KS) :: slc 3 1 a4 s.R.L.length c4 (flI JS) :: mpI (Value.int .i64) lb (lenM H) :: slc 106 3 a' s.R.L.length c' (flat tagC s.R.L) :: Sp :: SfqR rp reb s.R :: choC w.heap.size 0 0 0 :: R) w v wr) (fun v _ => s.R.L.length - (Lib.intOf v).toNat)
          case atStart => exact hT
          case round =>
            clear hT dk hkl
            obtain ⟨y, rfl, hy, hny, oR, kR⟩ := hrel
            by_cases hlty : y < s.R.L.length
            · obtain ⟨j, hj⟩ : ∃ j, JS[y]? = some j := ⟨_, List.getElem?_eq_getElem (by have := HJL.out; omega)⟩
              obtain ⟨gj, rfl, hcj, _, hjl⟩ := (oR.up 3).slc_cell (by omega)
              have dj := hcj y _ (flI_get hj)
              have HJ := Lib.hid hj
              have HNY := Lib.hid hny
              clear hcj hj hny
              have hlk := lookLen (oR.up 4) j.f
              rw [HLG.out] at hlk
              obtain ⟨x, hx⟩ : ∃ x, headOf H j.f = x := ⟨_, rfl⟩
              rw [hx] at hlk
              have HX := Lib.hid hx
              clear hx
              cases hg : x.good with
              | false =>
                rw [hg, if_neg (by simp)] at hlk
                have hok : okI s.m H k j = false := by unfold okI; rw [HX.out, hg]; rfl
                have HOK := Lib.hid hok
                clear hok hg
                go_wp2
                go_roundw
                case rel => exact ⟨y + 1, by go_num, by omega, take_step HJ.out HNY.out HOK.out, oR, kR⟩
                case measure => simp [Lib.intOf]; omega
              | true =>
                rw [hg, if_pos rfl] at hlk
                obtain ⟨x', hx', _, hxe⟩ := headOf_good (H := H) (j := j.f) (by rw [HX.out]; exact hg)
                rw [HX.out] at hxe
                subst hxe
                have hxl := f2 x hx'
                have hp := permitted_spec (k := k.f) (j := j.f) (len := x.len) hs.acc (by omega) hxl.2 oR
                have hok : okI s.m H k j = permI s.m k.f j.f x.len := by unfold okI; rw [HX.out, hg]; rfl
                obtain ⟨P, hP⟩ : ∃ P, permI s.m k.f j.f x.len = P := ⟨_, rfl⟩
                rw [hP] at hp hok
                have HOK := Lib.hid hok
                clear hok hP hg hx'
                cases P with
                | false =>
                  go_wp2_with fail
                  refine hp.mono ?_
                  rintro e7 w7 ⟨rfl, g7⟩
                  have o7 := oR.grw g7
                  go_wp2
                  go_roundw
                  case rel => exact ⟨y + 1, by go_num, by omega, take_step HJ.out HNY.out HOK.out, o7, kR.trans g7.calm⟩
                  case measure => simp [Lib.intOf]; omega
                | true =>
                  have hpair := pairI_at HK.out HNO.out HJ.out HNY.out HOK.out
                  have hrs := HST.out
                  rw [hpair] at hrs
                  dsimp only at hrs
                  rw [HX.out] at hrs
                  have hkL := hKm k (List.mem_of_getElem? HK.out)
                  have hjL := hJm j (List.mem_of_getElem? HJ.out)
                  have hc0 := hs.ch k hkL x.len hxl.1 hxl.2
                  rw [if_neg (by rw [hc0]; simp)] at hrs
                  obtain ⟨S', hS'⟩ : ∃ S', (chargeR reb s.R k.f x.len).2 = S' := ⟨_, rfl⟩
                  have hc : chargeR reb s.R k.f x.len = (0, S') := Prod.ext hc0 hS'
                  rw [hS'] at hrs
                  have HC := Lib.hid hc
                  clear hc hc0 hS' hpair
                  go_wp2_with fail
                  refine hp.mono ?_
                  rintro e7 w7 ⟨rfl, g7⟩
                  have o7 := oR.grw g7
                  clear hp hlk
                  by_cases hkj : k.f = j.f
                  · rw [if_pos hkj] at hrs
                    have HRS := Lib.hid hrs
                    have hsv := serve_ownJ hkj hs.aw HC.out (o7.re [0, 7, 1])
                    unfold chV at hsv
                    clear hrs hkj
                    go_wp2_with fail
                    refine hsv.mono ?_
                    rintro e8 w8 ⟨rfl, o8, k8⟩
                    clear hsv
                    have z0 := Own.cell (T := 33) (vs := [.int .i64 0, .int .i64 0, .int .i64 0]) (o8.up 8) 0
                    have z1 := Own.cell (T := 33) (vs := [.int .i64 0, .int .i64 0, .int .i64 0]) (o8.up 8) 1
                    have z2 := Own.cell (T := 33) (vs := [.int .i64 0, .int .i64 0, .int .i64 0]) (o8.up 8) 2
                    have zf := Own.frozen (T := 33) (vs := [.int .i64 0, .int .i64 0, .int .i64 0]) (o8.up 8)
                    have zl := Own.celLt (T := 33) (vs := [.int .i64 0, .int .i64 0, .int .i64 0]) (o8.up 8)
                    have oC := choSet (x := k.f) (y := k.f) (z := 1) (o8.up 8)
                    go_wp2
                    refine bodyPost_ret (v := .tuple #[chV ⟨k.f, k.f, 1⟩, .int .i64 0]) ?_ rfl ?_
                    · exact chRow2 (p := w.heap.size) rfl rfl rfl oC
                    · rw [HRS.out]
                      exact ⟨rfl, IwR.iff.2 ⟨rp, ab, oC.re [0, 4, 5, 6, 7] 5⟩, qcalm_set (qcalm_set (qcalm_set ((kR.trans g7.calm).trans k8)))⟩
                  · rw [if_neg hkj] at hrs
                    have HRS := Lib.hid hrs
                    obtain ⟨A, hA⟩ := hs.ks k hkL
                    obtain ⟨D, hD⟩ := hs.ks j hjL
                    have hAO : accO s.m k.f = A := by unfold accO; rw [hA]; rfl
                    have hDO : accO s.m j.f = D := by unfold accO; rw [hD]; rfl
                    have hsv := serve_pair (len := x.len) hkj (by omega) hxl.2 hs.aw HC.out hA hD (by rw [← hAO]; exact (hs.acc k.f).1) (by rw [← hDO]; exact (hs.acc j.f).1) (o7.re [0, 7, 1])
                    rw [← hAO, ← hDO] at hsv
                    unfold chV at hsv
                    clear hrs hkj hA hD hAO hDO
                    go_wp2_with fail
                    refine hsv.mono ?_
                    rintro e8 w8 ⟨rfl, o8, k8⟩
                    clear hsv
                    have z0 := Own.cell (T := 33) (vs := [.int .i64 0, .int .i64 0, .int .i64 0]) (o8.up 8) 0
                    have z1 := Own.cell (T := 33) (vs := [.int .i64 0, .int .i64 0, .int .i64 0]) (o8.up 8) 1
                    have z2 := Own.cell (T := 33) (vs := [.int .i64 0, .int .i64 0, .int .i64 0]) (o8.up 8) 2
                    have zf := Own.frozen (T := 33) (vs := [.int .i64 0, .int .i64 0, .int .i64 0]) (o8.up 8)
                    have zl := Own.celLt (T := 33) (vs := [.int .i64 0, .int .i64 0, .int .i64 0]) (o8.up 8)
                    have oC := choSet (x := k.f) (y := j.f) (z := 5) (o8.up 8)
                    go_wp2
                    refine bodyPost_ret (v := .tuple #[chV ⟨k.f, j.f, 5⟩, .int .i64 0]) ?_ rfl ?_
                    · exact chRow2 (p := w.heap.size) rfl rfl rfl oC
                    · rw [HRS.out]
                      exact ⟨rfl, IwR.iff.2 ⟨rp, ab, oC.re [0, 4, 5, 6, 7] 5⟩, qcalm_set (qcalm_set (qcalm_set ((kR.trans g7.calm).trans k8)))⟩
            · have hyn : y = s.R.L.length := by omega
              rw [List.take_of_length_le (by have := HJL.out; omega)] at hny
              subst hyn
              have HNY := Lib.hid hny
              clear hny
              go_wp2
              go_roundw
              case rel => exact ⟨i + 1, by go_num, by omega, take_step HK.out HNO.out HNY.out, oR, kR⟩
              case measure => simp [Lib.intOf]; omega
        · have hin : i = s.R.L.length := by omega
          rw [List.take_of_length_le (by have := HKL.out; omega)] at hno
          subst hin
          have hrs := HST.out
          rw [pairI_end hno] at hrs
          dsimp only at hrs
          have HRS := Lib.hid hrs
          clear hrs hno
          have z0 := Own.cell (T := 33) (vs := [.int .i64 0, .int .i64 0, .int .i64 0]) (oR.up 8) 0
          have z1 := Own.cell (T := 33) (vs := [.int .i64 0, .int .i64 0, .int .i64 0]) (oR.up 8) 1
          have z2 := Own.cell (T := 33) (vs := [.int .i64 0, .int .i64 0, .int .i64 0]) (oR.up 8) 2
          have zf := Own.frozen (T := 33) (vs := [.int .i64 0, .int .i64 0, .int .i64 0]) (oR.up 8)
          have zl := Own.celLt (T := 33) (vs := [.int .i64 0, .int .i64 0, .int .i64 0]) (oR.up 8)
          have oC := choSet (x := -1) (y := -1) (z := 6) (oR.up 8)
          go_wp2
          refine bodyPost_ret (v := .tuple #[chV ⟨-1, -1, 6⟩, .int .i64 0]) ?_ rfl ?_
          · exact chRow2 (p := w.heap.size) rfl rfl rfl oC
          · rw [HRS.out]
            exact ⟨rfl, IwR.iff.2 ⟨rp, ab, oC.re [1, 8, 2, 0, 3, 4, 5, 6] |> fun q => q.re [0, 1, 2] |>.re [3, 4, 5, 6, 7] 5⟩, qcalm_set (qcalm_set (qcalm_set kR))⟩
end
end Go.Proofs.Ytkmlkpfabkhleaa

/- Heads that are drawn. -/
namespace Go.Proofs.Ytkmlkpfabkhleaa
open Go.RowKit
open SP
section
variable {W w w' : World} {R : List SP} {b N : Nat} {Sp : SP}

def IntsAt (Sp : SP) (a : Option Addr) (F : List Int) : Prop := ∀ (w : World) (R : List SP), Own w (Sp :: R) → ∀ (i : Nat) (x : Int), F[i]? = some x → ∃ g, a = some ⟨g, 0, none⟩ ∧ w.cell? ⟨g, i, none⟩ = some (.int .i64 x)
theorem intsAt_slc {T : TypeId} (a : Option Addr) (n c : Nat) (F : List Int) (hn : n = F.length) : IntsAt (slc T 1 a n c (F.map (Value.int .i64))) a F := by
  intro w R o i x h
  have := (List.getElem?_eq_some_iff.1 h).1
  obtain ⟨g, h1, hc, _, _⟩ := o.slc_cell (by omega)
  exact ⟨g, h1, hc i _ (by rw [List.getElem?_map, h]; rfl)⟩
theorem Try.headT : ElemT Try.prog 37 41 3 24 := ElemT.mk' (z := .agg #[.int .i64 0, .int .i64 0, .bool false]) Try.underlying37 (by kernel_rfl) rfl (by decide)

def HdOk (sz : Int) (F : List Int) (H : List Head) : Prop := H.map (·.f) = F ∧ ∀ h ∈ H, 1 ≤ h.len ∧ h.len ≤ 4096 ∧ (sz ≠ 0 → h.len = sz)
def HdRel (W : World) (b N : Nat) (sz : Int) (F : List Int) (Sp : SP) (R : List SP) (w : World) (v7 v8 : Value) (wr : World) : Prop :=
  ∃ (i : Nat) (a' : Option Addr) (c' : Nat) (H : List Head), v8 = .int .i64 (i : Int) ∧ i ≤ F.length ∧ v7 = .slice a' i c' ∧ HdOk sz (F.take i) H ∧
    Own wr (slc 41 3 a' i c' (flat headC H) :: Ch W b (N + 2 * i) :: old W :: Sp :: R) ∧ Calm w wr
def HeadsPost (W : World) (b N : Nat) (sz : Int) (F : List Int) (Sp : SP) (R : List SP) (w : World) (e : Ending) (w' : World) : Prop :=
  ∃ (a : Option Addr) (c : Nat) (H : List Head), HdOk sz F H ∧ Ret (.slice a F.length c) (slc 41 3 a F.length c (flat headC H) :: Ch W b (N + 2 * F.length) :: old W :: Sp :: R) w e w'

set_option maxHeartbeats 3200000 in
set_option maxRecDepth 100000 in
theorem heads_spec {sz : Int} (hsz : sz = 0 ∨ 1 ≤ sz ∧ sz ≤ 4096) {F : List Int} {a : Option Addr} {n c : Nat} (hF : IntsAt Sp a F) (hn : n = F.length) (hl : n ≤ 32) (hN : N ≤ 800000000) (o : Own w (Ch W b N :: old W :: Sp :: R)) :
    Calls Try.prog 13 #[.pointer (some ⟨b, 0, none⟩), .slice a n c, .int .i64 sz] w (HeadsPost W b N sz F Sp R w) := by
  have Hn := Lib.hid hn
  have hT : HdRel W b N sz F Sp R w (.slice none 0 0) (.int .i64 0) w := ⟨0, none, 0, [], rfl, by omega, rfl, ⟨rfl, by simp⟩, Own.slc_nil o, Calm.refl w⟩
  clear o hn
  go_enter Try.func13, Try.ntmps13
  go_wp2
  go_loopw [7, 8] (fun v7 v8 wr => HdRel W b N sz F Sp R w v7 v8 wr) (fun _ v _ => n - (Lib.intOf v).toNat)
  case atStart => exact hT
  case round =>
    clear hT
    obtain ⟨i, a', c', H, rfl, hi, rfl, hH, oR, kR⟩ := hrel
    by_cases hlt : i < n
    · obtain ⟨x, hx⟩ : ∃ x, F[i]? = some x := ⟨_, List.getElem?_eq_getElem (by have := Hn.out; omega)⟩
      have hiN : N + 2 * i ≤ 800000100 := by omega
      have HX := Lib.hid hx
      clear hx
      obtain ⟨Z, hZ⟩ : ∃ Z, (sz == 0) = Z := ⟨_, rfl⟩
      go_upto_if 18 with fail
      go_cut [9] (fun v wc => ∃ l : Int, 1 ≤ l ∧ l ≤ 4096 ∧ (sz ≠ 0 → l = sz) ∧ v = .int .i64 l ∧ Own wc (slc 41 3 a' i c' (flat headC H) :: Ch W b (N + 2 * i + 1) :: old W :: Sp :: R) ∧ Calm w wc)
      case first =>
        cases Z with
        | true =>
          have h0 := Lib.hid (show sz = 0 by simpa using hZ)
          clear hZ
          have oC := oR.re [1, 2, 0]
          go_wp2_with fail
          refine (length_spec (W := W) (b := b) (N + 2 * i) (by omega) oC).mono ?_
          rintro e2 w2 ⟨l, hl1, hl2, rfl, o3, k3⟩
          go_wp2
          go_meet
          exact ⟨l, hl1, hl2, fun h => absurd h0.out h, rfl, o3.re [2, 0, 1], kR.trans k3⟩
        | false =>
          have h0 : sz ≠ 0 := by simpa using hZ
          clear hZ
          go_wp2
          go_meet
          exact ⟨sz, by omega, by omega, fun _ => rfl, rfl, (Ch.upto (oR.up 1) (by omega)).re [1, 0], kR⟩
      case rest =>
        obtain ⟨l, hl1, hl2, hl3, rfl, oS, kS⟩ := hcut
        clear oR kR hZ
        obtain ⟨g, rfl, d0⟩ := hF _ _ (oS.up 3) i x HX.out
        have oSd := oS.drew.re [1, 2, 0]
        go_wp2
        go_region_held3 (fun w' => w'.cell? ⟨g, i, none⟩ = some (.int .i64 x)) (go_keep) (first
          | (refine step_append_src rfl _ _ rfl Try.headT rfl (oX.up 3) rfl ⟨_, _, rfl, rfl, by intro u hu; simp only [List.mem_cons, List.not_mem_nil, or_false] at hu; rcases hu with rfl | rfl | rfl <;> rfl, .inr ⟨_, rfl, hnw⟩⟩ (by unfold maxLen; omega) (by omega) ?_; intro a2 c2 w5 o5 k5; obtain ⟨_, hh5, d5⟩ := hF _ _ (o5.up 4) i x HX.out; cases hh5)
          | (go_at_call 10; (with_reducible refine (next_spec W b (N + 2 * i + 1) 3 _ _ (by omega) (by omega) (by omega) oSd).mono ?_); rintro e2 w2 ⟨y, hy0, hy1, rfl, o3, k3⟩; obtain ⟨_, hh3, d3⟩ := hF _ _ (o3.up 3) i x HX.out; cases hh3; have oX := o3.alloc (.cells #[.int .i64 x, .int .i64 l, .bool (decide (0 < y))] 41); have hnw := Own.news (T := 41) (vs := [.int .i64 x, .int .i64 l, .bool (decide (0 < y))]) oX))
        go_wp2
        have hfl : flat headC H ++ [.int .i64 x, .int .i64 l, .bool (decide (0 < y))] = flat headC (H ++ [⟨x, l, decide (0 < y)⟩]) := by rw [flat_append]; rfl
        rw [hfl] at o5
        have K5 := (kS.trans ((qcalm_drew (Calm.refl wc)).trans k3)).trans ((qcalm_alloc (Calm.refl w2)).trans k5)
        have hH2 : HdOk sz (F.take (i + 1)) (H ++ [⟨x, l, decide (0 < y)⟩]) := by
          refine ⟨by rw [List.map_append, hH.1, List.take_add_one, HX.out]; rfl, fun h hh => ?_⟩
          rcases List.mem_append.1 hh with hh | hh
          · exact hH.2 h hh
          · have : h = ⟨x, l, decide (0 < y)⟩ := by simpa using hh
            subst this
            exact ⟨hl1, hl2, hl3⟩
        go_roundw
        case rel => exact ⟨i + 1, a2, c2, _, by go_num, by have := Hn.out; omega, rfl, hH2, o5.re [1] 1, K5⟩
        case measure => simp [Lib.intOf]; omega
    · have hin : i = F.length := by have := Hn.out; omega
      subst hin
      rw [List.take_length] at hH
      go_wp2
      go_ret
      exact ⟨a', c', H, hH, rfl, oR, kR⟩
end
end Go.Proofs.Ytkmlkpfabkhleaa

/- Iwfq, plain: slots without errors and without lags. -/
namespace Go.Proofs.Ytkmlkpfabkhleaa
open Go.RowKit
section
variable {S : St} {i : Nat} {s : Iw} {H : List Head} {reb : Int}

theorem leastG_first (L : List Tg) : ∀ (l : List Tg) (i best : Nat), l = L.drop i → best < i ∨ best = 0 → best < L.length → (∀ j, j < best → (L.getD best ⟨0, 0, 0⟩).s < (L.getD j ⟨0, 0, 0⟩).s) →
    (∀ j, j < i → (L.getD best ⟨0, 0, 0⟩).s ≤ (L.getD j ⟨0, 0, 0⟩).s) → ∀ j, j < leastG L l i best → (L.getD (leastG L l i best) ⟨0, 0, 0⟩).s < (L.getD j ⟨0, 0, 0⟩).s
  | [], i, best, _, _, _, h2, _ => h2
  | t :: l, i, best, h, hb, hl, h2, h3 => by
    have hi : i < L.length := by
      have := congrArg List.length h
      rw [List.length_drop] at this
      simp at this
      omega
    have hti : L.getD i ⟨0, 0, 0⟩ = t := by
      rw [List.getD_eq_getElem?_getD]
      have := congrArg (fun x => x[0]?) h
      simp at this
      rw [← this]; rfl
    have hd : l = L.drop (i + 1) := by
      rw [List.drop_eq_getElem_cons hi] at h
      exact (List.cons.inj h).2
    unfold leastG
    by_cases hlt : t.s < (L.getD best ⟨0, 0, 0⟩).s
    · rw [if_pos hlt]
      refine leastG_first L l (i + 1) i hd (.inl (by omega)) hi (fun j hj => ?_) (fun j hj => ?_)
      · have := h3 j hj
        rw [hti]; omega
      · by_cases e : j = i
        · subst e; omega
        · have := h3 j (by omega)
          rw [hti]; omega
    · rw [if_neg hlt]
      refine leastG_first L l (i + 1) best hd (by omega) hl h2 (fun j hj => ?_)
      by_cases e : j = i
      · subst e; rw [hti]; omega
      · exact h3 j (by omega)
theorem lst_first {L : List Tg} (hok : LOk L) {x : Tg} (hx : x ∈ L) (he : x.s = (lst L).s) : (lst L).f ≤ x.f := by
  obtain ⟨q, hq⟩ := List.getElem?_of_mem hx
  obtain ⟨q1, q2⟩ := List.getElem?_eq_some_iff.1 hq
  have hp := leastN_lt (List.ne_nil_of_mem hx)
  have hl : lst L = L[leastN L] := by unfold lst; rw [List.getD_eq_getElem?_getD, List.getElem?_eq_getElem hp]; rfl
  by_cases hlt : q < leastN L
  · exfalso
    have := leastG_first L L 0 0 rfl (.inr rfl) (by omega) (fun j hj => absurd hj (Nat.not_lt_zero _)) (fun j hj => absurd hj (Nat.not_lt_zero _)) q hlt
    change (lst L).s < (L.getD q ⟨0, 0, 0⟩).s at this
    rw [List.getD_eq_getElem?_getD, hq] at this
    simp at this
    omega
  · by_cases e : q = leastN L
    · subst e; rw [hl, ← q2]; exact Int.le_refl _
    · have := List.pairwise_iff_getElem.1 hok.asc (leastN L) q hp q1 (by omega)
      rw [hl, ← q2]; omega
theorem srtK_head {L : List Tg} (hok : LOk L) (hne : L ≠ []) : ∃ ks, srtK (·.s) L = lst L :: ks := by
  cases hs : srtK (·.s) L with
  | nil => have := srtK_len (·.s) L; rw [hs] at this; simp at this; exact absurd this.symm (by simpa using hne)
  | cons x ks =>
    refine ⟨ks, ?_⟩
    have hp := srtK_sorted (key := (·.s)) hok.asc
    rw [hs, List.pairwise_cons] at hp
    have hx : x ∈ L := srtK_mem.1 (by rw [hs]; simp)
    have hm := lst_mem hne
    have hm2 : lst L ∈ x :: ks := by rw [← hs]; exact srtK_mem.2 hm
    rcases List.mem_cons.1 hm2 with e | hk
    · rw [e]
    · exfalso
      have h1 := hp.1 _ hk
      unfold ltK at h1
      rw [decide_eq_true_eq] at h1
      have h2 := lst_min hx
      rcases h1 with h1 | ⟨h1, h3⟩
      · change x.s < (lst L).s at h1; omega
      · have := lst_first hok hx h1; omega
theorem headOf_of {f : Int} (h : f ∈ H.map (·.f)) : headOf H f ∈ H ∧ (headOf H f).f = f := by
  obtain ⟨x, hx, e⟩ := List.mem_map.1 h
  unfold headOf
  cases hf : H.find? (fun h => h.f == f) with
  | none => have := List.find?_eq_none.1 hf x hx; simp at this; exact absurd e this
  | some y => exact ⟨List.mem_of_find?_eq_some hf, by simpa using List.find?_some hf⟩
theorem good_step (hz : ∀ f, (accO s.m f).1 = 0) (hok : LOk s.R.L) (hf : fitsH s.R.L H = true) (hne : H ≠ []) (hg : ∀ x ∈ H, x.good = true) {len : Int} (hlen : (headOf H (selT s.R.L).1).len = len) (hc : (chargeR reb s.R (selT s.R.L).1 len).1 = 0) :
    stepI reb s H = (⟨(selT s.R.L).1, (selT s.R.L).1, 1⟩, 0, ⟨(chargeR reb s.R (selT s.R.L).1 len).2, s.m⟩) := by
  obtain ⟨f1, f2⟩ := fits_len hf
  have hL : s.R.L ≠ [] := fun e => by rw [e] at f1; simp at f1; exact hne f1
  have hsel : (selT s.R.L).1 = (lst s.R.L).f := by unfold selT; rw [if_neg hL]
  have hkey : svcI s.m = (fun t => t.s) := by
    funext t
    unfold svcI
    rw [hz, Int.zero_mul, Int.sub_zero]
  obtain ⟨ks, hks⟩ := srtK_head hok hL
  rw [hsel] at hlen hc ⊢
  have hmem : (lst s.R.L).f ∈ H.map (·.f) := by rw [f1]; exact List.mem_map.2 ⟨_, lst_mem hL, rfl⟩
  have hgd := hg _ (headOf_of hmem).1
  have hokk : okI s.m H (lst s.R.L) (lst s.R.L) = true := by
    unfold okI permI
    rw [hgd, decide_eq_true rfl]
    rfl
  have hp : pairI (okI s.m H) (srtK (svcI s.m) s.R.L) (srtK (·.s) s.R.L) = some (lst s.R.L, lst s.R.L) := by
    rw [hkey, hks]
    unfold pairI
    rw [List.find?_cons_of_pos hokk]
  rw [stepI_eq hf hne, hp]
  dsimp only
  rw [hlen, if_neg (by rw [hc]; simp), if_pos rfl]
end
end Go.Proofs.Ytkmlkpfabkhleaa

/- Iwfq, plain: what the slots keep; joining one after the other; the example of chapter 25. -/
namespace Go.Proofs.Ytkmlkpfabkhleaa
open Go.RowKit
open SP
section
variable {i : Nat} {s : Iw} {H : List Head} {reb : Int} {m : List (Int × Acc)}

def accIn (a : Acc) : Prop := -a.2.2 ≤ a.1 ∧ a.1 ≤ a.2.1 ∧ 0 ≤ a.2.1 ∧ a.2.1 ≤ 1099511627776 ∧ 0 ≤ a.2.2 ∧ a.2.2 ≤ 1099511627776
structure IwInv (i : Nat) (s : Iw) : Prop where
  tb : TB i s.R
  acc : ∀ f, accIn (accO s.m f)
  ks : ∀ t ∈ s.R.L, ∃ a, mget s.m t.f = some a
theorem IwInv.accOk (h : IwInv i s) : AccOk s.m := fun f => by have := h.acc f; unfold accIn at this; omega
theorem IwInv.next (h : IwInv i s) : IwInv (i + 1) s := ⟨h.tb.next, h.acc, h.ks⟩
theorem IwInv.ok (h : IwInv i s) (hi : i ≤ 371) (reb : Int) : IwOk reb s :=
  ⟨h.tb.ok.ok, ⟨h.tb.aw0, by have := h.tb.aw1; omega⟩, h.accOk, h.ks, fun t ht len l1 l2 => (h.tb.charge hi ht l1 l2 reb).1⟩
theorem accO_mput (m : List (Int × Acc)) (k f : Int) (a : Acc) : accO (mput m k a) f = if f = k then a else accO m f := by
  unfold accO
  rw [mget_mput]
  split <;> rfl
theorem mem_ks {P L : List Tg} (h : P.map (fun u => (u.f, u.w)) = L.map (fun u => (u.f, u.w))) {t : Tg} (ht : t ∈ P) : ∃ u ∈ L, u.f = t.f := by
  have : (t.f, t.w) ∈ L.map (fun u => (u.f, u.w)) := by rw [← h]; exact List.mem_map.2 ⟨t, ht, rfl⟩
  obtain ⟨u, hu, e⟩ := List.mem_map.1 this
  exact ⟨u, hu, congrArg Prod.fst e⟩
/-- A slot keeps it. -/
theorem IwInv.step (h : IwInv i s) (hi : i ≤ 371) (hf : fitsH s.R.L H = true) (hne : H ≠ []) :
    (stepI reb s H).2.1 = 0 ∧ IwInv (i + 1) (stepI reb s H).2.2 ∧ (stepI reb s H).2.2.R.L.map (fun u => (u.f, u.w)) = s.R.L.map (fun u => (u.f, u.w)) := by
  obtain ⟨f1, f2⟩ := fits_len hf
  rw [stepI_eq hf hne]
  cases hp : pairI (okI s.m H) (srtK (svcI s.m) s.R.L) (srtK (·.s) s.R.L) with
  | none => exact ⟨rfl, h.next, rfl⟩
  | some kj =>
    obtain ⟨k, j⟩ := kj
    dsimp only
    obtain ⟨m1, m2, m3⟩ := pairI_mem hp
    unfold okI at m3
    rw [Bool.and_eq_true] at m3
    obtain ⟨x, hx, hxj, hxe⟩ := headOf_good m3.1
    have hl := f2 x hx
    rw [hxe] at m3 ⊢
    obtain ⟨c1, c2, c3⟩ := h.tb.charge hi (srtK_mem.1 m1) hl.1 hl.2 reb
    rw [if_neg (by rw [c1]; simp)]
    by_cases hkj : k.f = j.f
    · rw [if_pos hkj]
      exact ⟨rfl, ⟨c2, h.acc, fun t ht => by obtain ⟨u, hu, e⟩ := mem_ks c3 ht; rw [← e]; exact h.ks u hu⟩, c3⟩
    · rw [if_neg hkj]
      refine ⟨rfl, ⟨c2, fun f => ?_, fun t ht => ?_⟩, c3⟩
      · have hpm := m3.2
        unfold permI at hpm
        rw [decide_eq_false hkj, Bool.false_or, Bool.and_eq_true, decide_eq_true_eq, decide_eq_true_eq] at hpm
        dsimp only
        rw [accO_mput, accO_mput]
        have hk := h.acc k.f
        have hj := h.acc j.f
        have hff := h.acc f
        unfold accIn at *
        unfold accP
        split
        · dsimp only; omega
        · split
          · dsimp only; omega
          · exact hff
      · obtain ⟨u, hu, e⟩ := mem_ks c3 ht
        obtain ⟨a, ha⟩ := h.ks u hu
        dsimp only
        rw [← e, mget_mput]
        split
        · exact ⟨_, rfl⟩
        · rw [mget_mput]
          split
          · exact ⟨_, rfl⟩
          · exact ⟨a, ha⟩
def idJ (n : Nat) : List Int := (List.range n).map fun (k : Nat) => (k : Int)
theorem idJ_len (n : Nat) : (idJ n).length = n := by unfold idJ; simp
theorem insT_endI {x : Tg} : ∀ {L : List Tg}, (∀ t ∈ L, t.f < x.f) → insT x L = L ++ [x]
  | [], _ => rfl
  | t :: L, h => by
    unfold insT
    rw [if_pos (h t (by simp)), insT_endI fun u hu => h u (by simp [hu])]
    rfl
theorem idJ_lt {n : Nat} {f : Int} (h : f ∈ idJ n) : 0 ≤ f ∧ f < (n : Int) := by
  unfold idJ at h
  obtain ⟨q, hq, rfl⟩ := List.mem_map.1 h
  rw [List.mem_range] at hq
  omega
theorem idJ_succ (n : Nat) : idJ (n + 1) = idJ n ++ [(n : Int)] := by
  unfold idJ
  rw [List.range_succ, List.map_append]; rfl
/-- The next flow joins. -/
theorem join_next {S : St} {k : Nat} (h : TB i S) (hfl : S.L.map (·.f) = idJ k) (hk : k < 32) {w : Int} (h1 : 1 ≤ w) (h2 : w ≤ 16) :
    joinE S (k : Int) w = 0 ∧ TB i (joinS S (k : Int) w) ∧ (joinS S (k : Int) w).L.map (·.f) = idJ (k + 1) := by
  have hlt : ∀ t ∈ S.L, t.f < (k : Int) := fun t ht => (idJ_lt (by rw [← hfl]; exact List.mem_map.2 ⟨t, ht, rfl⟩)).2
  have hno : fget S.L (k : Int) = none := fget_none.2 fun t ht e => by have := hlt t ht; omega
  have he : joinE S (k : Int) w = 0 := by
    unfold joinE
    rw [if_neg (by omega), hno]
    rfl
  refine ⟨he, h.join he, ?_⟩
  show (insT ⟨(k : Int), w, _⟩ S.L).map (·.f) = _
  rw [insT_endI hlt, List.map_append, hfl, idJ_succ]
  rfl
theorem joinI_ok {k : Nat} (h : IwInv i s) (hfl : s.R.L.map (·.f) = idJ k) (hk : k < 32) {w x y : Int} (h1 : 1 ≤ w) (h2 : w ≤ 16) (hb : bndI x y = true) :
    joinI s (k : Int) w x y = (0, ⟨joinS s.R (k : Int) w, mput s.m (k : Int) (0, x, y)⟩) ∧ IwInv i ⟨joinS s.R (k : Int) w, mput s.m (k : Int) (0, x, y)⟩ ∧ (joinS s.R (k : Int) w).L.map (·.f) = idJ (k + 1) := by
  obtain ⟨he, hT, hf2⟩ := join_next h.tb hfl hk h1 h2
  refine ⟨by unfold joinI; rw [hb, if_neg (by simp), if_pos he], ⟨hT, fun f => ?_, fun t ht => ?_⟩, hf2⟩
  · dsimp only
    rw [accO_mput]
    split
    · unfold bndI at hb
      simp only [Bool.and_eq_true, decide_eq_true_eq] at hb
      unfold accIn
      dsimp only
      omega
    · exact h.acc f
  · dsimp only
    rw [mget_mput]
    split
    · exact ⟨_, rfl⟩
    · rename_i hne
      have hm : t.f ∈ idJ (k + 1) := by rw [← hf2]; exact List.mem_map.2 ⟨t, ht, rfl⟩
      rw [idJ_succ] at hm
      rcases List.mem_append.1 hm with hm | hm
      · rw [← hfl] at hm
        obtain ⟨u, hu, e⟩ := List.mem_map.1 hm
        rw [← e]
        exact h.ks u hu
      · simp at hm; exact absurd hm hne
theorem iw0_inv : IwInv 0 iw0 := ⟨TB.start, fun f => by rw [show accO iw0.m f = (0, 0, 0) from rfl]; unfold accIn; decide, fun t ht => by cases ht⟩
/-! ### The example -/
def awI0 : Iw := ⟨joinS (joinS iw0.R 0 1) 1 1, mput (mput [] 0 (0, 100, 100)) 1 (0, 100, 100)⟩
def awHd : List Head := [⟨0, 100, false⟩, ⟨1, 100, true⟩]
def awI (k : Nat) : Iw := match k with
  | 0 => awI0
  | k + 1 => (stepI 1099511627776 (awI k) awHd).2.2
theorem aw_join : joinI iw0 0 1 100 100 = (0, ⟨joinS iw0.R 0 1, mput [] 0 (0, 100, 100)⟩) ∧ joinI ⟨joinS iw0.R 0 1, mput [] 0 (0, 100, 100)⟩ 1 1 100 100 = (0, awI0) := ⟨rfl, rfl⟩
theorem awI_inv : ∀ k : Nat, k ≤ 3 → IwInv k (awI k) ∧ (awI k).R.L.map (·.f) = [0, 1]
  | 0, _ => by
    obtain ⟨_, h1, f1⟩ := joinI_ok (k := 0) (w := 1) (x := 100) (y := 100) iw0_inv rfl (by omega) (by decide) (by decide) rfl
    obtain ⟨_, h2, f2⟩ := joinI_ok (k := 1) (w := 1) (x := 100) (y := 100) h1 f1 (by omega) (by decide) (by decide) rfl
    exact ⟨h2, f2⟩
  | k + 1, hk => by
    obtain ⟨h, hf⟩ := awI_inv k (by omega)
    have hfit : fitsH (awI k).R.L awHd = true := by
      unfold fitsH
      rw [hf]
      decide
    obtain ⟨_, h2, h3⟩ := h.step (reb := 1099511627776) (H := awHd) (by omega) hfit (by simp [awHd])
    refine ⟨h2, ?_⟩
    show (stepI 1099511627776 (awI k) awHd).2.2.R.L.map (·.f) = _
    have := congrArg (List.map Prod.fst) h3
    rw [List.map_map, List.map_map] at this
    exact this.trans hf
theorem aw_fit (k : Nat) (hk : k ≤ 3) : fitsH (awI k).R.L awHd = true := by
  unfold fitsH
  rw [(awI_inv k hk).2]
  decide
theorem aw_res : (stepI 1099511627776 (awI 0) awHd).1 = ⟨0, 1, 5⟩ ∧ (stepI 1099511627776 (awI 1) awHd).1 = ⟨1, 1, 1⟩ ∧ (stepI 1099511627776 (awI 2) awHd).1 = ⟨1, 1, 1⟩ ∧ (stepI 1099511627776 (awI 2) awHd).2.1 = 0 := ⟨by decide, by decide, by decide, by decide⟩
end
end Go.Proofs.Ytkmlkpfabkhleaa

/- Iwfq: the example of chapter 25. -/
namespace Go.Proofs.Ytkmlkpfabkhleaa
open Go.RowKit
open SP
section
variable {w w' : World} {R : List SP} {b : Nat}
theorem awStepI {k : Nat} (hk : k ≤ 2) {g c : Nat} (o : Own w (IwR b 1099511627776 (awI k) :: slc 41 3 (some ⟨g, 0, none⟩) 2 c (flat headC awHd) :: R)) :
    Calls Try.prog 20 #[.pointer (some ⟨b, 0, none⟩), .slice (some ⟨g, 0, none⟩) 2 c] w
      (Ret (.tuple #[chV (stepI 1099511627776 (awI k) awHd).1, .int .i64 0]) (IwR b 1099511627776 (awI (k + 1)) :: slc 41 3 (some ⟨g, 0, none⟩) 2 c (flat headC awHd) :: R) w) := by
  obtain ⟨h, _⟩ := awI_inv k (by omega)
  have hf := aw_fit k (by omega)
  have h0 := (h.step (reb := 1099511627776) (by omega) hf (by simp [awHd])).1
  have := iwStep_spec (c := c) (h.ok (by omega) 1099511627776) (headsAt_slc (T := 41) (some ⟨g, 0, none⟩) 2 c awHd rfl) rfl hf (by simp [awHd]) o
  rw [h0] at this
  exact this
set_option maxHeartbeats 6400000 in
set_option maxRecDepth 100000 in
theorem awake25_spec (o : Own w R) : Calls Try.prog 21 #[] w (Ret (.bool true) R w) := by
  go_enter Try.func21, Try.ntmps21
  go_wp2_with fail
  refine (iwNew_spec 1099511627776 (by decide) (by decide) o).mono ?_
  rintro e1 w1 ⟨b, rfl, o1, k1⟩
  have hj := iwJoin_spec 0 1 100 100 o1
  rw [aw_join.1] at hj
  dsimp only at hj
  go_wp2_with fail
  refine hj.mono ?_
  rintro e2 w2 ⟨rfl, o2, k2⟩
  clear hj
  have hj := iwJoin_spec 1 1 100 100 o2
  rw [aw_join.2] at hj
  dsimp only at hj
  go_wp2_with fail
  refine hj.mono ?_
  rintro e3 w3 ⟨rfl, o3, k3⟩
  clear hj
  have oH := o3.alloc (.cells #[.int .i64 0, .int .i64 100, .bool false, .int .i64 1, .int .i64 100, .bool true] 41)
  have oI := slc_new (size := 3) (n := 2) oH rfl (by omega)
  have h0 := awStepI (k := 0) (by decide) (oI.re [1, 0])
  rw [aw_res.1] at h0
  unfold chV at h0
  dsimp only at h0
  have K3 := k1.trans (k2.trans k3)
  clear o1 o2 k1 k2 k3
  go_wp2_with fail
  refine h0.mono ?_
  rintro e4 w4 ⟨rfl, o4, k4⟩
  clear h0
  have oA := o4.alloc (.cells #[.int .i64 0, .int .i64 1, .int .i64 5] 33)
  have h1 := awStepI (k := 1) (by decide) (oA.re [1, 2])
  rw [aw_res.2.1] at h1
  unfold chV at h1
  dsimp only at h1
  go_wp2_with fail
  refine h1.mono ?_
  rintro e5 w5 ⟨rfl, o5, k5⟩
  clear h1
  have oB := o5.alloc (.cells #[.int .i64 1, .int .i64 1, .int .i64 1] 33)
  have h2 := awStepI (k := 2) (by decide) (oB.re [1, 2])
  rw [aw_res.2.2.1] at h2
  unfold chV at h2
  dsimp only at h2
  go_wp2_with fail
  refine h2.mono ?_
  rintro e6 w6 ⟨rfl, o6, k6⟩
  clear h2
  have oO := o6.alloc (.cells #[.int .i64 1, .int .i64 1, .int .i64 1] 33)
  have a0 := Own.cell (T := 33) (vs := [.int .i64 1, .int .i64 1, .int .i64 1]) (oO.up 0) 0
  have a1 := Own.cell (T := 33) (vs := [.int .i64 1, .int .i64 1, .int .i64 1]) (oO.up 0) 1
  have a2 := Own.cell (T := 33) (vs := [.int .i64 1, .int .i64 1, .int .i64 1]) (oO.up 0) 2
  have p0 := Own.cell (T := 33) (vs := [.int .i64 1, .int .i64 1, .int .i64 1]) (oO.up 3) 0
  have p1 := Own.cell (T := 33) (vs := [.int .i64 1, .int .i64 1, .int .i64 1]) (oO.up 3) 1
  have p2 := Own.cell (T := 33) (vs := [.int .i64 1, .int .i64 1, .int .i64 1]) (oO.up 3) 2
  have r0 := Own.cell (T := 33) (vs := [.int .i64 0, .int .i64 1, .int .i64 5]) (oO.up 4) 0
  have r1 := Own.cell (T := 33) (vs := [.int .i64 0, .int .i64 1, .int .i64 5]) (oO.up 4) 1
  have r2 := Own.cell (T := 33) (vs := [.int .i64 0, .int .i64 1, .int .i64 5]) (oO.up 4) 2
  go_wp2
  go_ret
  have K4 := (qcalm_alloc (x := .cells #[.int .i64 0, .int .i64 100, .bool false, .int .i64 1, .int .i64 100, .bool true] 41) K3).trans k4
  have K5 := (qcalm_alloc (x := .cells #[.int .i64 0, .int .i64 1, .int .i64 5] 33) K4).trans k5
  have K6 := (qcalm_alloc (x := .cells #[.int .i64 1, .int .i64 1, .int .i64 1] 33) K5).trans k6
  exact ⟨rfl, oO.dropN 5, qcalm_alloc (x := .cells #[.int .i64 1, .int .i64 1, .int .i64 1] 33) K6⟩
end
end Go.Proofs.Ytkmlkpfabkhleaa

/- Iwfq: the accounts. -/
namespace Go.Proofs.Ytkmlkpfabkhleaa
open Go.RowKit
open SP
section
variable {w w' : World} {R : List SP} {b rp ab : Nat} {reb : Int} {s : Iw} {m : List (Int × Acc)}

def accCI (m : List (Int × Acc)) (t : Tg) : List Value := [.int .i64 t.f, .int .i64 t.w, .int .i64 (accO m t.f).1, .int .i64 t.s, .int .i64 0, .int .i64 0, .int .i64 0, .int .i64 0, .int .i64 (accO m t.f).2.1, .int .i64 (accO m t.f).2.2]
theorem accCI_len (m : List (Int × Acc)) (t : Tg) : (accCI m t).length = 10 := rfl
theorem Try.accTI : ElemT Try.prog 60 89 10 80 := ElemT.mk' (z := .agg #[.int .i64 0, .int .i64 0, .int .i64 0, .int .i64 0, .int .i64 0, .int .i64 0, .int .i64 0, .int .i64 0, .int .i64 0, .int .i64 0]) Try.underlying60 (by kernel_rfl) rfl (by decide)
theorem flat_appendI {α : Type} (g : α → List Value) (xs ys : List α) : flat g (xs ++ ys) = flat g xs ++ flat g ys := by unfold flat; rw [List.flatMap_append]

def AcIRel (b : Nat) (reb : Int) (rp ab : Nat) (s : Iw) (at_ : Option Addr) (tc : Nat) (R : List SP) (w : World) (v3 v13 : Value) (wr : World) : Prop :=
  ∃ (i : Nat) (a' : Option Addr) (c' : Nat), v13 = .int .i64 (i : Int) ∧ i ≤ s.R.L.length ∧ v3 = .slice a' i c' ∧
    Own wr (slc 89 10 a' i c' (flat (accCI s.m) (s.R.L.take i)) :: slc 106 3 at_ s.R.L.length tc (flat tagC s.R.L) :: SfqR rp reb s.R :: IwC b rp ab :: mpI accI ab s.m :: R) ∧ Calm w wr
def AccIPost (b : Nat) (reb : Int) (s : Iw) (R : List SP) (w : World) (e : Ending) (w' : World) : Prop :=
  ∃ (a : Option Addr) (c : Nat), Ret (.slice a s.R.L.length c) (slc 89 10 a s.R.L.length c (flat (accCI s.m) s.R.L) :: IwR b reb s :: R) w e w'

set_option maxHeartbeats 6400000 in
set_option maxRecDepth 100000 in
theorem iwAcc_spec (hl : s.R.L.length ≤ 32) (o : Own w (IwR b reb s :: R)) :
    Calls Try.prog 25 #[.pointer (some ⟨b, 0, none⟩)] w (AccIPost b reb s R w) := by
  obtain ⟨rp, ab, o1⟩ := IwR.iff.1 o
  have c2 := o1.cell 0
  have cl := o1.celLt
  go_enter Try.func25, Try.ntmps25
  go_wp2_with fail
  refine (sfqTags_spec (o1.re [1])).mono ?_
  rintro e2 w2 ⟨at_, tc, rfl, o2, k2⟩
  have hT : AcIRel b reb rp ab s at_ tc R w (.slice none 0 0) (.int .i64 0) w2 := ⟨0, none, 0, rfl, by omega, rfl, Own.slc_nil o2, k2⟩
  clear o2 k2 c2 cl o1 o
  go_wp2
  go_loopw [3, 13] (fun v3 v13 wr => AcIRel b reb rp ab s at_ tc R w v3 v13 wr) (fun _ v _ => s.R.L.length - (Lib.intOf v).toNat)
  case atStart => exact hT
  case round =>
    clear hT
    obtain ⟨i, a', c', rfl, hi, rfl, oR, kR⟩ := hrel
    by_cases hlt : i < s.R.L.length
    · obtain ⟨t, ht⟩ : ∃ t, s.R.L[i]? = some t := ⟨_, List.getElem?_eq_getElem (by omega)⟩
      have htk : s.R.L.take (i + 1) = s.R.L.take i ++ [t] := by rw [List.take_add_one, ht]; rfl
      have HTK := Lib.hid htk
      obtain ⟨g, rfl, hc, _, _⟩ := (oR.up 1).slc_cell (by omega)
      have d0 := hc (i * 3 + 0) _ (flat_get tagC_len s.R.L i 0 t ht (by omega))
      rw [Nat.add_zero] at d0
      have d1 := hc (i * 3 + 1) _ (flat_get tagC_len s.R.L i 1 t ht (by omega))
      have d2 := hc (i * 3 + 2) _ (flat_get tagC_len s.R.L i 2 t ht (by omega))
      change wr.cell? ⟨g, i * 3, none⟩ = some (.int .i64 t.f) at d0
      change wr.cell? ⟨g, i * 3 + 1, none⟩ = some (.int .i64 t.w) at d1
      change wr.cell? ⟨g, i * 3 + 2, none⟩ = some (.int .i64 t.s) at d2
      have HAC := Lib.hid (show flat (accCI s.m) (s.R.L.take i) ++ accCI s.m t = flat (accCI s.m) (s.R.L.take (i + 1)) from by rw [htk, flat_appendI]; show _ = _ ++ (accCI s.m t ++ []); rw [List.append_nil])
      clear hc ht htk
      have oA := oR.alloc (.cells #[.int .i64 t.f, .int .i64 t.w, .int .i64 t.s] 106)
      have K3 : Calm w (wr.alloc (.cells #[.int .i64 t.f, .int .i64 t.w, .int .i64 t.s] 106)) := qcalm_alloc kR
      have hlk := fun (w : World) (R : List SP) (o : Own w (mpI accI ab s.m :: R)) => lookI o t.f
      unfold accI at hlk
      have hacc : accCI s.m t = [.int .i64 t.f, .int .i64 t.w, .int .i64 (accO s.m t.f).1, .int .i64 t.s, .int .i64 0, .int .i64 0, .int .i64 0, .int .i64 0, .int .i64 (accO s.m t.f).2.1, .int .i64 (accO s.m t.f).2.2] := rfl
      have hac := HAC.out
      rw [hacc] at hac
      generalize accO s.m t.f = cn at *
      obtain ⟨a1, a2, a3⟩ := cn
      dsimp only at hlk hac
      have HAC := Lib.hid hac
      have HLK := Lib.hid hlk
      clear hlk hacc hac
      go_wp2
      refine wp_region_draws (fun L v wc => Own wc (Pb (L 7) (L 8) (v 7) 101 [.int .i64 0, .int .i64 0, .int .i64 0] [.int .i64 a1, .int .i64 a2, .int .i64 a3] :: cel wr.heap.size 106 [.int .i64 t.f, .int .i64 t.w, .int .i64 t.s] :: slc 89 10 a' i c' (flat (accCI s.m) (s.R.L.take i)) :: slc 106 3 (some ⟨g, 0, none⟩) s.R.L.length tc (flat tagC s.R.L) :: SfqR rp reb s.R :: IwC b rp ab :: mpI accI ab s.m :: R) ∧ Calm w wc ∧ OVals (fun i => ([some (.pointer (some ⟨b, 0, none⟩)), some (.pointer (some ⟨b, 0, none⟩)), some (.pointer (some ⟨b, 1, none⟩)), some (.map (some ab)), some (.pointer (some ⟨wr.heap.size, 0, none⟩)), some (.int .i64 t.f), some (.agg #[.int .i64 a1, .int .i64 a2, .int .i64 a3]), none, none] : List (Option Value)).getD i none) L v) (by kernel_rfl) (by kernel_rfl) (by kernel_rfl) ?h0 ?step ?fin
      case h0 => exact ⟨Pb.no oA.drew, qcalm_drew K3, OVals.no⟩
      case step =>
        refine ⟨DrawStep.mk rfl ?_, DrawStep.mk rfl ?_, DrawStep.mk rfl ?_, DrawStep.mk rfl ?_, DrawStep.mk rfl ?_, DrawStep.mk rfl ?_, DrawStep.mk rfl ?_, DrawStep.mk rfl ?_, DrawStep.mk rfl ?_, trivial⟩
        all_goals intro L v actZ wc hL hd hA hI K' hK
        all_goals obtain ⟨oD, kD, hv⟩ := hI
        all_goals simp [Region.binds] at hd
        all_goals have HV := Lib.hid hv
        all_goals clear hv
        · have c0_ := hA.base 0 (by rfl)
          simp only [List.getElem?_toArray, List.getElem?_cons_zero, Option.getD_some] at c0_
          go_simp
          exact hK.out (.pointer (some ⟨b, 0, none⟩)) _ ⟨oD, kD, HV.out.put 0 (fun _ h => some_eq h)⟩
        · have h0_ : L 0 = true := by simp [hd]
          have c17_ : actZ.tmps[17]?.getD undef = .pointer (some ⟨b, 0, none⟩) := (hA.get 0 h0_).trans (HV.out 0 _ rfl h0_)
          go_simp
          exact hK.out (.pointer (some ⟨b, 0, none⟩)) _ ⟨oD, kD, HV.out.put 1 (fun _ h => some_eq h)⟩
        · have h1_ : L 1 = true := by simp [hd]
          have c18_ : actZ.tmps[18]?.getD undef = .pointer (some ⟨b, 0, none⟩) := (hA.get 1 h1_).trans (HV.out 1 _ rfl h1_)
          go_simp
          exact hK.out (.pointer (some ⟨b, 1, none⟩)) _ ⟨oD, kD, HV.out.put 2 (fun _ h => some_eq h)⟩
        · have h2_ : L 2 = true := by simp [hd]
          have c19_ : actZ.tmps[19]?.getD undef = .pointer (some ⟨b, 1, none⟩) := (hA.get 2 h2_).trans (HV.out 2 _ rfl h2_)
          have u_ := (oD.up 5).cell 1
          go_simp
          exact hK.out (.map (some ab)) _ ⟨oD, kD, HV.out.put 3 (fun _ h => some_eq h)⟩
        · have c5_ := hA.base 5 (by rfl)
          simp only [List.getElem?_toArray, List.getElem?_cons_zero, List.getElem?_cons_succ, Option.getD_some] at c5_
          go_simp
          exact hK.out (.pointer (some ⟨wr.heap.size, 0, none⟩)) _ ⟨oD, kD, HV.out.put 4 (fun _ h => some_eq h)⟩
        · have h4_ : L 4 = true := by simp [hd]
          have c21_ : actZ.tmps[21]?.getD undef = .pointer (some ⟨wr.heap.size, 0, none⟩) := (hA.get 4 h4_).trans (HV.out 4 _ rfl h4_)
          have u_ := Own.cell (T := 106) (vs := [.int .i64 t.f, .int .i64 t.w, .int .i64 t.s]) (oD.up 1) 0
          go_simp
          exact hK.out (.int .i64 t.f) _ ⟨oD, kD, HV.out.put 5 (fun _ h => some_eq h)⟩
        · have h3_ : L 3 = true := by simp [hd]
          have c20_ : actZ.tmps[20]?.getD undef = .map (some ab) := (hA.get 3 h3_).trans (HV.out 3 _ rfl h3_)
          have h5_ : L 5 = true := by simp [hd]
          have c22_ : actZ.tmps[22]?.getD undef = .int .i64 t.f := (hA.get 5 h5_).trans (HV.out 5 _ rfl h5_)
          have u_ := HLK.out _ _ (oD.up 6)
          go_simp
          exact hK.out (.agg #[.int .i64 a1, .int .i64 a2, .int .i64 a3]) _ ⟨oD, kD, HV.out.put 6 (fun _ h => some_eq h)⟩
        · rw [hL] at oD
          go_simp
          exact hK.out _ _ ⟨Pb.new oD, qcalm_alloc kD, HV.out.put 7 (fun _ h => by cases h)⟩
        · have h7_ : L 7 = true := by simp [hd]
          have c6_ := hA.get 7 h7_
          have h6_ : L 6 = true := by simp [hd]
          have c23_ : actZ.tmps[23]?.getD undef = .agg #[.int .i64 a1, .int .i64 a2, .int .i64 a3] := (hA.get 6 h6_).trans (HV.out 6 _ rfl h6_)
          rw [h7_, hL] at oD
          obtain ⟨gN, hgN, oN⟩ := Pb.val oD
          rw [hgN] at c6_
          have hgN := Lib.hid hgN
          have n0_ := oN.cell 0
          have n1_ := oN.cell 1
          have n2_ := oN.cell 2
          have nf_ := oN.frozen
          have nl_ := oN.celLt
          go_simp
          have oY := ((oN.setCell 0 (.int .i64 a1)).setCell 1 (.int .i64 a2)).setCell 2 (.int .i64 a3)
          have oQ := Pb.put (l := L 7) (v := v 7) (zs := [.int .i64 0, .int .i64 0, .int .i64 0]) oY h7_ hgN.out
          exact hK.out undef _ ⟨oQ, qcalm_set (qcalm_set (qcalm_set kD)), HV.out.put 8 (fun _ h => by cases h)⟩
      case fin =>
        rintro L v wc hall ⟨oD, kD, hv⟩
        rw [hall 7 (by decide), hall 8 (by decide)] at oD
        obtain ⟨gN, hgN, oN⟩ := Pb.got oD
        clear hv hall oD K3
        simp only [putAll, Act.put, List.setIfInBounds_toArray, List.set_cons_zero, List.set_cons_succ]
        rw [hgN]
        clear hgN
        have t0 := Own.cell (T := 106) (vs := [.int .i64 t.f, .int .i64 t.w, .int .i64 t.s]) (oN.up 1) 0
        have t1 := Own.cell (T := 106) (vs := [.int .i64 t.f, .int .i64 t.w, .int .i64 t.s]) (oN.up 1) 1
        have t2 := Own.cell (T := 106) (vs := [.int .i64 t.f, .int .i64 t.w, .int .i64 t.s]) (oN.up 1) 2
        have n0 := oN.cell 0
        have n1 := oN.cell 1
        have n2 := oN.cell 2
        have oX := oN.alloc (.cells #[.int .i64 t.f, .int .i64 t.w, .int .i64 a1, .int .i64 t.s, .int .i64 0, .int .i64 0, .int .i64 0, .int .i64 0, .int .i64 a2, .int .i64 a3] 89)
        have hnw := Own.news (T := 89) oX
        go_wp2_with (at_builtin; refine wpList_append_slc rfl _ _ rfl Try.accTI rfl (oX.up 3) ⟨wc.heap.size, 0, none⟩ 1 1 [.int .i64 t.f, .int .i64 t.w, .int .i64 a1, .int .i64 t.s, .int .i64 0, .int .i64 0, .int .i64 0, .int .i64 0, .int .i64 a2, .int .i64 a3] rfl rfl ?c1 ?c2 ?c3 ?c4 ?c5)
        case c1 => exact hnw
        case c2 => intro u hu; simp only [List.mem_cons, List.not_mem_nil, or_false] at hu; rcases hu with rfl | rfl | rfl | rfl | rfl | rfl | rfl | rfl | rfl | rfl <;> rfl
        case c3 => unfold maxLen; omega
        case c4 => omega
        case c5 =>
        intro aa cc w5 o5 k5
        rw [HAC.out] at o5
        have K5 := (qcalm_alloc (x := .cells #[.int .i64 t.f, .int .i64 t.w, .int .i64 a1, .int .i64 t.s, .int .i64 0, .int .i64 0, .int .i64 0, .int .i64 0, .int .i64 a2, .int .i64 a3] 89) kD).trans k5
        go_wp2
        go_roundw
        case rel => exact ⟨i + 1, aa, cc, by go_num, by omega, rfl, o5.re [1, 2, 3] 3, K5⟩
        case measure => simp [Lib.intOf]; omega
    · have hin : i = s.R.L.length := by omega
      subst hin
      rw [List.take_length] at oR
      go_wp2
      go_ret
      exact ⟨a', c', rfl, Own.swap (IwR.iff.2 ⟨rp, ab, oR.re [1, 3, 2, 4, 0] 1⟩), kR⟩
end
end Go.Proofs.Ytkmlkpfabkhleaa

/- The reference of chapter 12 and 13: its lists, plain; New, goodWeight, Index. -/
namespace Go.Proofs.Ytkmlkpfabkhleaa
open Go.RowKit
open SP

/-! ### Plain -/
def oldM (f : Int) (O : List Tg) : Int := O.foldl (fun a t => if t.f = f then max a t.s else a) 0
theorem oldM_snoc (f : Int) (O : List Tg) (t : Tg) : oldM f (O ++ [t]) = if t.f = f then max (oldM f O) t.s else oldM f O := by
  unfold oldM; rw [List.foldl_append]; rfl
theorem foldM_ne (f : Int) : ∀ (O : List Tg) (a : Int), (∀ t ∈ O, t.f ≠ f) → O.foldl (fun a t => if t.f = f then max a t.s else a) a = a
  | [], a, _ => rfl
  | t :: O, a, h => by
    rw [List.foldl_cons, if_neg (h t (by simp))]
    exact foldM_ne f O a (fun t ht => h t (by simp [ht]))
theorem foldM_del (f g : Int) (hg : g ≠ f) : ∀ (O : List Tg) (a : Int), (delT f O).foldl (fun a t => if t.f = g then max a t.s else a) a = O.foldl (fun a t => if t.f = g then max a t.s else a) a
  | [], a => rfl
  | t :: O, a => by
    unfold delT
    by_cases h : t.f = f
    · rw [List.filter_cons_of_neg (by simp [h]), List.foldl_cons, if_neg (by rw [h]; exact fun e => hg e.symm)]
      exact foldM_del f g hg O a
    · rw [List.filter_cons_of_pos (by simp [h]), List.foldl_cons, List.foldl_cons]
      exact foldM_del f g hg O _
theorem oldM_del (f g : Int) (O : List Tg) : oldM g (delT f O) = if g = f then 0 else oldM g O := by
  split
  · rename_i h
    subst h
    exact foldM_ne _ _ _ (fun t ht => (mem_delT.1 ht).2)
  · rename_i h
    exact foldM_del f g h O 0
def lowO (by_ : Int) (t : Tg) : Tg := ⟨t.f, t.w, max (t.s - by_) 0⟩
theorem foldM_low (f by_ : Int) (h0 : 0 ≤ by_) : ∀ (O : List Tg) (a : Int), (O.map (lowO by_)).foldl (fun a t => if t.f = f then max a t.s else a) (max (a - by_) 0) = max (O.foldl (fun a t => if t.f = f then max a t.s else a) a - by_) 0
  | [], a => rfl
  | t :: O, a => by
    rw [List.map_cons, List.foldl_cons, List.foldl_cons]
    have e : (if (lowO by_ t).f = f then max (max (a - by_) 0) (lowO by_ t).s else max (a - by_) 0) = max ((if t.f = f then max a t.s else a) - by_) 0 := by
      show (if t.f = f then max (max (a - by_) 0) (max (t.s - by_) 0) else max (a - by_) 0) = _
      split <;> omega
    rw [e]
    exact foldM_low f by_ h0 O _
theorem oldM_low (f by_ : Int) (h0 : 0 ≤ by_) (O : List Tg) : oldM f (O.map (lowO by_)) = max (oldM f O - by_) 0 := by
  have := foldM_low f by_ h0 O 0
  rw [show max ((0 : Int) - by_) 0 = 0 from by omega] at this
  exact this
/-- The lists of the reference say what the state says. -/
structure R12 (S : St) (O : List Tg) : Prop where
  old : ∀ f, oldM f O = S.old f
  act : ∀ t ∈ S.L, S.old t.f = 0
  rng : ∀ t ∈ O, 0 ≤ t.s ∧ t.s ≤ 1099511627776
theorem R12.start : R12 ⟨[], fun _ => 0, 0, 0⟩ [] := ⟨fun _ => rfl, fun t ht => by simp at ht, fun t ht => by simp at ht⟩

/-! ### The block; the lists lie in a pool -/
def RefT (P : SP) (b : Nat) (at_ : Int) (L O : List Tg) (now aw : Int) : SP := ex fun (p : (Option Addr × Nat) × Option Addr × Nat) =>
  st [pu ((TagsAt P p.1.1 L ∧ SlOk p.1.1 p.1.2) ∧ L.length ≤ p.1.2 ∧ (TagsAt P p.2.1 O ∧ SlOk p.2.1 p.2.2) ∧ O.length ≤ p.2.2), cel b 115 [.int .i64 at_, .slice p.1.1 L.length p.1.2, .slice p.2.1 O.length p.2.2, .int .i64 now, .int .i64 aw]]
section
variable {P W' : SP} {W w w' : World} {R : List SP} {b : Nat} {at_ now aw : Int} {L O : List Tg}
theorem RefT.iff : Own w (RefT P b at_ L O now aw :: R) ↔ ∃ a c a2 c2, ((TagsAt P a L ∧ SlOk a c) ∧ L.length ≤ c ∧ (TagsAt P a2 O ∧ SlOk a2 c2) ∧ O.length ≤ c2) ∧ Own w (cel b 115 [.int .i64 at_, .slice a L.length c, .slice a2 O.length c2, .int .i64 now, .int .i64 aw] :: R) := by
  constructor
  · intro o
    obtain ⟨⟨⟨a, c⟩, a2, c2⟩, h⟩ := Own.ex.1 o
    obtain ⟨h1, h2⟩ := Own.pu.1 (Own.st.1 h)
    exact ⟨a, c, a2, c2, h1, h2⟩
  · rintro ⟨a, c, a2, c2, h1, h2⟩
    exact Own.ex.2 ⟨((a, c), a2, c2), Own.st.2 (Own.pu.2 ⟨h1, h2⟩)⟩
theorem RefT.mono {P' : SP} (h : PExtT P P') (o : Own w (RefT P b at_ L O now aw :: R)) : Own w (RefT P' b at_ L O now aw :: R) := by
  obtain ⟨a, c, a2, c2, ⟨h1, h2, h3, h4⟩, h5⟩ := RefT.iff.1 o
  exact RefT.iff.2 ⟨a, c, a2, c2, ⟨⟨h _ _ h1.1, h1.2⟩, h2, ⟨h _ _ h3.1, h3.2⟩, h4⟩, h5⟩
set_option maxHeartbeats 800000 in
theorem refNew12_spec (r : Int) (h1 : 1 ≤ r) (h2 : r ≤ 1099511627776) (o : Own w R) :
    Calls Try.prog 22 #[.int .i64 r] w fun e w' => ∃ b, Ret (.tuple #[.pointer (some ⟨b, 0, none⟩), .int .i64 0]) (RefT P b r [] [] 0 0 :: R) w e w' := by
  have o1 := o.alloc (.cells #[.int .i64 r, .slice none 0 0, .slice none 0 0, .int .i64 0, .int .i64 0] 115)
  go_enter Try.func22, Try.ntmps22
  go_wp2
  go_ret2
  exact ⟨_, rfl, RefT.iff.2 ⟨none, 0, none, 0, ⟨⟨tagsAt_nil _ _, .inl ⟨rfl, rfl⟩⟩, Nat.le_refl _, ⟨tagsAt_nil _ _, .inl ⟨rfl, rfl⟩⟩, Nat.le_refl _⟩, o1⟩, ⟨rfl, rfl, rfl⟩⟩
theorem goodW_spec (x : Int) (w : World) : Calls Try.prog 59 #[.int .i64 x] w (IsRet (.bool (decide (1 ≤ x ∧ x ≤ 16))) w) := by
  by_cases h1 : 1 ≤ x
  · have e : decide (1 ≤ x ∧ x ≤ 16) = decide (x ≤ 16) := by simp [h1]
    rw [e]; clear e
    go_enter Try.func59, Try.ntmps59
    go_wp2
    go_ret
    exact ⟨rfl, rfl⟩
  · have e : decide (1 ≤ x ∧ x ≤ 16) = false := by simp [h1]
    rw [e]; clear e
    go_enter Try.func59, Try.ntmps59
    go_wp2
    go_ret
    exact ⟨rfl, rfl⟩
def IdxRel (L : List Tg) (f T : Int) (w : World) (v : Value) (wr : World) : Prop := ∃ i : Nat, v = .int .i64 (i : Int) ∧ i ≤ L.length ∧ idxT f i (L.drop i) = T ∧ wr = w
set_option maxHeartbeats 800000 in
set_option maxRecDepth 100000 in
theorem index_spec (f : Int) (hL : L.length ≤ 1000) (o : Own w (RefT P b at_ L O now aw :: P :: R)) :
    Calls Try.prog 60 #[.pointer (some ⟨b, 0, none⟩), .int .i64 f] w (IsRet (.int .i64 (idxT f 0 L)) w) := by
  obtain ⟨a, c, a2, c2, ⟨⟨hP, -⟩, hc, -, -⟩, o1⟩ := RefT.iff.1 o
  have c1 := o1.cell 1
  have hT : IdxRel L f (idxT f 0 L) w (.int .i64 0) w := ⟨0, rfl, by omega, rfl, rfl⟩
  generalize idxT f 0 L = T at *
  generalize hn : L.length = n at *
  have Hn := Lib.hid hn
  clear hn
  go_enter Try.func60, Try.ntmps60
  go_wp2
  go_loopw [5] (fun v wr => IdxRel L f T w v wr) (fun v _ => n - (intOf v).toNat)
  case atStart => exact hT
  case round =>
    clear hT
    obtain ⟨i, rfl, hi, hE, rfl⟩ := hrel
    rw [Hn.out] at hi
    have HT := Lib.hid hE
    clear hE
    by_cases hlt : i < n
    · obtain ⟨⟨x, y, z⟩, hx⟩ : ∃ x, L[i]? = some x := ⟨_, List.getElem?_eq_getElem (by rw [Hn.out]; exact hlt)⟩
      obtain ⟨g, so, hg, d0, d1, d2⟩ := hP _ _ (o1.up 1) i _ hx
      subst hg
      have HD := Lib.hid (drop_cons hx)
      clear hx
      dsimp only at d0 d1 d2
      by_cases he : x = f
      · subst he
        go_wp2
        go_ret
        refine ⟨?_, rfl⟩
        rw [← HT.out, HD.out, idxT, if_pos rfl]; rfl
      · have heb : (x == f) = false := by simpa using he
        go_wp2
        go_roundw
        case rel => exact ⟨i + 1, by go_num, by rw [Hn.out]; omega, by rw [← HT.out, HD.out, idxT, if_neg he], rfl⟩
        case measure => simp [intOf]; omega
    · go_wp2
      go_ret
      refine ⟨?_, rfl⟩
      rw [← HT.out, List.drop_eq_nil_of_le (by rw [Hn.out]; omega)]; rfl
end
end Go.Proofs.Ytkmlkpfabkhleaa

/- The copies: the reference's, the program's; the program's SetWeight and Rebased. -/
namespace Go.Proofs.Ytkmlkpfabkhleaa
open Go.RowKit
open SP
section
variable {P : SP} {W w w' : World} {R : List SP} {b : Nat} {at_ now aw reb : Int} {L O : List Tg} {S : St}
end
section
variable {f : Tg → Value} {w w' : World} {R : List SP} {mb : Nat} {m : List (Int × Tg)}
set_option maxHeartbeats 1600000 in
set_option maxRecDepth 100000 in
theorem cloneT_spec (o : Own w (mpI f mb m :: R)) : Calls Try.prog 69 #[.map (some mb)] w (ClonePost f mb m R w) := by
  obtain ⟨es, clock, h1, h2, h3, o1⟩ := Own.mpI.1 o
  have hb := o1.blk
  have hq := fun w => run_eql_map_nil_sl (P := Try.prog) w 123 _ _ (some mb) Try.underlying123
  have hfin : Own (w.alloc (.map es clock)) (mpI f w.heap.size m :: mpI f mb m :: R) := Own.mpI.2 ⟨es, clock, h1, h2, h3, o.alloc _⟩
  go_enter Try.func69, Try.ntmps69
  go_wp2
  rw [run_callFunc_extern Try.func95 (by kernel_rfl) (by kernel_rfl) (by kernel_rfl) (e := Extern.MapsClone.clone) (by kernel_rfl), run_maps_clone_sl w _ hb]
  simp only [Result.andThen]
  rw [Oper.upon_value]
  go_wp2
  rw [run_typeAssert_map_sl _ 123 _ _ _ _ Try.underlying123]
  simp only [Result.andThen]
  rw [Oper.upon_value]
  go_wp2
  go_ret
  exact ⟨rfl, hfin, ⟨rfl, rfl, rfl⟩⟩
end
end Go.Proofs.Ytkmlkpfabkhleaa

/- The program's SetWeight and Copy. -/
namespace Go.Proofs.Ytkmlkpfabkhleaa
open Go.RowKit
open SP
section
variable {W w w' : World} {R : List SP} {b : Nat} {reb : Int} {S : St}
def setWR (S : St) (f wt : Int) : Int × St := match fget S.L f with
  | none => (6, S)
  | some t => if wt < 1 ∨ 16 < wt then (1, S) else (0, { S with L := setT ⟨t.f, wt, t.s⟩ S.L })
end
end Go.Proofs.Ytkmlkpfabkhleaa

/- The program's copy. -/
namespace Go.Proofs.Ytkmlkpfabkhleaa
open Go.RowKit
open SP
section
variable {W w w' : World} {R : List SP} {b : Nat} {reb : Int} {S : St}
def CopyS (b : Nat) (reb : Int) (S : St) (R : List SP) (w : World) (e : Ending) (w' : World) : Prop :=
  ∃ p, Ret (.pointer (some ⟨p, 0, none⟩)) (SfqR p reb S :: SfqR b reb S :: R) w e w'
set_option maxHeartbeats 3200000 in
set_option maxRecDepth 100000 in
theorem sfqCopy_spec (o : Own w (SfqR b reb S :: R)) : Calls Try.prog 31 #[.pointer (some ⟨b, 0, none⟩)] w (CopyS b reb S R w) := by
  obtain ⟨ab, rb, m, rem, hm, hold, hur, hok, o1⟩ := SfqR.iff.1 o
  obtain ⟨tm, htm⟩ : ∃ x, x = S.tm := ⟨_, rfl⟩
  obtain ⟨aw, haw⟩ : ∃ x, x = S.aw := ⟨_, rfl⟩
  rw [← htm, ← haw] at o1
  have Hold := Lib.hid hold
  have Hok := Lib.hid hok
  have Hm := Lib.hid hm
  have Htm := Lib.hid htm
  have Haw := Lib.hid haw
  clear hold hok hm htm haw
  have c0 := o1.cell 0
  have c1 := o1.cell 1
  have c2 := o1.cell 2
  have c3 := o1.cell 3
  have c4 := o1.cell 4
  have hlt := o1.celLt
  have oA := o1.alloc (.cells #[.int .i64 reb, .map (some ab), .map (some rb), .int .i64 tm, .int .i64 aw] 126)
  have oAd : Own (w.alloc (.cells #[.int .i64 reb, .map (some ab), .map (some rb), .int .i64 tm, .int .i64 aw] 126)).drew (mpI tagV ab m :: cel w.heap.size 126 [.int .i64 reb, .map (some ab), .map (some rb), .int .i64 tm, .int .i64 aw] :: cel b 126 [.int .i64 reb, .map (some ab), .map (some rb), .int .i64 tm, .int .i64 aw] :: mpI (Value.int .i64) rb rem :: R) := oA.drew.re [2, 0, 1, 3]
  have hsz : (w.alloc (.cells #[.int .i64 reb, .map (some ab), .map (some rb), .int .i64 tm, .int .i64 aw] 126)).drew.heap.size = w.heap.size + 1 := by simp
  have HSZ := Lib.hid hsz
  clear hsz
  have q0 := (oA.up 1).cell 1
  have q1 := (oA.up 1).cell 2
  go_enter Try.func31, Try.ntmps31
  go_wp2
  go_region_held3 (fun w' => w'.cell? ⟨b, 1, none⟩ = some (.map (some ab)) ∧ w'.cell? ⟨b, 2, none⟩ = some (.map (some rb))) (go_keep) (first
    | (go_at_call 69; (with_reducible refine (cloneT_spec oAd).mono ?_); rintro e2 w2 ⟨rfl, o2, k2⟩; rw [HSZ.out] at o2; have x1 := (o2.up 3).cell 1; have x2 := (o2.up 3).cell 2; have o2b := o2.re [4, 0, 1, 2, 3])
    | (go_at_call 70; (with_reducible refine (cloneIL_spec o2b).mono ?_); rintro e3 w3 ⟨rfl, o3, k3⟩; have y1 := (o3.up 5).cell 1; have y2 := (o3.up 5).cell 2; have z1 := (o3.up 4).cell 1; have z2 := (o3.up 4).cell 2; have zf := (o3.up 4).frozen; have zl := (o3.up 4).celLt; have oS := (o3.up 4).setCell 1 (.map (some (w.heap.size + 1))); have s1 := (oS.up 5).cell 1; have s2 := (oS.up 5).cell 2; have s3 := oS.cell 2; have sf := oS.frozen; have sl := oS.celLt; have oS2 := oS.setCell 2 (.map (some w2.heap.size)); have t1 := (oS2.up 5).cell 1; have t2 := (oS2.up 5).cell 2))
  go_wp2
  go_ret
  have K := Calm.trans k2 k3
  refine ⟨w.heap.size, rfl, ?_, ⟨K.os, K.tape, K.output⟩⟩
  rw [Htm.out, Haw.out] at oS2
  have oX := oS2.re [5, 4, 2, 0, 3, 1]
  have oY : Own _ (SfqR b reb S :: cel w.heap.size 126 [.int .i64 reb, .map (some (w.heap.size + 1)), .map (some w2.heap.size), .int .i64 S.tm, .int .i64 S.aw] :: mpI tagV (w.heap.size + 1) m :: mpI (Value.int .i64) w2.heap.size rem :: R) := SfqR.iff.2 ⟨ab, rb, m, rem, Hm.out, Hold.out, hur, Hok.out, oX⟩
  exact SfqR.iff.2 ⟨_, _, m, rem, Hm.out, Hold.out, hur, Hok.out, oY.re [1, 2, 3, 0]⟩
end
end Go.Proofs.Ytkmlkpfabkhleaa
