/- The law CompScript: the walk (begun). -/
import Derived.Test.YtnandakoigmknaaCsA
import Derived.Test.YtnandakoigmknaaCells
import Derived.Deep.DeepCutAuto
import Derived.Deep.CutBlock
namespace Go.Proofs.Ytnandakoigmknaa
open Go.RowKit
open SP
section
variable {el tg : List (Int × Int)} {tm now : Int} {tags : List Int} {W w w' : World} {R : List SP} {S : SP} {b rb cb : Nat} {reb : Int}

/-- A whole reference order, loaded and stored: kept whole in the walk. -/
noncomputable def refLoad (v : Value) : Sem Value := Instr.loadAt 55 v
noncomputable def refStore (p v : Value) : Sem Unit := Instr.storeAt 55 p v
theorem refLoad_eq (v : Value) : Instr.loadAt 55 v = refLoad v := rfl
theorem refStore_eq (p v : Value) : Instr.storeAt 55 p v = refStore p v := rfl

theorem compNew_bad (r : Int) (h : r < 1 ∨ 1099511627776 < r) (o : Own w R) : Calls Try.prog 13 #[.int .i64 r] w (IsRet (.tuple #[.pointer none, .int .i64 1]) w) := by
  by_cases h1 : r < 1
  · clear h
    go_enter Try.func13, Try.ntmps13
    go_wp2
    go_ret2
    exact ⟨rfl, rfl⟩
  · have h2 : 1099511627776 < r := by omega
    clear h
    go_enter Try.func13, Try.ntmps13
    go_wp2
    go_ret2
    exact ⟨rfl, rfl⟩
theorem refNew_bad (r : Int) (h : r < 1 ∨ 1099511627776 < r) (o : Own w R) : Calls Try.prog 23 #[.int .i64 r] w (IsRet (.tuple #[.pointer none, .int .i64 1]) w) := by
  by_cases h1 : r < 1
  · clear h
    go_enter Try.func23, Try.ntmps23
    go_wp2
    go_ret2
    exact ⟨rfl, rfl⟩
  · have h2 : 1099511627776 < r := by omega
    clear h
    go_enter Try.func23, Try.ntmps23
    go_wp2
    go_ret2
    exact ⟨rfl, rfl⟩
def newErr (r : Int) : Int := if r < 1 ∨ 1099511627776 < r then 1 else 0
/-- New on both sides: the same code, and nothing else of what was owned turns. -/
theorem new_prog (r : Int) (o : Own w R) : Calls Try.prog 13 #[.int .i64 r] w fun e w' => ∃ v : Value, e = .returned (.tuple #[v, .int .i64 (newErr r)]) ∧ Own w' R ∧ Calm w w' := by
  by_cases h : r < 1 ∨ 1099511627776 < r
  · rw [newErr, if_pos h]
    refine (compNew_bad r h o).mono ?_
    rintro e w' ⟨rfl, rfl⟩
    exact ⟨_, rfl, o, Calm.refl w⟩
  · rw [newErr, if_neg h]
    refine (compNew_spec r (by omega) (by omega) o).mono ?_
    rintro e w' ⟨b, rfl, o1, k1⟩
    exact ⟨_, rfl, o1.drop, k1⟩
theorem new_ref (r : Int) (o : Own w R) : Calls Try.prog 23 #[.int .i64 r] w fun e w' => ∃ v : Value, e = .returned (.tuple #[v, .int .i64 (newErr r)]) ∧ Own w' R ∧ Calm w w' := by
  by_cases h : r < 1 ∨ 1099511627776 < r
  · rw [newErr, if_pos h]
    refine (refNew_bad r h o).mono ?_
    rintro e w' ⟨rfl, rfl⟩
    exact ⟨_, rfl, o, Calm.refl w⟩
  · rw [newErr, if_neg h]
    refine (refNew_spec (S := SP.pu True) r (by omega) (by omega) o).mono ?_
    rintro e w' ⟨b, rfl, o1, k1⟩
    exact ⟨_, rfl, o1.drop, k1⟩

def zeroRef : List Value := [.int .i64 0, .slice none 0 0, .int .i64 0, .int .i64 0, .int .i64 0, .int .i64 0, .int .i64 0, .int .i64 0, .int .i64 0, .int .i64 0, .int .i64 0, .int .i64 0, .int .i64 0, .int .i64 0, .int .i64 0, .int .i64 0, .int .i64 0, .int .i64 0, .int .i64 0, .int .i64 0, .int .i64 0, .int .i64 0, .int .i64 0, .int .i64 0, .int .i64 0, .int .i64 0, .int .i64 0, .int .i64 0, .int .i64 0, .int .i64 0, .int .i64 0, .int .i64 0, .int .i64 0, .int .i64 0, .int .i64 0]
def CopyMid (W : World) (cb b rb : Nat) (reb : Int) (S : SP) (el tg : List (Int × Int)) (tm : Int) (tags : List Int) (now : Int) (M : Nat) (v14 v15 : Value) (wc : World) : Prop :=
  ∃ p q : Nat, v14 = .pointer (some ⟨p, 0, none⟩) ∧ v15 = .pointer (some ⟨q, 0, none⟩) ∧ Own wc [OrderR p reb el tg tm, RefR S q reb el tags now, OrderR b reb el tg tm, RefR S rb reb el tags now, S, Ch W cb M, old W] ∧ Calm W wc
theorem calmAS (w : World) (x : Obj) (q : Nat) (CS : List Value) : Calm w ((w.alloc x).setCells q 0 CS) := Calm.trans (⟨rfl, rfl, rfl⟩ : Calm w (w.alloc x)) (Calm.setCells q CS 0 _)
theorem copyMid_of {w w' : World} {cb b rb : Nat} {reb : Int} {S : SP} {el tg : List (Int × Int)} {tm : Int} {tags : List Int} {now : Int} {M p q : Nat} {CS : List Value} {ca : Option Addr} {cc : Nat} (hCS : Hid (CS = refCells reb ca el.length cc tags now)) (hct : tags.length = 32) (hcp : PartsAt S ca el) (hcl : el.length ≤ cc)
    (o : Own w' [cel q 55 CS, OrderR p reb el tg tm, OrderR b reb el tg tm, cel rb 55 CS, S, Ch w cb M, old w]) (k : Calm w w') :
    CopyMid w cb b rb reb S el tg tm tags now M (.pointer (some ⟨p, 0, none⟩)) (.pointer (some ⟨q, 0, none⟩)) w' := by
  have h := hCS.out
  subst h
  have o1 := (RefR.iff (S := S).2 ⟨ca, cc, hct, ⟨hcp, hcl⟩, o⟩).re [3, 0, 1, 2, 4, 5, 6]
  have o2 := (RefR.iff (S := S).2 ⟨ca, cc, hct, ⟨hcp, hcl⟩, o1⟩).re [2, 1, 3, 0, 4, 5, 6]
  exact ⟨p, q, rfl, rfl, o2, k⟩
theorem refCells_one {a : Option Addr} {n c : Nat} : ∀ v ∈ refCells reb a n c tags now, v.oneCell' = true := by
  intro v hv
  unfold refCells at hv
  simp only [List.cons_append, List.nil_append, List.mem_cons, List.mem_append, List.mem_map, List.not_mem_nil, or_false] at hv
  rcases hv with rfl | rfl | ⟨x, -, rfl⟩ | rfl <;> rfl
theorem refCells_len {a : Option Addr} {n c : Nat} (h : tags.length = 32) : (refCells reb a n c tags now).length = 35 := by
  unfold refCells; simp [h]

def ScrRel (W : World) (cb b rb : Nat) (reb : Int) (v : Value) (wr : World) : Prop :=
  ∃ (i : Nat) (S : SP) (el tg : List (Int × Int)) (tm : Int) (tags : List Int) (now : Int), v = .int .i64 (i : Int) ∧ i ≤ 40 ∧ CsRel el tg tm tags now ∧
    Own wr [OrderR b reb el tg tm, RefR S rb reb el tags now, S, Ch W cb (1 + 18 * i), old W] ∧ Calm W wr

attribute [local go_sem ↓] refLoad_eq refStore_eq

set_option maxHeartbeats 6400000 in
set_option maxRecDepth 100000 in
theorem compScript_start (a0 : Option Addr) (len0 cap0 : Nat) (z0 : List Int) (a1 : Option Addr) (n1 c1 : Nat) (L1 : List (Int × Int)) (rebase : Int) (w : World) (w0 : IsRow .i64 w a0 len0 cap0 z0) (hraw : PartsAt (old w) a1 L1) (hn1 : n1 = L1.length) (hn2 : n1 ≤ 9223372036854775807) :
    Calls Try.prog 6 #[.slice a0 len0 cap0, .slice a1 n1 c1, .int .i64 rebase] w fun e w' => e = .returned (.bool true) ∧ Below w.heap.size w w' := by
  have oW := Own.start w
  have HN1 := Lib.hid hn1
  clear hn1
  go_enter Try.func6, Try.ntmps6
  go_wp2_with fail
  refine (genNew_spec a0 len0 cap0 z0 w0 oW).mono ?_
  rintro e1 v1 ⟨cb, rfl, o1, k1⟩
  have o2 := ((o1.alloc (.cells #[.int .i64 1, .int .i64 1099511627776, .int .i64 268435456, .int .i64 1073741824] 2)).up 2).up 2
  go_wp2_with fail
  refine (next_spec w cb 0 4 _ _ (by omega) (by omega) (by omega) o2).mono ?_
  rintro e2 v2 ⟨x, hx0, hx1, rfl, o3, k3⟩
  obtain ⟨j, rfl⟩ : ∃ j : Nat, x = (j : Int) := ⟨x.toNat, by omega⟩
  obtain ⟨reb, hreb, hr1, hr2⟩ : ∃ reb : Int, [Value.int .i64 1, .int .i64 1099511627776, .int .i64 268435456, .int .i64 1073741824][j]? = some (.int .i64 reb) ∧ 1 ≤ reb ∧ reb ≤ 1099511627776 := by
    have : j = 0 ∨ j = 1 ∨ j = 2 ∨ j = 3 := by omega
    rcases this with rfl | rfl | rfl | rfl
    · exact ⟨_, rfl, by omega, by omega⟩
    · exact ⟨_, rfl, by omega, by omega⟩
    · exact ⟨_, rfl, by omega, by omega⟩
    · exact ⟨_, rfl, by omega, by omega⟩
  have c := Own.cell (T := 2) (vs := [.int .i64 1, .int .i64 1099511627776, .int .i64 268435456, .int .i64 1073741824]) (o3.up 2) j hreb
  clear hreb
  go_wp2_with fail
  refine (compNew_spec reb hr1 hr2 (o3.up 2).drop).mono ?_
  rintro e4 v4 ⟨b, rfl, o4, k4⟩
  clear c
  go_wp2_with fail
  refine (refNew_spec (S := SP.pu True) reb hr1 hr2 o4).mono ?_
  rintro e5 v5 ⟨rb, rfl, o5, k5⟩
  have hT : ScrRel w cb b rb reb (.int .i64 0) v5 := ⟨0, SP.pu True, [], [], 0, _, 0, rfl, by omega, CsRel.start, (Own.pu.2 ⟨trivial, o5⟩).re [2, 1, 0, 3, 4], k1.trans (k3.al.trans (k4.trans k5))⟩
  go_wp2
  go_loopw [13] (fun v wr => ScrRel w cb b rb reb v wr) (fun v _ => 40 - (intOf v).toNat)
  case atStart => exact hT
  case round =>
    clear hT o5 k5 o4 k4 o3 k3 o2 o1 k1
    obtain ⟨i, S, el, tg, tm, tags, now, rfl, hi, hC, oR, kR⟩ := hrel
    have HC := Lib.hid hC
    clear hC
    by_cases hlt : i < 40
    · go_wp2_with fail
      refine (act23_spec HC.out (1 + 18 * i) (by omega) oR).mono ?_
      rintro e6 w6 ⟨S1, el1, tg1, tm1, tags1, now1, hE1, hC1, rfl, o6, k6⟩
      have HC1 := Lib.hid hC1
      clear hC1
      go_wp2_with fail
      refine (same23_spec HC1.out o6).mono ?_
      rintro e7 w7 ⟨rfl, o7, k7⟩
      by_cases h20 : i = 20
      · subst h20
        obtain ⟨ca, cc, hct, ⟨hcp, hcl⟩, oF⟩ := RefR.iff.1 (o7.re [1, 0, 2, 3, 4])
        obtain ⟨CS, hCS⟩ : ∃ CS, CS = refCells reb ca el1.length cc tags1 now1 := ⟨_, rfl⟩
        rw [← hCS] at oF
        have hone : CS.toArray.all (·.oneCell') = true := all_oneCell_toArray (by rw [hCS]; exact refCells_one)
        have hlen : CS.length = 35 := by rw [hCS]; exact refCells_len hct
        have rg := oF.rangeAt
        have hld : ∀ w', w'.rangeAt rb 0 CS → (refLoad (.pointer (some ⟨rb, 0, none⟩))).run Try.prog w' = .ok (.agg CS.toArray) w' := fun w' h => run_loadAt_mid w' rb 0 _ CS _ h Try.underlying55 rfl (by rw [hlen]; kernel_rfl)
        have hst : ∀ w' q, w'.there q 0 35 → (refStore (.pointer (some ⟨q, 0, none⟩)) (.agg CS.toArray)).run Try.prog w' = .ok () (w'.setCells q 0 CS) := fun w' q h => by
          unfold refStore
          have := run_storeAt_mid (P := Try.prog) w' q 0 55 CS.toArray (by simpa [hlen] using h) (by rw [List.size_toArray, hlen]; kernel_rfl) hone
          simpa using this
        have HCS := Lib.hid hCS
        have HLEN := Lib.hid hlen
        clear hCS hlen hone
        go_upto_region 13 with fail
        go_cut [14, 15] (fun v14 v15 wc => CopyMid w cb b rb reb S1 el1 tg1 tm1 tags1 now1 (1 + 18 * 20 + 9) v14 v15 wc)
        case first =>
          have hnew : ∀ w' : World, (w'.alloc (.cells zeroRef.toArray 55)).there w'.heap.size 0 35 := fun w' => (Own.start w').alloc (.cells zeroRef.toArray 55) |>.there rfl
          have oB := oF.re [1, 0, 2, 3, 4] |>.drew
          have oA := ((oF.alloc (.cells zeroRef.toArray 55)).re [2, 0, 1, 3, 4, 5]).drew
          have hlt := oF.celLt
          unfold zeroRef at hnew oA
          have rgA := (oA.up 2).rangeAt
          go_region_held3 (fun w' => w'.rangeAt rb 0 CS) (first | go_keep | assumption | (refine World.rangeAt_alloc ?_ _; assumption) | (refine World.rangeAt_setCells_apart ?_ _ _ _ (Or.inl (by first | omega | (simp only [World.size_alloc, World.size_drew] at *; omega))); first | assumption | (refine World.rangeAt_alloc ?_ _; assumption)) | go_keep_ranges) (first
            | (go_at_call 26; (with_reducible refine (compCopy_spec oB).mono ?_); rintro e8 w8 ⟨p, rfl, o8, k8⟩; have rg8 := (o8.up 2).rangeAt; have hlt8 := (o8.up 2).celLt)
            | (go_at_call 26; (with_reducible refine (compCopy_spec oA).mono ?_); rintro e8 w8 ⟨p, rfl, o8, k8⟩; have rg8 := (o8.up 3).rangeAt; have hlt8 := (o8.up 3).celLt; have th8 := (o8.up 2).there (n := 35) rfl))
          all_goals go_wp2
          all_goals go_meet
          all_goals first
            | exact copyMid_of HCS hct hcp hcl ((o8.alloc (.cells zeroRef.toArray 55)).setCells (T := 55) (old := zeroRef) (vs := CS) (by rw [HLEN.out]; rfl)) (kR.trans (k6.trans (k7.trans (Calm.trans ⟨k8.os, k8.tape, k8.output⟩ (calmAS _ _ _ _)))))
            | exact copyMid_of HCS hct hcp hcl (((o8.re [2, 0, 1, 3, 4, 5, 6])).setCells (T := 55) (old := zeroRef) (vs := CS) (by rw [HLEN.out]; rfl)) (kR.trans (k6.trans (k7.trans (Calm.trans ⟨k8.os, k8.tape, k8.output⟩ (Calm.setCells _ CS 0 _)))))
        case rest =>
          obtain ⟨p, q, rfl, rfl, oC, kC⟩ := hcut
          clear rg hld hst oF
          have hC1 := HC1.out
          have HC1b := Lib.hid hC1
          clear hC1
          go_wp2_with fail
          refine (act23_spec HC1b.out (1 + 18 * 20 + 9) (by omega) (oC.re [2, 3, 4, 5, 6, 0, 1])).mono ?_
          rintro e8 w8 ⟨S2, el2, tg2, tm2, tags2, now2, hE2, hC2, rfl, o8, k8⟩
          have HC2 := Lib.hid hC2
          clear hC2
          have oq := RefR.mono hE2 (o8.re [6, 2, 5, 0, 1, 3, 4])
          go_wp2_with fail
          refine (same23_spec HC1b.out (oq.re [2, 0, 1, 3, 4, 5, 6])).mono ?_
          rintro e9 w9 ⟨rfl, o9, k9⟩
          go_wp2
          go_roundw
          case rel => exact ⟨21, S2, el2, tg2, tm2, tags2, now2, by go_num, by omega, HC2.out, (Ch.more (M := 1 + 18 * 21) ((o9.re [5, 3, 4, 2, 6]))).re [5, 6, 1, 2, 3, 0, 4] 2, kC.trans (k8.trans k9)⟩
          case measure => simp [intOf]
      · have h20b : ((i : Int) == 20) = false := by rw [beq_eq_false_iff_ne]; omega
        go_wp2
        go_roundw
        case rel => exact ⟨i + 1, S1, el1, tg1, tm1, tags1, now1, by go_num, by omega, HC1.out, (Ch.more (M := 1 + 18 * (i + 1)) (o7.up 3)).re [1, 2, 3, 0, 4], kR.trans (k6.trans k7)⟩
        case measure => simp [intOf]; omega
    · go_wp2_with fail
      refine (new_prog rebase oR).mono ?_
      rintro e6 w6 ⟨u1, rfl, o6, k6⟩
      go_wp2_with fail
      refine (new_ref rebase o6).mono ?_
      rintro e7 w7 ⟨u2, rfl, o7, k7⟩
      generalize newErr rebase = ec at o7 ⊢
      by_cases h60 : 60 < n1
      · have h60I : (60 : Int) < (n1 : Int) := by omega
        go_wp2_with fail
        refine (awake23_spec o7).mono ?_
        rintro e8 w8 ⟨rfl, o8, k8⟩
        go_wp2
        go_ret
        exact ⟨by simp, (o8.up 4).below (kR.trans (k6.trans (k7.trans k8)))⟩
      · have h60I : ¬ (60 : Int) < (n1 : Int) := by omega
        obtain ⟨er, el', tg', tags', hC, hp1, hp2⟩ := elig_both (reb := reb) (n := n1) (c := c1) HC.out hraw HN1.out (by omega)
        have HC2 := Lib.hid hC
        have HP1 := Lib.hid hp1
        have HP2 := Lib.hid hp2
        clear hC hp1 hp2
        go_wp2_with fail
        refine (HP1.out b _ _ (o7.re [4, 0, 1, 2, 3])).mono ?_
        rintro e8 w8 ⟨rfl, o8, k8⟩
        go_wp2_with fail
        refine (HP2.out S rb _ _ (o8.re [0, 2, 3, 1, 4])).mono ?_
        rintro e9 w9 ⟨S', hE, rfl, o9, k9⟩
        go_wp2_with fail
        refine (same23_spec HC2.out (o9.re [3, 1, 2, 0, 4])).mono ?_
        rintro e10 w10 ⟨rfl, o10, k10⟩
        go_wp2_with fail
        refine (awake23_spec o10).mono ?_
        rintro e11 w11 ⟨rfl, o11, k11⟩
        go_wp2
        go_ret
        exact ⟨by simp, (o11.up 3).below (kR.trans (k6.trans (k7.trans (k8.trans (k9.trans (k10.trans k11))))))⟩
end
end Go.Proofs.Ytnandakoigmknaa
