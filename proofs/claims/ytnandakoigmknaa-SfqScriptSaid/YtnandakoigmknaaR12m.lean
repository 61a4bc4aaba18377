/- SfqScript: the walk of 'same'. -/
import Derived.Test.YtnandakoigmknaaR12l
import Derived.Test.YtnandakoigmknaaEqT
namespace Go.Proofs.Ytnandakoigmknaa
open Go.RowKit
open SP
section
variable {P S1 S2 : SP} {W w w' : World} {R : List SP} {b rb cb : Nat} {reb : Int} {O : List Tg} {S : St}
theorem equalT_same {L : List Tg} {a a' : Option Addr} {n c c' : Nat} (h1 : TagsAt S1 a L) (h2 : TagsAt S2 a' L) (hn : n = L.length) (hl : n ≤ 1000) (o : Own w (S1 :: S2 :: R)) :
    Calls Try.prog 32 #[.slice a n c, .slice a' n c'] w (Ret (.bool true) (S1 :: S2 :: R) w) := by
  refine (equalT_spec h1 h2 hn hn hl o (o.up 1)).mono ?_
  rintro e1 w1 ⟨rfl, m, rfl⟩
  exact ⟨by simp, o.drewN m, ⟨rfl, rfl, rfl⟩⟩
set_option maxHeartbeats 3200000 in
set_option maxRecDepth 100000 in
theorem same13_spec (o : Own w (SfqR b reb S :: RefT P rb reb S.L O S.tm S.aw :: P :: R)) :
    Calls Try.prog 41 #[.pointer (some ⟨b, 0, none⟩), .pointer (some ⟨rb, 0, none⟩)] w (Ret (.bool true) (SfqR b reb S :: RefT P rb reb S.L O S.tm S.aw :: P :: R) w) := by
  have hlen := (SfqR.ok o).ok.len
  obtain ⟨a, c, a2, c2, ⟨⟨hP1, hs1⟩, hc1, hP2, hc2⟩, o0⟩ := RefT.iff.1 (o.re [1, 0, 2])
  have o1 := o0.re [1, 0, 2]
  have oF := o1.drew
  have d1 := o0.cell 1
  have d3 := o0.cell 3
  have d4 := o0.cell 4
  have hTags := sfqTags_spec oF
  obtain ⟨L, hL⟩ : ∃ L, L = S.L := ⟨_, rfl⟩
  obtain ⟨tm, htm⟩ : ∃ x, x = S.tm := ⟨_, rfl⟩
  obtain ⟨aw, haw⟩ : ∃ x, x = S.aw := ⟨_, rfl⟩
  unfold TagsPost at hTags
  rw [← hL] at hP1 hc1 d1 hlen hTags
  rw [← htm] at d3 hTags
  rw [← haw] at d4 hTags
  have HL := Lib.hid hL
  have HTM := Lib.hid htm
  have HAW := Lib.hid haw
  have HT := fun w R => @sfqTime_spec w b reb S R
  have HR := fun w R => @sfqRebased_spec w R b reb S
  rw [← htm] at HT
  rw [← haw] at HR
  clear hL htm haw
  go_enter Try.func41, Try.ntmps41
  go_wp2
  go_region_held3 (fun w' => w'.cell? ⟨rb, 1, none⟩ = some (.slice a L.length c) ∧ w'.cell? ⟨rb, 3, none⟩ = some (.int .i64 tm) ∧ w'.cell? ⟨rb, 4, none⟩ = some (.int .i64 aw)) (go_keep) (first
    | (go_at_call 31; (with_reducible refine hTags.mono ?_); rintro e2 w2 ⟨at_, ct, rfl, o2, k2⟩; have p1 := (o2.up 2).cell 1; have p3 := (o2.up 2).cell 3; have p4 := (o2.up 2).cell 4; have hEq := equalT_same (c := ct) (c' := c) (tagsAt_slc at_ L.length ct L rfl) hP1 rfl (by omega) (o2.re [0, 3, 1, 2]))
    | (go_at_call 32; (with_reducible refine hEq.mono ?_); rintro e3 w3 ⟨rfl, o3, k3⟩; have q1 := (o3.up 3).cell 1; have q3 := (o3.up 3).cell 3; have q4 := (o3.up 3).cell 4; have hTi := HT _ _ (o3.up 2); have hRe := HR _ _ (o3.up 2))
    | (go_at_call 38; (with_reducible refine hTi.mono ?_); rintro e4 w4 ⟨rfl, rfl⟩)
    | (go_at_call 66; (with_reducible refine hRe.mono ?_); rintro e5 w5 ⟨rfl, rfl⟩))
  go_wp2
  go_ret
  have K := Calm.trans k2 k3
  have e1 := HL.out
  have e2 := HTM.out
  have e3 := HAW.out
  subst e1 e2 e3
  have oX := o3.re [0, 3, 1, 2] 1
  have oY : Own w3 (RefT P rb reb S.L O S.tm S.aw :: P :: SfqR b reb S :: R) := RefT.iff.2 ⟨a, c, a2, c2, ⟨⟨hP1, hs1⟩, hc1, hP2, hc2⟩, oX⟩
  exact ⟨by simp, oY.re [2, 0, 1], ⟨K.os, K.tape, K.output⟩⟩
end
end Go.Proofs.Ytnandakoigmknaa
