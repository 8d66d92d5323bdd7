/- HoldCounts: its run. -/
import Derived.Test.YtcholkmididfmaaGreatDoorFd
import Derived.Test.YtcholkmididfmaaGreatDoorFf
import Derived.Test.YtcholkmididfmaaGreatDoorFg
import Derived.Test.YtcholkmididfmaaGreatDoorFh
namespace Go.Proofs.YtcholkmididfmaaGreatDoor
open Go.RowKit Go.Am Go.Sy
set_option linter.unusedVariables false
set_option linter.unusedSimpArgs false
theorem hook10 : F.S.hook 10 = some (litFun toldL 10) := by kernel_rfl
theorem tellOk : CtrOk1 F.S 10 tellCtr := by
 intro E lo wlo args h H K av hh hS hA
 unfold tellCtr at hh
 split at hh
 ·obtain rfl := hA.inv_nil
  exact ⟨.bool true,H,_,h,E,⟨0,by simp only [callA,hook10]; rfl⟩,LeN.refl _ _,qf _,hS,qf _,.a _,hh⟩
 ·exact qa1 hh
theorem lit_arg {E : Env} {x : Int} {p : V} {av : List AVal} {m : Int} (e : x = m) (h : Ers E [p,.i .i64 x] av) : Ers E [p,li m] av := by
 obtain ⟨a,t,rfl,h1,h2⟩ := h.inv_cons
 obtain ⟨b,u,rfl,h3,h4⟩ := h2.inv_cons
 subst e
 cases h3
 exact .cons h1 (.cons (.a _) h4)
theorem pickN_ok {n : Nat} (h1 : 1 ≤ n) (h3 : n ≤ 3) : CtrOk1 F.S 17 (pickN n) := by
 intro E lo wlo args h H K av hh hS hA
 unfold pickN at hh
 split at hh
 ·rename_i p x
  obtain ⟨⟨x0,x3⟩,k2,k1⟩ := hh
  by_cases e2 : x = 2
  ·exact pickOk n 2 h1 h3 (by decide) E lo wlo [p,li 2] h H K av (k2 (by rw [e2]; rfl)) hS (lit_arg e2 hA)
  ·have k1 := k1 (by rw [beq_eq_false_iff_ne]; exact e2)
   by_cases e1 : x = 1
   ·exact pickOk n 1 h1 h3 (by decide) E lo wlo [p,li 1] h H K av (k1.1 (by rw [e1]; rfl)) hS (lit_arg e1 hA)
   ·exact pickOk n 0 h1 h3 (by decide) E lo wlo [p,li 0] h H K av (k1.2 (by rw [beq_eq_false_iff_ne]; exact e1)) hS (lit_arg (by omega) hA)
 ·exact qa1 hh
theorem pickA_ok : CtrOk1 F.S 17 pickA := by
 intro E lo wlo args h H K av hh hS hA
 unfold pickA at hh
 split at hh
 ·rename_i cs hc
  cases h1 : Nat.beq cs.length 10 with
  | true => rw [h1] at hh; exact pickN_ok (by decide) (by decide) E lo wlo args h H K av hh hS hA
  | false =>
   rw [h1] at hh
   simp only [cond_false] at hh
   cases h2 : Nat.beq cs.length 20 with
   | true => rw [h2] at hh; exact pickN_ok (by decide) (by decide) E lo wlo args h H K av hh hS hA
   | false =>
    rw [h2] at hh
    simp only [cond_false] at hh
    cases h3 : Nat.beq cs.length 30 with
    | true => rw [h3] at hh; exact pickN_ok (by decide) (by decide) E lo wlo args h H K av hh hS hA
    | false => rw [h3] at hh; exact qa1 hh
 ·exact qa1 hh
theorem hCtrOk : CtrOk F.S (lookC hCtr) := lookC_ok fun p h => by
 simp only [hCtr,List.mem_cons,List.not_mem_nil,or_false] at h
 rcases h with rfl | rfl | rfl | rfl | rfl | rfl | rfl | rfl | rfl | rfl
 ·exact fewOk
 ·exact tellOk
 ·exact pickA_ok
 ·exact progOk
 ·exact mtOk
 ·exact clOk
 ·exact cloneOk c51Ok
 ·exact cloneOk c52Ok
 ·exact noCtr_ok
 ·exact noCtr_ok
theorem paid7 (i : Nat) (h : i ≤ 3) (s : HS) (hI : (h7 i).I s) (he : Go.Sy.Tree.holds (cutH 7 (h7 i) s) = p7 s i) : Paid (cutH 7 (h7 i) s) := ⟨by rw [he]; exact p7_ok s i h hI⟩
theorem paid11 (i : Nat) (h : i ≤ 2) (s : HS) (hI : (h11 i).I s) (he : Go.Sy.Tree.holds (cutH 11 (h11 i) s) = p11 s i) : Paid (cutH 11 (h11 i) s) := ⟨by rw [he]; exact p11_ok s i h hI⟩
theorem paid16 (i : Nat) (h : i ≤ 2) (s : HS) (hI : (h16 i).I s) (he : Go.Sy.Tree.holds (cutH 16 (h16 i) s) = p16 s i) : Paid (cutH 16 (h16 i) s) := ⟨by rw [he]; exact p16_ok s i h hI⟩
theorem paid19 (i : Nat) (s : HS) (hI : (h19 i).I s) (he : Go.Sy.Tree.holds (cutH 19 (h19 i) s) = p19 s i) : Paid (cutH 19 (h19 i) s) := ⟨by rw [he]; exact p19_ok hI⟩
theorem paid23 (i : Nat) (s : HL) (hI : HK i s) (he : Go.Sy.Tree.holds (cutH 23 (h23 i) s) = p23 i s) : Paid (cutH 23 (h23 i) s) := ⟨by rw [he]; exact p23_ok hI⟩
theorem counts_run (rows : List (List Int)) (l : List Int) {av : List AVal} (hA : Ers (C := cod) (away []) [.tl (T := T) 5 rows,.tl (T := T) 0 l] av) : ∃ n H',runA S n 0 6 av [] = some (.bool true,H') :=
 law_runsS (F := F) (fn := Tryz.f6) (body := b6) (ctr := lookC hCtr) codOk noExt hookLow hCtrOk Tryz.func6 rfl rfl rfl 3000 (args := [.tl (T := T) 5 rows,.tl (T := T) 0 l]) hCuts hSel (show 2 ≤ Tryz.f6.ntmps by decide) (show Tryz.f6.ntmps ≤ 512 by decide) (by kernel_rfl)
  ⟨by rw [hc_e]; exact pe_ok rows l⟩ (fun p hm s hI => by
   simp only [hCuts,List.mem_cons,List.not_mem_nil,or_false] at hm
   rcases hm with rfl | rfl | rfl | rfl | rfl | rfl | rfl | rfl | rfl | rfl | rfl | rfl | rfl | rfl | rfl | rfl | rfl | rfl
   ·exact paid7 0 (by decide) s hI (hc_70 s)
   ·exact paid7 1 (by decide) s hI (hc_71 s)
   ·exact paid7 2 (by decide) s hI (hc_72 s)
   ·exact paid7 3 (by decide) s hI (hc_73 s)
   ·exact paid11 0 (by decide) s hI (hc_110 s)
   ·exact paid11 1 (by decide) s hI (hc_111 s)
   ·exact paid11 2 (by decide) s hI (hc_112 s)
   ·exact paid16 0 (by decide) s hI (hc_160 s)
   ·exact paid16 1 (by decide) s hI (hc_161 s)
   ·exact paid16 2 (by decide) s hI (hc_162 s)
   ·exact paid19 0 s hI (hc_190 s)
   ·exact paid19 1 s hI (hc_191 s)
   ·exact paid19 2 s hI (hc_192 s)
   ·exact paid19 3 s hI (hc_193 s)
   ·exact paid23 0 s hI (hc_230 s)
   ·exact paid23 1 s hI (hc_231 s)
   ·exact paid23 2 s hI (hc_232 s)
   ·exact paid23 3 s hI (hc_233 s)) hA
end Go.Proofs.YtcholkmididfmaaGreatDoor
