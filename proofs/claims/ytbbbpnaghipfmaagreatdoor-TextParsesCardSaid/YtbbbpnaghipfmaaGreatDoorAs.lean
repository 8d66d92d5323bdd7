/- errors.As by its contract, over rows. -/
import Derived.Test.YtbbbpnaghipfmaaGreatDoorRw
namespace Go.Proofs.YtbbbpnaghipfmaaGreatDoor
open Go.RowKit Go.Am Go.Sy
set_option linter.unusedVariables false

noncomputable def asCtr : Ctr cod := fun wlo args h K => match args with
  | [.a .nili, .iface q v] => K (.a (.bool false)) h
  | [x, .iface q (.ptr id off)] => match ifaceS x with
    | some (u, .a a) => match nk a, hget h id with
      | some (.p, false), some (.cells cs) =>
        if q = 82 ∧ wlo ≤ id ∧ off < cs.length then
          if u = 65 then K (.b true) (h.set id (some (.cells (cs.take off ++ [.a a] ++ cs.drop (off + 1)))))
          else if u = 144 then K (.b false) h else .stuck "as: what"
        else .stuck "as: where"
      | _, _ => .stuck "as: no pointer"
    | _ => .stuck "as: no error"
  | _ => .stuck "as"
theorem hook34 : F.S.hook 34 = some asHook := by kernel_rfl
theorem asCtr_ok : CtrOk1 F.S 34 asCtr := by
  intro E lo wlo args h H K av hh hS hA
  unfold asCtr at hh
  split at hh
  · rename_i q v
    obtain ⟨a0, as', rfl, h1, hA1⟩ := hA.inv_cons
    obtain ⟨a1, as'', rfl, h2, hA2⟩ := hA1.inv_cons
    obtain rfl := hA2.inv_nil
    cases h1
    exact quiet_out hook34 rfl hS (.a _) hh
  · rename_i x q id off _
    obtain ⟨a0, as', rfl, h1, hA1⟩ := hA.inv_cons
    obtain ⟨a1, as'', rfl, h2, hA2⟩ := hA1.inv_cons
    obtain rfl := hA2.inv_nil
    clear hA hA1 hA2
    split at hh
    · rename_i u a hi
      obtain ⟨w, rfl, hw⟩ := ifaceS_ok h1 hi
      cases hw
      split at hh
      · rename_i cs hn ho
        split at hh
        · rename_i hc
          obtain ⟨rfl, hw, hoff⟩ := hc
          cases h2 with
          | iface h2 =>
          cases h2 with
          | ptr hb =>
          rename_i bb
          obtain ⟨b', xs, g1, gw, g2, g3⟩ := hS.obj id _ (hget_some ho)
          rw [hb] at g1
          simp only [Option.some.injEq] at g1
          subst g1
          have hlo := hS.low id bb hw hb
          have hl := g3.1
          split at hh
          · rename_i hu
            subst hu
            refine ⟨.bool true, H.set bb (some (.cells (splice xs off [a]))), .b true, _, E, ⟨0, ?_⟩, LeN.refl _ _, by simp, hS.upd (hget_some ho) (by simp) ?_ ?_, by simp, .b _, hh⟩
            · show asHook lo [.iface 65 a, .iface 82 (.ptr bb off)] H = _
              unfold asHook
              simp only [hn, g2]
              rw [if_pos ⟨trivial, hlo, by omega⟩]
              rfl
            · intro q hq hne
              rw [List.getElem?_set] at hne
              split at hne
              · rename_i e; rw [← e]; exact hb
              · exact (hne rfl).elim
            · refine ⟨bb, _, hb, gw, by rw [List.getElem?_set, if_pos rfl, if_pos (lt_of_some g2)], ?_⟩
              exact ((g3.take off).append (.cons (.a a) .nil)).append (g3.drop (off + 1))
          · rename_i hu1
            split at hh
            · rename_i hu
              subst hu
              refine ⟨.bool false, H, .b false, _, E, ⟨0, ?_⟩, LeN.refl _ _, by simp, hS, by simp, .b _, hh⟩
              show asHook lo [.iface 144 a, .iface 82 (.ptr bb off)] H = _
              unfold asHook
              simp only [hn, g2]
              rw [if_pos ⟨trivial, hlo, by omega⟩]
              rfl
            · exact (stuck_no hh).elim
        · exact (stuck_no hh).elim
      · exact (stuck_no hh).elim
    · exact (stuck_no hh).elim
  · exact (stuck_no hh).elim
end Go.Proofs.YtbbbpnaghipfmaaGreatDoor
