/- hold.Text, walked on the model. -/
import Derived.Test.YtcholkmididfmaaGreatDoorPw
namespace Go.Proofs.YtcholkmididfmaaGreatDoor
open Go.RowKit Go.Am
set_option linter.unusedVariables false
structure OutAt (w : World) (vs : List Value) (o : Outc) : Prop where
 five : ∃ v0 v1 v2 v3 v4,vs = [v0,v1,v2,v3,v4] ∧ ListsAt w v0 o.logs ∧ IntsAt w v1 o.words ∧ IntsAt w v2 o.owners ∧ IntsAt w v3 o.status ∧ ListsAt w v4 o.queues
theorem thrs_step (logs : List (List Int)) (ss : List Int) (k : Nat) (s : Int) (h : ss[k]? = some s) : thrsR logs k (ss.drop k) = thrR logs k s ++ thrsR logs (k + 1) (ss.drop (k + 1)) := by
 have hlt : k < ss.length := by
  rcases qm k ss.length with h1 | h1
  ·exact h1
  ·rw [qr h1] at h; cases h
 rw [List.drop_eq_getElem_cons hlt]
 rw [qt hlt] at h
 rw [Option.some.inj h]
 rfl
theorem ques_step (qs : List (List Int)) (k : Nat) (q : List Int) (h : qs[k]? = some q) : quesR k (qs.drop k) = lineR (queB ++ Lib.itoa k) q ++ quesR (k + 1) (qs.drop (k + 1)) := by
 have hlt : k < qs.length := by
  rcases qm k qs.length with h1 | h1
  ·exact h1
  ·rw [qr h1] at h; cases h
 rw [List.drop_eq_getElem_cons hlt]
 rw [qt hlt] at h
 rw [Option.some.inj h]
 rfl
theorem thr_data (a b : List UInt8) : (⟨#[116,104,114,101,97,100,32]⟩ ++ ⟨a.toArray⟩ ++ ⟨#[58,32]⟩ ++ ⟨b.toArray⟩ : ByteArray) = ⟨(thrB ++ a ++ [58,32] ++ b).toArray⟩ := by
 show (⟨thrB.toArray⟩ ++ ⟨a.toArray⟩ ++ ⟨[58,32].toArray⟩ ++ ⟨b.toArray⟩ : ByteArray) = _
 rw [cat_data,cat_data,cat_data]
theorem que_data (a : List UInt8) : (⟨#[113,117,101,117,101,32]⟩ ++ ⟨a.toArray⟩ : ByteArray) = ⟨(queB ++ a).toArray⟩ := cat_data queB a
set_option maxHeartbeats 8000000 in
set_option maxRecDepth 1000000 in
theorem text_walk (w : World) (v0 v1 v2 v3 v4 : Value) (o : Outc) (ho : OutOk o) (htab : Tab w) (h0 : ListsAt w v0 o.logs) (h1 : IntsAt w v1 o.words) (h2 : IntsAt w v2 o.owners) (h3 : IntsAt w v3 o.status) (h4 : ListsAt w v4 o.queues) :
 Calls Tryz.prog 14 #[.agg #[v0,v1,v2,v3,v4]] w fun e w' => e = .returned (.string ⟨(textR o).toArray⟩) ∧ Below w.heap.size w w' := by
 have htl := text_len ho
 have hss := (listB_is ho.status).1
 have hqq := ho.queues.1
 have e16 : ∀ args w,(callFunc 39 args).run Tryz.prog w = .ok (.enter 39 args) w := enters_of Tryz.func39 (by kernel_rfl) rfl
 have e20 : ∀ args w,(callFunc 43 args).run Tryz.prog w = .ok (.enter 43 args) w := enters_of Tryz.func43 (by kernel_rfl) rfl
 have e21 : ∀ args w,(callFunc 44 args).run Tryz.prog w = .ok (.enter 44 args) w := enters_of Tryz.func44 (by kernel_rfl) rfl
 have e22 : ∀ args w,(callFunc 45 args).run Tryz.prog w = .ok (.enter 45 args) w := enters_of Tryz.func45 (by kernel_rfl) rfl
 obtain ⟨so0,cap0,rfl,g0⟩ := h0
 obtain ⟨so3,cap3,rfl,g3⟩ := id h3
 obtain ⟨so4,cap4,rfl,g4⟩ := h4
 go_enter Tryz.func14,Tryz.ntmps14
 go_wp2
 obtain ⟨bx,hbx⟩ : ∃ bx : Obj,bx = .cells #[.slice so0 o.logs.length cap0,v1,v2,.slice so3 o.status.length cap3,.slice so4 o.queues.length cap4] 43 := ⟨_,rfl⟩
 have hsz1 : (w.alloc bx).heap.size = w.heap.size + 1 := by simp
 have hb1 : Below w.heap.size w (w.alloc bx) := (Below.refl _ w).alloc (qf _) _
 have hbox : (w.alloc bx).heap[w.heap.size]? = some bx := heap_alloc_new w _
 obtain ⟨Wb,hWb⟩ : ∃ Wb,Wb = w.alloc bx := ⟨_,rfl⟩
 rw [← hWb] at hsz1 hb1 hbox
 have hbx0 : ∀ wr,Below (w.heap.size + 1) Wb wr → wr.heap[w.heap.size]? = some (.cells #[.slice so0 o.logs.length cap0,v1,v2,.slice so3 o.status.length cap3,.slice so4 o.queues.length cap4] 43 (0,0)) := fun wr hb => by
  rw [hb.block w.heap.size (by omega),hbox,hbx]
 have hlow : ∀ wr,Below (w.heap.size + 1) Wb wr → Below w.heap.size w wr := fun wr hb => hb1.trans (hb.mono (by omega))
 go_loopw [14] (fun i wr => ∃ (k : Nat) (acc : List UInt8),k ≤ o.status.length ∧ i = .int .i64 k ∧ Lib.IsBuilder 85 5 (w.heap.size + 1) (w.heap.size + 1) (Lib.byteCells acc) wr ∧ w.heap.size + 1 ≤ wr.heap.size ∧ Below (w.heap.size + 1) Wb wr ∧
  acc ++ (thrsR o.logs k (o.status.drop k) ++ (lineR wordsB o.words ++ (lineR ownB o.owners ++ quesR 0 o.queues))) = textR o) (fun i _ => o.status.length - (intOf i).toNat)
 case atStart =>
  have hf := Lib.fresh_isBuilder 85 5 Wb
  rw [hsz1] at hf
  refine ⟨0,[],Nat.zero_le _,rfl, ?_, ?_, ?_,rfl⟩
  ·rw [← hbx,← hWb]; exact hf
  ·rw [← hbx,← hWb]; simp; omega
  ·rw [← hbx,← hWb]; exact (Below.refl _ Wb).alloc (by omega) _
 case round =>
  obtain ⟨k,acc,hk,rfl,hIr,hszr,hbr,hacc⟩ := hrel
  have hbw := hbx0 wr hbr
  have c0 : wr.cell? ⟨w.heap.size,0,none⟩ = some (.slice so0 o.logs.length cap0) := by rw [Lib.cell_of_heap hbw]; rfl
  have c1 : wr.cell? ⟨w.heap.size,1,none⟩ = some v1 := by rw [Lib.cell_of_heap hbw]; rfl
  have c2 : wr.cell? ⟨w.heap.size,2,none⟩ = some v2 := by rw [Lib.cell_of_heap hbw]; rfl
  have c4 : wr.cell? ⟨w.heap.size,4,none⟩ = some (.slice so4 o.queues.length cap4) := by rw [Lib.cell_of_heap hbw]; rfl
  have hal : acc.length ≤ 50000000 := by
   have := congrArg List.length hacc
   rw [qo] at this
   omega
  by_cases hlt : k < o.status.length
  ·obtain ⟨B3,o3,rfl,hB3,hat3⟩ := g3 (by intro h; rw [h] at hlt; simp at hlt)
   have hx : o.status[k]? = some o.status[k] := qt hlt
   have hsok := okB_is ((listB_is ho.status).2 o.status[k] (List.getElem_mem hlt))
   have hkok := okB_is (nat_ok (t := k) (by have := (listB_is ho.status).1; omega))
   have hkn := itoa_len (nat_ok (t := k) (by have := (listB_is ho.status).1; omega))
   have hsn := itoa_len ((listB_is ho.status).2 o.status[k] (List.getElem_mem hlt))
   generalize o.status[k] = s at hx hsok hsn
   have hst := thrs_step o.logs o.status k s hx
   have hc3 : wr.cell? ⟨B3,o3 + k,none⟩ = some (.int .i64 s) := by
    rw [World.cell?_of_block (w := w) ((hlow wr hbr).block B3 hB3)]
    exact hat3 k _ (by rw [List.getElem?_map,hx]; rfl)
   have hkl : (k : Int) < o.status.length := by omega
   by_cases hlk : k < o.logs.length
   ·obtain ⟨B0,o0,us,rfl,hB0,hat0,hlen0,hus0⟩ := g0 (by intro h; rw [h] at hlk; simp at hlk)
    have hu : us[k]? = some (us[k]'(by omega)) := qt _
    have hl : o.logs[k]? = some o.logs[k] := qt hlk
    have hui := hus0 k _ _ hu hl
    have hgd : o.logs.getD k [] = o.logs[k] := by rw [qi,hl]; rfl
    have hlok := ho.logs.2 _ (List.getElem_mem hlk)
    generalize o.logs[k] = lg at hl hui hgd hlok
    generalize us[k]'(by omega) = u at hu hui
    have hc0 : wr.cell? ⟨B0,o0 + k,none⟩ = some u := by
     rw [World.cell?_of_block (w := w) ((hlow wr hbr).block B0 hB0)]
     exact hat0 k _ hu
    have hkl0 : (k : Int) < o.logs.length := by omega
    go_wp2_with (go_at_fn 43; refine (Tryz.strconv_Itoa k hkok.1 hkok.2 _ (htab.below (hlow wr hbr))).mono ?_; rintro e W2 ⟨rfl,kk,os,rfl⟩)
    have hb2 := hbr.trans ((below_grow wr kk os).mono hszr)
    have hI2 := builder_kept hIr (below_grow wr kk os)
    have hs2 := Nat.le_trans hszr (below_grow wr kk os).size
    generalize Sort.grow (wr.drewN kk) os = W2 at hb2 hI2 hs2 ⊢
    go_wp2_with (go_at_fn 43; refine (Tryz.strconv_Itoa s hsok.1 hsok.2 _ (htab.below (hlow W2 hb2))).mono ?_; rintro e W3 ⟨rfl,kk3,os3,rfl⟩)
    have hb3 := hb2.trans ((below_grow W2 kk3 os3).mono hs2)
    have hI3 := builder_kept hI2 (below_grow W2 kk3 os3)
    have hs3 := Nat.le_trans hs2 (below_grow W2 kk3 os3).size
    generalize Sort.grow (W2.drewN kk3) os3 = W3 at hb3 hI3 hs3 ⊢
    have hn : acc.length + (lineR (thrB ++ Lib.itoa k ++ [58,32] ++ Lib.itoa s) lg).length ≤ 100000000 := by
     have := congrArg List.length hacc
     rw [hst,thrR,hgd] at this
     simp only [qo] at this ⊢
     omega
    go_wp2_with (go_at_fn 39; rw [thr_data]; refine (line_walk (w.heap.size + 1) (w.heap.size + 1) acc (thrB ++ Lib.itoa k ++ [58,32] ++ Lib.itoa s) u lg w W3 (hlow W3 hb3) (by omega) htab hI3 hs3 (hui.toK (hlow W3 hb3) (by omega) _) hlok hn).mono ?_; rintro e W4 ⟨rfl,hI4,hb4,hk4⟩)
    go_wp2
    go_roundw
    case rel =>
     refine ⟨k + 1,_,hlt,by simp,hI4,Nat.le_trans hs3 hk4.1,hb3.trans hb4, ?_⟩
     rw [← hacc,hst,thrR,hgd]
     simp only [List.append_assoc]
    case measure =>
     simp only [RowKit.intOf]
     omega
   ·have hui : IntsAt w (.slice none 0 0) [] := ⟨none,0,rfl,fun h => absurd rfl h⟩
    have hgd : o.logs.getD k [] = [] := by rw [qi,qr (by omega)]; rfl
    have hkl0 : ¬ (k : Int) < o.logs.length := by omega
    go_wp2_with (go_at_fn 43; refine (Tryz.strconv_Itoa k hkok.1 hkok.2 _ (htab.below (hlow wr hbr))).mono ?_; rintro e W2 ⟨rfl,kk,os,rfl⟩)
    have hb2 := hbr.trans ((below_grow wr kk os).mono hszr)
    have hI2 := builder_kept hIr (below_grow wr kk os)
    have hs2 := Nat.le_trans hszr (below_grow wr kk os).size
    generalize Sort.grow (wr.drewN kk) os = W2 at hb2 hI2 hs2 ⊢
    go_wp2_with (go_at_fn 43; refine (Tryz.strconv_Itoa s hsok.1 hsok.2 _ (htab.below (hlow W2 hb2))).mono ?_; rintro e W3 ⟨rfl,kk3,os3,rfl⟩)
    have hb3 := hb2.trans ((below_grow W2 kk3 os3).mono hs2)
    have hI3 := builder_kept hI2 (below_grow W2 kk3 os3)
    have hs3 := Nat.le_trans hs2 (below_grow W2 kk3 os3).size
    generalize Sort.grow (W2.drewN kk3) os3 = W3 at hb3 hI3 hs3 ⊢
    have hn : acc.length + (lineR (thrB ++ Lib.itoa k ++ [58,32] ++ Lib.itoa s) []).length ≤ 100000000 := by
     have := congrArg List.length hacc
     rw [hst,thrR,hgd] at this
     simp only [qo] at this ⊢
     omega
    go_wp2_with (go_at_fn 39; rw [thr_data]; refine (line_walk (w.heap.size + 1) (w.heap.size + 1) acc (thrB ++ Lib.itoa k ++ [58,32] ++ Lib.itoa s) (.slice none 0 0) [] w W3 (hlow W3 hb3) (by omega) htab hI3 hs3 (hui.toK (hlow W3 hb3) (by omega) _) rfl hn).mono ?_; rintro e W4 ⟨rfl,hI4,hb4,hk4⟩)
    go_wp2
    go_roundw
    case rel =>
     refine ⟨k + 1,_,hlt,by simp,hI4,Nat.le_trans hs3 hk4.1,hb3.trans hb4, ?_⟩
     rw [← hacc,hst,thrR,hgd]
     simp only [List.append_assoc]
    case measure =>
     simp only [RowKit.intOf]
     omega
  ·have hk : k = o.status.length := by omega
   subst hk
   have hlt2 : ¬ ((o.status.length : Int) < o.status.length) := by omega
   have hacc1 : acc ++ (lineR wordsB o.words ++ (lineR ownB o.owners ++ quesR 0 o.queues)) = textR o := by
    rw [← hacc,List.drop_length]; rfl
   have hn : acc.length + (lineR wordsB o.words).length ≤ 100000000 := by
    have := congrArg List.length hacc1
    simp only [qo] at this ⊢
    omega
   go_wp2_with (go_at_fn 39; refine (line_walk (w.heap.size + 1) (w.heap.size + 1) acc wordsB v1 o.words w wr (hlow wr hbr) (by omega) htab hIr hszr (h1.toK (hlow wr hbr) (by omega) _) ho.words hn).mono ?_; rintro e W1 ⟨rfl,hI1,hb1',hk1⟩; have hb1 := hbr.trans hb1'; have hs1 := Nat.le_trans hszr hk1.1; have c22 : W1.cell? ⟨w.heap.size,2,none⟩ = some v2 := (by rw [Lib.cell_of_heap (hbx0 W1 hb1)]; rfl))
   have hwlt : w.heap.size + 1 < W1.heap.size := by
    rcases hI1 with h | h
    ·exact h.lt
    ·exact h.lt
   go_wp2_with (go_at_fn 44; refine (wide_walk v2 o.owners W1 (h2.below (hlow W1 hb1)) (listB_is ho.owners).1).mono ?_; rintro e W2 ⟨u2,rfl,hu2,hb2'⟩)
   have hb2 := hb1.trans (hb2'.mono hs1)
   have hI2 := builder_kept hI1 hb2'
   have hs2 := Nat.le_trans hs1 hb2'.size
   have hn : (acc ++ lineR wordsB o.words).length + (lineR ownB o.owners).length ≤ 100000000 := by
    have := congrArg List.length hacc1
    simp only [qo] at this ⊢
    omega
   go_wp2_with (go_at_fn 39; refine (line_walk (w.heap.size + 1) (w.heap.size + 1) (acc ++ lineR wordsB o.words) ownB u2 o.owners w W2 (hlow W2 hb2) (by omega) htab hI2 hs2 (hu2 _ _ hwlt) ho.owners hn).mono ?_; rintro e W3 ⟨rfl,hI3,hb3',hk3⟩; have hb3 := hb2.trans hb3'; have hs3 := Nat.le_trans hs2 hk3.1; have c44 : W3.cell? ⟨w.heap.size,4,none⟩ = some (.slice so4 o.queues.length cap4) := (by rw [Lib.cell_of_heap (hbx0 W3 hb3)]; rfl))
   have hacc3 : acc ++ lineR wordsB o.words ++ lineR ownB o.owners ++ quesR 0 o.queues = textR o := by
    rw [← hacc1]; simp only [List.append_assoc]
   clear hn hacc hacc1 hb1' hb2' hb3' hk1 hk3 hb2 hI2 hs2 c22 hI1 hb1 hs1 hbw c0 c1 c2 c4 hIr hbr
   generalize acc ++ lineR wordsB o.words ++ lineR ownB o.owners = acc3 at hI3 hacc3
   go_wp2
   go_loopw [52] (fun i wr => ∃ (c : Nat) (acc : List UInt8),c ≤ o.queues.length ∧ i = .int .i64 c ∧ Lib.IsBuilder 85 5 (w.heap.size + 1) (w.heap.size + 1) (Lib.byteCells acc) wr ∧ w.heap.size + 1 ≤ wr.heap.size ∧ Below (w.heap.size + 1) Wb wr ∧
    acc ++ quesR c (o.queues.drop c) = textR o) (fun i _ => o.queues.length - (intOf i).toNat)
   case atStart => exact ⟨0,acc3,Nat.zero_le _,rfl,hI3,hs3,hb3,hacc3⟩
   case round =>
    obtain ⟨c,acc,hc,rfl,hIr,hszr,hbr,hacc⟩ := hrel
    have hal : acc.length ≤ 50000000 := by
     have := congrArg List.length hacc
     rw [qo] at this
     omega
    by_cases hlc : c < o.queues.length
    ·obtain ⟨B4,o4,us,rfl,hB4,hat4,hlen4,hus4⟩ := g4 (by intro h; rw [h] at hlc; simp at hlc)
     have hu : us[c]? = some (us[c]'(by omega)) := qt _
     have hl : o.queues[c]? = some o.queues[c] := qt hlc
     have hui := hus4 c _ _ hu hl
     have hlok := ho.queues.2 _ (List.getElem_mem hlc)
     have hqs := ques_step o.queues c _ hl
     generalize o.queues[c] = q at hl hui hlok hqs
     generalize us[c]'(by omega) = u at hu hui
     have hc4 : wr.cell? ⟨B4,o4 + c,none⟩ = some u := by
      rw [World.cell?_of_block (w := w) ((hlow wr hbr).block B4 hB4)]
      exact hat4 c _ hu
     have hkl : (c : Int) < o.queues.length := by omega
     have hkok := okB_is (nat_ok (t := c) (by omega))
     have hkn := itoa_len (nat_ok (t := c) (by omega))
     go_wp2_with (go_at_fn 43; refine (Tryz.strconv_Itoa c hkok.1 hkok.2 _ (htab.below (hlow wr hbr))).mono ?_; rintro e W5 ⟨rfl,kk,os,rfl⟩)
     have hb5 := hbr.trans ((below_grow wr kk os).mono hszr)
     have hI5 := builder_kept hIr (below_grow wr kk os)
     have hs5 := Nat.le_trans hszr (below_grow wr kk os).size
     generalize Sort.grow (wr.drewN kk) os = W5 at hb5 hI5 hs5 ⊢
     have hwlt : w.heap.size + 1 < W5.heap.size := by
      rcases hI5 with h | h
      ·exact h.lt
      ·exact h.lt
     go_wp2_with (go_at_fn 44; refine (wide_walk u q W5 (hui.below (hlow W5 hb5)) (listB_is hlok).1).mono ?_; rintro e W6 ⟨u6,rfl,hu6,hb6'⟩)
     have hb6 := hb5.trans (hb6'.mono hs5)
     have hI6 := builder_kept hI5 hb6'
     have hs6 := Nat.le_trans hs5 hb6'.size
     have hn : acc.length + (lineR (queB ++ Lib.itoa c) q).length ≤ 100000000 := by
      have := congrArg List.length hacc
      rw [hqs] at this
      simp only [qo] at this ⊢
      omega
     go_wp2_with (go_at_fn 39; rw [que_data]; refine (line_walk (w.heap.size + 1) (w.heap.size + 1) acc (queB ++ Lib.itoa c) u6 q w W6 (hlow W6 hb6) (by omega) htab hI6 hs6 (hu6 _ _ hwlt) hlok hn).mono ?_; rintro e W7 ⟨rfl,hI7,hb7,hk7⟩)
     go_wp2
     go_roundw
     case rel =>
      refine ⟨c + 1,_,hlc,by simp,hI7,Nat.le_trans hs6 hk7.1,hb6.trans hb7, ?_⟩
      rw [← hacc,hqs]
      simp only [List.append_assoc]
     case measure =>
      simp only [RowKit.intOf]
      omega
    ·have hc : c = o.queues.length := by omega
     subst hc
     have hlt3 : ¬ ((o.queues.length : Int) < o.queues.length) := by omega
     rw [List.drop_length] at hacc
     have hacc : acc = textR o := by rw [← hacc]; simp [quesR]
     subst hacc
     go_wp2_with (go_at_fn 45; refine (Tryz.Builder_String_any (w.heap.size + 1) (w.heap.size + 1) (textR o) _ hIr hszr).mono ?_; rintro e W8 ⟨rfl,b8⟩)
     go_wp2
     go_ret
     exact ⟨rfl,hlow W8 (hbr.trans b8)⟩
end Go.Proofs.YtcholkmididfmaaGreatDoor
