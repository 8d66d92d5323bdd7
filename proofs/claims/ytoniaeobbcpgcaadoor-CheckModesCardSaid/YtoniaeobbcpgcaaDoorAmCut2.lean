/- A run over trees, parted in the middle of a region whose order is the text's. Generic: over any program. -/
import Derived.Test.YtoniaeobbcpgcaaDoorAmCut
namespace Go.Am

theorem opsA_cons (S : AStat) (call : CallF) (lo : Nat) (ops : List Oper) (o : Oper) (l : List Oper) (ρ : List AVal) (H : Heap) : opsA S call lo ops (o :: l) ρ H =
    match guardA ops ρ o with
    | none => none
    | some false => opsA S call lo ops l (putA ρ o.dst undefA) H
    | some true => match opA S call lo ρ H o with
      | none => none
      | some (v, H') => opsA S call lo ops l (putA ρ o.dst v) H' := by
  rw [opsA]
  rfl

theorem opsA_append {S : AStat} {call : CallF} {lo : Nat} {ops : List Oper} : ∀ {l1 l2 : List Oper} {ρ ρ1 : List AVal} {H H1 : Heap}, opsA S call lo ops l1 ρ H = some (ρ1, H1) → opsA S call lo ops (l1 ++ l2) ρ H = opsA S call lo ops l2 ρ1 H1
  | [], l2, ρ, ρ1, H, H1, h => by
    simp only [opsA, Option.some.injEq, Prod.mk.injEq] at h
    obtain ⟨rfl, rfl⟩ := h
    rfl
  | o :: l1, l2, ρ, ρ1, H, H1, h => by
    rw [List.cons_append, opsA_cons]
    rw [opsA_cons] at h
    cases hg : guardA ops ρ o with
    | none => rw [hg] at h; cases h
    | some b =>
      rw [hg] at h
      cases b with
      | false => exact opsA_append h
      | true =>
        simp only at h ⊢
        cases e : opA S call lo ρ H o with
        | none => rw [e] at h; cases h
        | some x =>
          rw [e] at h
          exact opsA_append h

structure St4 where
  s : St3
  id : Nat
  ops : Array Oper
  rest : List Oper

noncomputable def headF2 (S : AStat) (HT : FuncId → Option HookT) (N k j : Nat) (fn : Func) (body : Code) (av : List AVal) : Option St4 :=
  match headF S HT N k fn body av with
  | none => none
  | some s => match s.l with
    | .region id ops false :: l => (opsF S (callF S HT (execF S HT N)) 0 ops.toList (ops.toList.take j) s.r s.h).map fun x => ⟨⟨l, x.1, x.2⟩, id, ops, ops.toList.drop j⟩
    | _ => none

noncomputable def tailF2 (S : AStat) (HT : FuncId → Option HookT) (M : Nat) (fn : Func) (t : St4) : Option AVal :=
  match opsF S (callF S HT (execF S HT M)) 0 t.ops.toList t.rest t.s.r t.s.h with
  | none => none
  | some (r, h) => tailF S HT M fn ⟨t.s.l, r, h⟩

/-- THE RULE, in the middle of a region: run the head and so many operations; what is held at these places is known by other names; run the rest at those. -/
theorem run_cut2 {S : AStat} {HT : FuncId → Option HookT} (hH : HookSim S HT) {f : FuncId} {fn : Func} {body : Code} (hf : S.P.funcs[f]? = some fn) (hb : fn.body = some body) (hk : S.hook f = none) (hp : S.pol f = .keep) {av : List AVal}
    (N k j M : Nat) (rs rs' : List (Nat × AVal)) (bs bs' : List (Nat × Option ABlk)) (e1 : rs = rs') (e2 : bs = bs')
    (h : (headF2 S HT N k j fn body av).map (fun t => t.s.reads (rs.map (·.1)) (bs.map (·.1))) = some (rs.map (some ·.2), bs.map (some ·.2))) {v : AVal}
    (ht : ((headF2 S HT N k j fn body av).bind fun t => tailF2 S HT M fn { t with s := t.s.put rs' bs' }) = some v) : ∃ n H', runA S n 0 f av [] = some (v, H') := by
  subst e1 e2
  cases hh : headF2 S HT N k j fn body av with
  | none => rw [hh] at h; cases h
  | some t =>
    rw [hh] at h ht
    simp only [Option.map_some, Option.some.injEq] at h
    simp only [Option.bind_some] at ht
    unfold headF2 at hh
    split at hh
    · cases hh
    · rename_i s hs
      split at hh
      · rename_i id ops l hl
        rw [Option.map_eq_some_iff] at hh
        obtain ⟨⟨r1, h1⟩, hops, rfl⟩ := hh
        unfold headF at hs
        cases hc : (Nat.ble av.length fn.ntmps && Nat.ble fn.ntmps 512) with
        | false => rw [hc] at hs; cases hs
        | true =>
          rw [hc] at hs
          simp only [cond_true] at hs
          simp only [Bool.and_eq_true, Nat.ble_eq] at hc
          obtain ⟨g1, g2⟩ := headsF_ok hH (frame_ok av fn.ntmps hc.2) Hp.empty_ok hs
          rw [frame_toL av fn.ntmps hc.2 hc.1, Hp.empty_toL] at g2
          obtain ⟨a1, a2, a3⟩ := opsF_ok (callF_ok hH (execF_ok hH N)) g1.1 g1.2 hops
          simp only at h ht
          have hok : St3.Ok ⟨l, r1, h1⟩ := ⟨a1, a2⟩
          obtain ⟨b1, b2, b3, b4⟩ := Same.put hok (holds_of_reads h)
          unfold tailF2 at ht
          simp only at ht
          split at ht
          · cases ht
          · rename_i r2 h2 hops2
            obtain ⟨c1, c2, c3⟩ := opsF_ok (callF_ok hH (execF_ok hH M)) b1.1 b1.2 hops2
            rw [b3, b4] at c3
            simp only at c3
            -- the region, whole
            have d1 : opsA S (callA S (execA S (max N M))) 0 ops.toList (ops.toList.take j) s.r.toL s.h.toL = some (r1.toL, h1.toL) := opsA_mono (callA_mono (execA_mono (Nat.le_max_left N M))) a3
            have d2 : opsA S (callA S (execA S (max N M))) 0 ops.toList (ops.toList.drop j) r1.toL h1.toL = some (r2.toL, h2.toL) := opsA_mono (callA_mono (execA_mono (Nat.le_max_right N M))) c3
            have d3 := opsA_append (l2 := ops.toList.drop j) d1
            rw [List.take_append_drop, d2] at d3
            have d4 : execA S (max N M + 1) 0 (.region id ops false) s.r.toL s.h.toL = some (.normal, r2.toL, h2.toL) := by
              show stepA S (execA S (max N M)) 0 (.region id ops false) s.r.toL s.h.toL = _
              simp only [stepA, d3, Bool.false_eq_true, if_false, Option.map_some]
            -- the tail
            unfold tailF at ht
            split at ht
            · cases ht
            · cases ht
            · rename_i x r' h' hne hex
              obtain ⟨k1, k2, k3⟩ := execLF_ok hH c1 c2 hex
              rw [b2] at k3
              simp only at k3
              split at ht
              · cases ht
              · rename_i vs hvs
                simp only [Option.some.injEq] at ht
                subst ht
                rw [resultsG_eq S k1 k2] at hvs
                -- together
                have hx : ∀ i, x ≠ .exit i := fun i e => hne i e
                have hrun : RunsL S 0 (s.l) s.r.toL s.h.toL (x, r'.toL, h'.toL) := by
                  rw [hl]
                  exact .inl ⟨_, _, ⟨_, d4⟩, RunsL.of_exec k3⟩
                have hbody := Runs.of_flat (RunsL.heads (lo := 0) (N := N) g2 hrun)
                have hbody' : Runs S ((S.pol f).lo 0 ([] : Heap)) body (av ++ List.replicate (fn.ntmps - av.length) undefA) [] (x, r'.toL, h'.toL) := by
                  rw [hp]
                  exact hbody
                obtain ⟨n, hn⟩ := CallRuns.of_body hf hb hk hbody' hx hvs (r := (tupled vs, h'.toL)) (by rw [hp]; rfl)
                exact ⟨n, _, hn⟩
      · cases hh

end Go.Am
