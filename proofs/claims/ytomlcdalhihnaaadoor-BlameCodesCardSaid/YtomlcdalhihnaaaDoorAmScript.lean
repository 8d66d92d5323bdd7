/- A run over trees with a script: where an operation's value hangs on what is not known, the script says what it is, and an equation is owed; a script may go into a call. Generic: over any program. -/
import Derived.Test.YtomlcdalhihnaaaDoorAmCut
import Derived.Test.YtomlcdalhihnaaaDoorAmDraw5
namespace Go.Am

inductive Act where
  | val (v : AVal)
  | into (l : List (Nat × Nat × Act))
abbrev Scr := List (Nat × Nat × Act)

def Owed : List Prop → Prop
  | [] => True
  | p :: ps => p ∧ Owed ps
theorem owed_append : ∀ {a b : List Prop}, Owed (a ++ b) ↔ Owed a ∧ Owed b
  | [], b => by simp [Owed]
  | p :: a, b => by simp [Owed, owed_append (a := a), and_assoc]

/-- What the script says of this operation, and the rest of it. -/
def pop (rid i : Nat) (sc : Scr) : Option (Act × Scr) :=
  match sc with
  | [] => none
  | (a, b, x) :: rest => bif Nat.beq a rid && Nat.beq b i then some (x, rest) else none

abbrev CallS := Nat → FuncId → List AVal → Hp → Scr → Option ((AVal × Hp) × List Prop)
abbrev OutS := Option ((AExit × Rg × Hp) × List Prop × Scr)
abbrev ExecS := Nat → Code → Rg → Hp → Scr → OutS

noncomputable def sVal (S : AStat) (call : CallT) (lo : Nat) (r : Rg) (h : Hp) (o : Oper) (v : AVal) : Option ((AVal × Hp) × List Prop) :=
  if isNewB o.op then none
  else if isEffB o.op then (effF S call lo r h o.op).map fun x => ((v, x.2), [x.1 = v])
  else some ((v, h), [quietG S (evalF S r) h.get o.op = some v])

noncomputable def sInto (S : AStat) (cs : CallS) (lo : Nat) (r : Rg) (h : Hp) (o : Oper) (l : Scr) : Option ((AVal × Hp) × List Prop) :=
  match o.op with
  | .call c => match c.callee with
    | .value f => match evalF S r f with
      | .fn (.func g) first captured => match S.ext g (first ++ c.args.toList.map (evalF S r) ++ captured) with
        | some _ => none
        | none => cs lo g (first ++ c.args.toList.map (evalF S r) ++ captured) h l
      | _ => none
    | _ => none
  | _ => none

noncomputable def sAct (S : AStat) (call : CallT) (cs : CallS) (lo : Nat) (r : Rg) (h : Hp) (o : Oper) (a : Act) : Option ((AVal × Hp) × List Prop) :=
  match a with
  | .val v => sVal S call lo r h o v
  | .into l => sInto S cs lo r h o l

noncomputable def opS (S : AStat) (call : CallT) (cs : CallS) (lo : Nat) (r : Rg) (h : Hp) (rid i : Nat) (o : Oper) (sc : Scr) : Option ((AVal × Hp) × List Prop × Scr) :=
  match pop rid i sc with
  | none => (opF S call lo r h o).map fun x => (x, [], sc)
  | some (a, sc') => (sAct S call cs lo r h o a).map fun x => (x.1, x.2, sc')

noncomputable def opsS (S : AStat) (call : CallT) (cs : CallS) (lo : Nat) (rid : Nat) (ops : List Oper) : List Oper → Nat → Rg → Hp → Scr → Option ((Rg × Hp) × List Prop × Scr)
  | [], _, r, h, sc => some ((r, h), [], sc)
  | o :: rest, i, r, h, sc =>
    match guardF ops r o with
    | none => none
    | some false => opsS S call cs lo rid ops rest (i + 1) (putF r o.dst undefA) h sc
    | some true =>
      match opS S call cs lo r h rid i o sc with
      | none => none
      | some ((v, h'), ps, sc') =>
        match opsS S call cs lo rid ops rest (i + 1) (putF r o.dst v) h' sc' with
        | none => none
        | some (x, ps', sc'') => some (x, ps ++ ps', sc'')

/-- A drawn region: what the script says of an operation there. -/
noncomputable def drawEffS (S : AStat) (call : CallT) (cs : CallS) (lo : Nat) (r : Rg) (h : Hp) (o : Oper) (a : Option (Act × Scr)) : Option ((AVal × Hp) × List Prop) :=
  match a with
  | none => (effF S call lo r h o.op).map fun x => (x, [])
  | some (a, _) => sAct S call cs lo r h o a
noncomputable def drawQuietS (S : AStat) (r : Rg) (h : Hp) (o : Oper) (a : Option (Act × Scr)) : Option (AVal × List Prop) :=
  match a with
  | none => (quietG S (evalF S r) h.get o.op).map fun v => (v, [])
  | some (.val v, _) => some (v, [quietG S (evalF S r) h.get o.op = some v])
  | some (.into _, _) => none
def scrOf (sc : Scr) (a : Option (Act × Scr)) : Scr :=
  match a with
  | none => sc
  | some (_, sc') => sc'

noncomputable def drawGoS (S : AStat) (call : CallT) (cs : CallS) (lo n0 rid : Nat) (ops : Array Oper) (B : List Nat) : List Oper → Nat → Rg → Hp → Scr → Option (DrawOutF × List Prop × Scr)
  | [], _, r, h, sc => some (⟨[], [], r, h⟩, [], sc)
  | o :: rest, k, r, h, sc =>
    match guardF ops.toList r o with
    | none => none
    | some false => drawGoS S call cs lo n0 rid ops B rest (k + 1) (putF r o.dst undefA) h sc
    | some true =>
      if isNewB o.op then
        match newG S (evalF S r) o.op with
        | none => none
        | some (blk, mk) =>
          match h.get (n0 + k) with
          | some none => drawGoS S call cs lo n0 rid ops B rest (k + 1) (putF r o.dst (mk (n0 + k))) (h.set (n0 + k) (some blk)) sc
          | _ => none
      else if isEffB o.op then
        match drawEffS S call cs lo r (hideF h (hidden ops B n0 k)) o (pop rid k sc) with
        | none => none
        | some ((v, h'), ps) =>
          if h.n ≤ h'.n then
            match drawGoS S call cs lo n0 rid ops B rest (k + 1) (putF r o.dst v) (unhideF h h' (hidden ops B n0 k)) (scrOf sc (pop rid k sc)) with
            | none => none
            | some (x, ps', sc') => some ({ x with touches := (k, touchG S (evalF S r) o.op) :: x.touches }, ps ++ ps', sc')
          else none
      else
        match drawQuietS S r h o (pop rid k sc) with
        | none => none
        | some (v, ps) =>
          match drawGoS S call cs lo n0 rid ops B rest (k + 1) (putF r o.dst v) h (scrOf sc (pop rid k sc)) with
          | none => none
          | some (x, ps', sc') =>
            match readsG (evalF S r) o.op with
            | none => some (x, ps ++ ps', sc')
            | some b => some ({ x with reads := (k, b) :: x.reads }, ps ++ ps', sc')

noncomputable def drawS (S : AStat) (call : CallT) (cs : CallS) (lo rid : Nat) (ops : Array Oper) (r : Rg) (h : Hp) (sc : Scr) : Option ((Rg × Hp) × List Prop × Scr) :=
  let B := befs ops.toList []
  if regionOk ops B && decide (lo ≤ h.n) then
    match (if ops.any (fun o => isNewB o.op) then h.more ops.size else some h) with
    | none => none
    | some h1 =>
      match drawGoS S call cs lo h.n rid ops B ops.toList 0 r h1 sc with
      | none => none
      | some (x, ps, sc') => if apartB B x.reads x.touches then some ((x.r, x.h), ps, sc') else none
  else none

noncomputable def callS (S : AStat) (HT : FuncId → Option HookT) (rec : ExecS) : CallS := fun lo f args h l =>
  match HT f with
  | some _ => none
  | none =>
    match S.P.funcs[f]? with
    | none => none
    | some fn =>
      match fn.body with
      | none => none
      | some body =>
        bif Nat.ble args.length fn.ntmps && Nat.ble fn.ntmps 512 then
          match rec ((S.pol f).loN lo h.n) body (Rg.frame args fn.ntmps) h l with
          | some ((x, r, h'), ps, []) =>
            match x with
            | .exit _ => none
            | _ => match resultsG S r.get h'.get fn.results.toList with
              | none => none
              | some vs => (finishF (S.pol f) h (tupled vs) h').map fun y => (y, ps)
          | _ => none
        else none

noncomputable def sSeq (rec : ExecS) (lo : Nat) (a b : Code) (r : Rg) (h : Hp) (sc : Scr) : OutS :=
  match rec lo a r h sc with
  | some ((.normal, r', h'), ps, sc') => match rec lo b r' h' sc' with
    | some (x, ps', sc'') => some (x, ps ++ ps', sc'')
    | none => none
  | x => x
noncomputable def sCond (S : AStat) (rec : ExecS) (lo : Nat) (x : Operand) (a b : Code) (r : Rg) (h : Hp) (sc : Scr) : OutS :=
  match evalF S r x with
  | .bool true => rec lo a r h sc
  | .bool false => rec lo b r h sc
  | _ => none
noncomputable def sBlock (rec : ExecS) (lo id : Nat) (b : Code) (r : Rg) (h : Hp) (sc : Scr) : OutS :=
  match rec lo b r h sc with
  | some ((.exit i, r', h'), ps, sc') => if i = id then some ((.normal, r', h'), ps, sc') else some ((.exit i, r', h'), ps, sc')
  | x => x
noncomputable def sLoop (rec : ExecS) (lo : Nat) (b : Code) (r : Rg) (h : Hp) (sc : Scr) : OutS :=
  match rec lo b r h sc with
  | some ((.normal, r', h'), ps, sc') => match rec lo (.loop b) r' h' sc' with
    | some (x, ps', sc'') => some (x, ps ++ ps', sc'')
    | none => none
  | x => x
noncomputable def sRegion (S : AStat) (call : CallT) (cs : CallS) (lo rid : Nat) (ops : Array Oper) (draw : Bool) (r : Rg) (h : Hp) (sc : Scr) : OutS :=
  if draw then (drawS S call cs lo rid ops r h sc).map fun x => ((.normal, x.1.1, x.1.2), x.2.1, x.2.2)
  else (opsS S call cs lo rid ops.toList ops.toList 0 r h sc).map fun x => ((.normal, x.1.1, x.1.2), x.2.1, x.2.2)
noncomputable def stepS (S : AStat) (HT : FuncId → Option HookT) (recF : ExecT) (rec : ExecS) : ExecS := fun lo c r h sc =>
  match c with
  | .skip => some ((.normal, r, h), [], sc)
  | .label _ => some ((.normal, r, h), [], sc)
  | .ret => some ((.ret, r, h), [], sc)
  | .exit id => some ((.exit id, r, h), [], sc)
  | .seq a b => sSeq rec lo a b r h sc
  | .cond x a b => sCond S rec lo x a b r h sc
  | .block id b => sBlock rec lo id b r h sc
  | .loop b => sLoop rec lo b r h sc
  | .region id ops draw => sRegion S (callF S HT recF) (callS S HT rec) lo id ops draw r h sc
  | _ => none

noncomputable def execS (S : AStat) (HT : FuncId → Option HookT) (n : Nat) : ExecS := Nat.rec (fun _ _ _ _ _ => none) (fun m ih => stepS S HT (execF S HT m) ih) n

/-! ### It is sound -/
def CallSOk (_S : AStat) (cs : CallS) (cl : CallF) : Prop := ∀ lo f args h l v h' ps, h.Ok → cs lo f args h l = some ((v, h'), ps) → Owed ps → h'.Ok ∧ cl lo f args h.toL = some (v, h'.toL)
def ExecSOk (rs : ExecS) (rl : ExecF) : Prop := ∀ lo c r h sc x r' h' ps sc', r.Ok → h.Ok → rs lo c r h sc = some ((x, r', h'), ps, sc') → Owed ps → r'.Ok ∧ h'.Ok ∧ rl lo c r.toL h.toL = some (x, r'.toL, h'.toL)

theorem sAct_ok {S : AStat} {ct : CallT} {cs : CallS} {cl : CallF} (hc : CallSim ct cl) (hs : CallSOk S cs cl) {lo : Nat} {r : Rg} {h h' : Hp} (hr : r.Ok) (ho : h.Ok) {o : Oper} {a : Act} {v : AVal} {ps : List Prop}
    (e : sAct S ct cs lo r h o a = some ((v, h'), ps)) (hp : Owed ps) :
    h'.Ok ∧ ((isEffB o.op = true ∧ effA S cl lo r.toL h.toL o.op = some (v, h'.toL)) ∨ (isNewB o.op = false ∧ isEffB o.op = false ∧ h' = h ∧ quietA S r.toL h.toL o.op = some v)) := by
  unfold sAct at e
  cases a with
  | val w =>
    simp only [sVal] at e
    split at e
    · cases e
    · rename_i hn
      split at e
      · rename_i he
        rw [Option.map_eq_some_iff] at e
        obtain ⟨x, e1, e2⟩ := e
        simp only [Prod.mk.injEq] at e2
        obtain ⟨⟨rfl, rfl⟩, rfl⟩ := e2
        obtain ⟨k1, k2⟩ := effF_ok hc hr ho (v := x.1) (h' := x.2) e1
        simp only [Owed, and_true] at hp
        rw [hp] at k2
        exact ⟨k1, .inl ⟨he, k2⟩⟩
      · rename_i he
        simp only [Option.some.injEq, Prod.mk.injEq] at e
        obtain ⟨⟨rfl, rfl⟩, rfl⟩ := e
        simp only [Owed, and_true] at hp
        rw [evalF_eq S hr, getF_eq ho, quietG_eq] at hp
        exact ⟨ho, .inr ⟨by simpa using hn, by simpa using he, rfl, hp⟩⟩
  | into l =>
    simp only [sInto] at e
    split at e
    · rename_i c hop
      obtain ⟨callee, args, ts⟩ := c
      simp only at e
      split at e
      · rename_i f
        split at e
        · rename_i g first captured e1
          split at e
          · cases e
          · rename_i hext
            obtain ⟨k1, k2⟩ := hs _ _ _ _ _ _ _ _ ho e hp
            refine ⟨k1, .inl ⟨by rw [hop]; rfl, ?_⟩⟩
            rw [evalF_eq S hr] at e1 hext k2
            rw [hop]
            simp only [effA, e1, hext, k2]
        · cases e
      · cases e
    · cases e

theorem opS_ok {S : AStat} {ct : CallT} {cs : CallS} {cl : CallF} (hc : CallSim ct cl) (hs : CallSOk S cs cl) {lo : Nat} {r : Rg} {h h' : Hp} (hr : r.Ok) (ho : h.Ok) {rid i : Nat} {o : Oper} {sc sc' : Scr} {v : AVal} {ps : List Prop}
    (e : opS S ct cs lo r h rid i o sc = some ((v, h'), ps, sc')) (hp : Owed ps) : h'.Ok ∧ opA S cl lo r.toL h.toL o = some (v, h'.toL) := by
  unfold opS at e
  split at e
  · rw [Option.map_eq_some_iff] at e
    obtain ⟨x, e1, e2⟩ := e
    simp only [Prod.mk.injEq] at e2
    obtain ⟨rfl, rfl, rfl⟩ := e2
    exact opF_ok hc hr ho e1
  · rw [Option.map_eq_some_iff] at e
    obtain ⟨x, e1, e2⟩ := e
    obtain ⟨⟨x1, x2⟩, x3⟩ := x
    simp only [Prod.mk.injEq] at e2
    obtain ⟨⟨rfl, rfl⟩, rfl, rfl⟩ := e2
    obtain ⟨k1, k2⟩ := sAct_ok hc hs hr ho e1 hp
    refine ⟨k1, ?_⟩
    unfold opA
    rcases k2 with ⟨he, k2⟩ | ⟨hn, he, rfl, k2⟩
    · obtain ⟨q1, q2⟩ := quiet_eff (S := S) (ρ := r.toL) (H := h.toL) he
      simp only [q1, q2, k2]
    · simp only [k2]

theorem opsS_ok {S : AStat} {ct : CallT} {cs : CallS} {cl : CallF} (hc : CallSim ct cl) (hs : CallSOk S cs cl) {lo rid : Nat} {ops : List Oper} : ∀ {l : List Oper} {i : Nat} {r r' : Rg} {h h' : Hp} {sc sc' : Scr} {ps : List Prop}, r.Ok → h.Ok →
    opsS S ct cs lo rid ops l i r h sc = some ((r', h'), ps, sc') → Owed ps → r'.Ok ∧ h'.Ok ∧ opsA S cl lo ops l r.toL h.toL = some (r'.toL, h'.toL)
  | [], i, r, r', h, h', sc, sc', ps, hr, ho, e, hp => by
    simp only [opsS, Option.some.injEq, Prod.mk.injEq] at e
    obtain ⟨⟨rfl, rfl⟩, rfl, rfl⟩ := e
    exact ⟨hr, ho, rfl⟩
  | o :: l, i, r, r', h, h', sc, sc', ps, hr, ho, e, hp => by
    simp only [opsS, guardF_eq hr] at e
    simp only [opsA]
    split at e
    · cases e
    · rename_i hg
      obtain ⟨k1, k2⟩ := putF_ok hr o.dst undefA
      simp only [hg]
      rw [← k2]
      exact opsS_ok hc hs k1 ho e hp
    · rename_i hg
      simp only [hg]
      split at e
      · cases e
      · rename_i v h1 ps1 sc1 hop
        split at e
        · cases e
        · rename_i x ps2 sc2 hrest
          simp only [Option.some.injEq, Prod.mk.injEq] at e
          obtain ⟨rfl, rfl, rfl⟩ := e
          rw [owed_append] at hp
          obtain ⟨m1, m2⟩ := opS_ok hc hs hr ho hop hp.1
          obtain ⟨k1, k2⟩ := putF_ok hr o.dst v
          simp only [m2]
          rw [← k2]
          exact opsS_ok hc hs k1 m1 hrest hp.2

theorem drawGoS_ok {S : AStat} {ct : CallT} {cs : CallS} {cl : CallF} (hc : CallSim ct cl) (hs : CallSOk S cs cl) {lo n0 rid : Nat} {ops : Array Oper} {B : List Nat} : ∀ {l : List Oper} {k : Nat} {r : Rg} {h : Hp} {sc sc' : Scr} {x : DrawOutF} {ps : List Prop}, r.Ok → h.Ok →
    drawGoS S ct cs lo n0 rid ops B l k r h sc = some (x, ps, sc') → Owed ps → x.Ok ∧ drawGo S cl lo n0 ops B l k r.toL h.toL = some x.toL
  | [], k, r, h, sc, sc', x, ps, hr, ho, e, hp => by
    simp only [drawGoS, Option.some.injEq, Prod.mk.injEq] at e
    obtain ⟨rfl, rfl, rfl⟩ := e
    exact ⟨⟨hr, ho⟩, rfl⟩
  | o :: l, k, r, h, sc, sc', x, ps, hr, ho, e, hp => by
    simp only [drawGoS, guardF_eq hr] at e
    simp only [drawGo]
    split at e
    · cases e
    · rename_i hg
      obtain ⟨k1, k2⟩ := putF_ok hr o.dst undefA
      simp only [hg]
      rw [← k2]
      exact drawGoS_ok hc hs k1 ho e hp
    · rename_i hg
      simp only [hg]
      split at e
      · rename_i hn
        rw [if_pos hn]
        split at e
        · cases e
        · rename_i blk mk hnew
          rw [evalF_eq S hr, newG_eq] at hnew
          simp only [hnew]
          rw [Hp.get_toL ho]
          split at e
          · rename_i hh
            simp only [hh]
            obtain ⟨k1, k2⟩ := putF_ok hr o.dst (mk (n0 + k))
            rw [← k2, ← Hp.set_toL ho]
            exact drawGoS_ok hc hs k1 (Hp.set_ok ho _ _) e hp
          · cases e
      · rename_i hn
        rw [if_neg hn]
        split at e
        · rename_i he
          rw [if_pos he]
          split at e
          · cases e
          · rename_i v h1 ps1 heff
            obtain ⟨g1, g2⟩ := hideF_ok (hidden ops B n0 k) ho
            split at e
            · rename_i hle
              split at e
              · cases e
              · rename_i x1 ps2 sc2 hx1
                simp only [Option.some.injEq, Prod.mk.injEq] at e
                obtain ⟨rfl, rfl, rfl⟩ := e
                rw [owed_append] at hp
                have key : h1.Ok ∧ effA S cl lo r.toL (hideF h (hidden ops B n0 k)).toL o.op = some (v, h1.toL) := by
                  unfold drawEffS at heff
                  split at heff
                  · rw [Option.map_eq_some_iff] at heff
                    obtain ⟨y, y1, y2⟩ := heff
                    simp only [Prod.mk.injEq] at y2
                    obtain ⟨rfl, rfl⟩ := y2
                    exact effF_ok hc hr g1 y1
                  · obtain ⟨m1, m2⟩ := sAct_ok hc hs hr g1 heff hp.1
                    rcases m2 with ⟨_, m2⟩ | ⟨_, m2, _⟩
                    · exact ⟨m1, m2⟩
                    · rw [he] at m2; cases m2
                obtain ⟨g3, g4⟩ := key
                rw [g2] at g4
                simp only [g4]
                rw [if_pos (by rw [Hp.length_toL, Hp.length_toL]; exact hle)]
                obtain ⟨g5, g6⟩ := unhideF_ok ho (hidden ops B n0 k) g3
                obtain ⟨k1, k2⟩ := putF_ok hr o.dst v
                obtain ⟨g7, g8⟩ := drawGoS_ok hc hs k1 g5 hx1 hp.2
                rw [k2, g6] at g8
                refine ⟨g7, ?_⟩
                simp only [g8, DrawOutF.toL]
                rw [evalF_eq S hr, touchG_eq]
            · cases e
        · rename_i he
          rw [if_neg he]
          split at e
          · cases e
          · rename_i v ps1 hq
            split at e
            · cases e
            · rename_i x1 ps2 sc2 hx1
              have split2 : Owed ps1 → quietA S r.toL h.toL o.op = some v := by
                intro hp1
                unfold drawQuietS at hq
                split at hq
                · rw [Option.map_eq_some_iff] at hq
                  obtain ⟨y, y1, y2⟩ := hq
                  simp only [Prod.mk.injEq] at y2
                  obtain ⟨rfl, rfl⟩ := y2
                  rw [evalF_eq S hr, getF_eq ho, quietG_eq] at y1
                  exact y1
                · simp only [Option.some.injEq, Prod.mk.injEq] at hq
                  obtain ⟨rfl, rfl⟩ := hq
                  simp only [Owed, and_true] at hp1
                  rw [evalF_eq S hr, getF_eq ho, quietG_eq] at hp1
                  exact hp1
                · cases hq
              obtain ⟨k1, k2⟩ := putF_ok hr o.dst v
              rw [evalF_eq S hr, readsG_eq] at e
              split at e
              · rename_i hrd
                simp only [Option.some.injEq, Prod.mk.injEq] at e
                obtain ⟨rfl, rfl, rfl⟩ := e
                rw [owed_append] at hp
                simp only [split2 hp.1]
                obtain ⟨g7, g8⟩ := drawGoS_ok hc hs k1 ho hx1 hp.2
                rw [k2] at g8
                simp only [g8]
                exact ⟨g7, by simp only [hrd]⟩
              · rename_i b hrd
                simp only [Option.some.injEq, Prod.mk.injEq] at e
                obtain ⟨rfl, rfl, rfl⟩ := e
                rw [owed_append] at hp
                simp only [split2 hp.1]
                obtain ⟨g7, g8⟩ := drawGoS_ok hc hs k1 ho hx1 hp.2
                rw [k2] at g8
                simp only [g8]
                exact ⟨g7, by simp only [hrd, DrawOutF.toL]⟩

theorem drawS_ok {S : AStat} {ct : CallT} {cs : CallS} {cl : CallF} (hc : CallSim ct cl) (hs : CallSOk S cs cl) {lo rid : Nat} {ops : Array Oper} {r r' : Rg} {h h' : Hp} {sc sc' : Scr} {ps : List Prop} (hr : r.Ok) (ho : h.Ok)
    (e : drawS S ct cs lo rid ops r h sc = some ((r', h'), ps, sc')) (hp : Owed ps) : r'.Ok ∧ h'.Ok ∧ drawA S cl lo ops r.toL h.toL = some (r'.toL, h'.toL) := by
  unfold drawS at e
  unfold drawA
  simp only at e ⊢
  split at e
  · rename_i hcond
    rw [Hp.length_toL, if_pos hcond]
    split at e
    · cases e
    · rename_i h1 hh1
      have key : h1.Ok ∧ h1.toL = (if ops.any (fun o => isNewB o.op) then h.toL ++ List.replicate ops.size none else h.toL) := by
        split at hh1
        · rename_i ha
          rw [if_pos ha]
          exact Hp.more_ok ho hh1
        · rename_i ha
          rw [if_neg ha]
          simp only [Option.some.injEq] at hh1
          subst hh1
          exact ⟨ho, rfl⟩
      rw [← key.2]
      split at e
      · cases e
      · rename_i x ps1 sc1 hx
        split at e
        · rename_i ha
          simp only [Option.some.injEq, Prod.mk.injEq] at e
          obtain ⟨⟨rfl, rfl⟩, rfl, rfl⟩ := e
          obtain ⟨⟨k1, k2⟩, k3⟩ := drawGoS_ok hc hs hr key.1 hx hp
          simp only [k3]
          exact ⟨k1, k2, if_pos ha⟩
        · cases e
  · cases e

theorem callS_ok {S : AStat} {HT : FuncId → Option HookT} (hH : HookSim S HT) {rs : ExecS} {rl : ExecF} (hs : ExecSOk rs rl) : CallSOk S (callS S HT rs) (callA S rl) := by
  intro lo f args h l v h' ps ho e hp
  unfold callS at e
  unfold callA
  have hf := hH f
  split at e
  · cases e
  · rename_i hhk
    rw [hhk] at hf
    cases hl : S.hook f with
    | some l => rw [hl] at hf; exact hf.elim
    | none =>
      simp only
      split at e
      · cases e
      · rename_i fn hfn
        simp only [hfn]
        split at e
        · cases e
        · rename_i body hb
          simp only [hb]
          cases hcond : (Nat.ble args.length fn.ntmps && Nat.ble fn.ntmps 512) with
          | false => rw [hcond] at e; cases e
          | true =>
            rw [hcond] at e
            simp only [cond_true] at e
            simp only [Bool.and_eq_true, Nat.ble_eq] at hcond
            split at e
            · rename_i x r1 h1 ps1 hrec
              have hlo : (S.pol f).loN lo h.n = (S.pol f).lo lo h.toL := by
                cases S.pol f <;> simp only [Pol.loN, Pol.lo, Hp.length_toL]
              have main : ∀ vs, resultsG S r1.get h1.get fn.results.toList = some vs → (finishF (S.pol f) h (tupled vs) h1).map (fun y => (y, ps1)) = some ((v, h'), ps) → (∀ i, x ≠ .exit i) →
                  h'.Ok ∧ (match rl ((S.pol f).lo lo h.toL) body (args ++ List.replicate (fn.ntmps - args.length) undefA) h.toL with
                    | none => none
                    | some (.exit _, _, _) => none
                    | some (_, ρ, H') => match resultsA S ρ H' fn.results.toList with
                      | none => none
                      | some vs => finish (S.pol f) h.toL (tupled vs) H') = some (v, h'.toL) := by
                intro vs hvs hfin hx
                rw [Option.map_eq_some_iff] at hfin
                obtain ⟨y, y1, y2⟩ := hfin
                simp only [Prod.mk.injEq] at y2
                obtain ⟨rfl, rfl⟩ := y2
                obtain ⟨k1, k2, k3⟩ := hs _ _ _ _ _ _ _ _ _ _ (frame_ok args fn.ntmps hcond.2) ho hrec hp
                rw [frame_toL args fn.ntmps hcond.2 hcond.1, hlo] at k3
                simp only [k3]
                rw [resultsG_eq S k1 k2] at hvs
                cases x with
                | exit i => exact (hx i rfl).elim
                | normal => simp only [hvs]; exact finishF_ok ho k2 y1
                | ret => simp only [hvs]; exact finishF_ok ho k2 y1
              split at e
              · cases e
              · rename_i hx
                split at e
                · cases e
                · rename_i vs hvs
                  exact main vs hvs e (fun i he => hx i he)
            · cases e

theorem stepS_ok {S : AStat} {HT : FuncId → Option HookT} (hH : HookSim S HT) {rt : ExecT} {rs : ExecS} {rl : ExecF} (ht : ExecSim rt rl) (hs : ExecSOk rs rl) : ExecSOk (stepS S HT rt rs) (stepA S rl) := by
  intro lo c r h sc x r' h' ps sc' hr ho e hp
  have triv : ∀ {y : AExit}, some ((y, r, h), ([] : List Prop), sc) = some ((x, r', h'), ps, sc') → r'.Ok ∧ h'.Ok ∧ (some (y, r.toL, h.toL) : Option (AExit × List AVal × Heap)) = some (x, r'.toL, h'.toL) := by
    intro y hy
    simp only [Option.some.injEq, Prod.mk.injEq] at hy
    obtain ⟨⟨rfl, rfl, rfl⟩, _, _⟩ := hy
    exact ⟨hr, ho, rfl⟩
  unfold stepS at e
  unfold stepA
  split at e
  · exact triv e
  · exact triv e
  · exact triv e
  · exact triv e
  · rename_i a b
    unfold sSeq at e
    simp only
    split at e
    · rename_i r1 h1 ps1 sc1 e1
      split at e
      · rename_i y ps2 sc2 e2
        simp only [Option.some.injEq, Prod.mk.injEq] at e
        obtain ⟨rfl, rfl, rfl⟩ := e
        rw [owed_append] at hp
        obtain ⟨k1, k2, k3⟩ := hs _ _ _ _ _ _ _ _ _ _ hr ho e1 hp.1
        simp only [k3]
        exact hs _ _ _ _ _ _ _ _ _ _ k1 k2 e2 hp.2
      · cases e
    · rename_i hne
      obtain ⟨k1, k2, k3⟩ := hs _ _ _ _ _ _ _ _ _ _ hr ho e hp
      refine ⟨k1, k2, ?_⟩
      simp only [k3]
      cases x with
      | normal => exact (hne _ _ _ _ e).elim
      | _ => rfl
  · rename_i y a b
    unfold sCond at e
    rw [evalF_eq S hr] at e
    simp only
    split at e
    · rename_i hy
      simp only [hy]
      exact hs _ _ _ _ _ _ _ _ _ _ hr ho e hp
    · rename_i hy
      simp only [hy]
      exact hs _ _ _ _ _ _ _ _ _ _ hr ho e hp
    · cases e
  · rename_i id b
    unfold sBlock at e
    simp only
    split at e
    · rename_i i r1 h1 ps1 sc1 e1
      split at e
      · rename_i hi
        simp only [Option.some.injEq, Prod.mk.injEq] at e
        obtain ⟨⟨rfl, rfl, rfl⟩, rfl, rfl⟩ := e
        obtain ⟨k1, k2, k3⟩ := hs _ _ _ _ _ _ _ _ _ _ hr ho e1 hp
        simp only [k3]
        exact ⟨k1, k2, by rw [if_pos hi]⟩
      · rename_i hi
        simp only [Option.some.injEq, Prod.mk.injEq] at e
        obtain ⟨⟨rfl, rfl, rfl⟩, rfl, rfl⟩ := e
        obtain ⟨k1, k2, k3⟩ := hs _ _ _ _ _ _ _ _ _ _ hr ho e1 hp
        simp only [k3]
        exact ⟨k1, k2, by rw [if_neg hi]⟩
    · rename_i hne
      obtain ⟨k1, k2, k3⟩ := hs _ _ _ _ _ _ _ _ _ _ hr ho e hp
      refine ⟨k1, k2, ?_⟩
      simp only [k3]
      cases x with
      | exit i => exact (hne _ _ _ _ _ e).elim
      | _ => rfl
  · rename_i b
    unfold sLoop at e
    simp only
    split at e
    · rename_i r1 h1 ps1 sc1 e1
      split at e
      · rename_i y ps2 sc2 e2
        simp only [Option.some.injEq, Prod.mk.injEq] at e
        obtain ⟨rfl, rfl, rfl⟩ := e
        rw [owed_append] at hp
        obtain ⟨k1, k2, k3⟩ := hs _ _ _ _ _ _ _ _ _ _ hr ho e1 hp.1
        simp only [k3]
        exact hs _ _ _ _ _ _ _ _ _ _ k1 k2 e2 hp.2
      · cases e
    · rename_i hne
      obtain ⟨k1, k2, k3⟩ := hs _ _ _ _ _ _ _ _ _ _ hr ho e hp
      refine ⟨k1, k2, ?_⟩
      simp only [k3]
      cases x with
      | normal => exact (hne _ _ _ _ e).elim
      | _ => rfl
  · rename_i id ops draw
    unfold sRegion at e
    simp only
    split at e
    · rename_i hd
      rw [Option.map_eq_some_iff] at e
      obtain ⟨⟨⟨r1, h1⟩, ps1, sc1⟩, e1, e2⟩ := e
      simp only [Prod.mk.injEq] at e2
      obtain ⟨⟨rfl, rfl, rfl⟩, rfl, rfl⟩ := e2
      obtain ⟨k1, k2, k3⟩ := drawS_ok (callF_ok hH ht) (callS_ok hH hs) hr ho e1 hp
      exact ⟨k1, k2, by rw [if_pos hd, k3]; rfl⟩
    · rename_i hd
      rw [Option.map_eq_some_iff] at e
      obtain ⟨⟨⟨r1, h1⟩, ps1, sc1⟩, e1, e2⟩ := e
      simp only [Prod.mk.injEq] at e2
      obtain ⟨⟨rfl, rfl, rfl⟩, rfl, rfl⟩ := e2
      obtain ⟨k1, k2, k3⟩ := opsS_ok (callF_ok hH ht) (callS_ok hH hs) hr ho e1 hp
      exact ⟨k1, k2, by rw [if_neg hd, k3]; rfl⟩
  · cases e

theorem execS_ok {S : AStat} {HT : FuncId → Option HookT} (hH : HookSim S HT) : ∀ n, ExecSOk (execS S HT n) (execA S n)
  | 0 => fun _ _ _ _ _ _ _ _ _ _ _ _ e => by cases e
  | n + 1 => stepS_ok hH (execF_ok hH n) (execS_ok hH n)

noncomputable def runS (S : AStat) (HT : FuncId → Option HookT) (n : Nat) : CallS := callS S HT (execS S HT n)

/-- A scripted run, with what it owes. -/
theorem runS_ok {S : AStat} {HT : FuncId → Option HookT} (hH : HookSim S HT) (n : Nat) {f : FuncId} {args : List AVal} {sc : Scr} {v : AVal} {ps : List Prop} (e : (runS S HT n 0 f args Hp.empty sc).map (fun x => (x.1.1, x.2)) = some (v, ps)) (hp : Owed ps) :
    ∃ H', runA S n 0 f args [] = some (v, H') := by
  rw [Option.map_eq_some_iff] at e
  obtain ⟨⟨⟨v', h'⟩, ps'⟩, e, e2⟩ := e
  simp only [Prod.mk.injEq] at e2
  obtain ⟨rfl, rfl⟩ := e2
  obtain ⟨_, k⟩ := callS_ok hH (execS_ok hH n) 0 f args Hp.empty sc v' h' ps' Hp.empty_ok e hp
  rw [Hp.empty_toL] at k
  exact ⟨_, k⟩

end Go.Am
