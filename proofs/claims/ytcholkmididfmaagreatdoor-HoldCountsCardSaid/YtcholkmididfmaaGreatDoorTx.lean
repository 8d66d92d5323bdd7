/- What hold.Text answers, and what it asks of its argument. -/
import Derived.Test.YtcholkmididfmaaGreatDoorLib3
import Derived.Lib.ItoaLen
namespace Go.Proofs.YtcholkmididfmaaGreatDoor
open Go.RowKit Go.Am
set_option linter.unusedVariables false
structure Outc where
 logs : List (List Int)
 words : List Int
 owners : List Int
 status : List Int
 queues : List (List Int)
def numsR (l : List Int) : List UInt8 := (l.map fun n => 32 :: Lib.itoa n).flatten
def lineR (head : List UInt8) (l : List Int) : List UInt8 := head ++ (numsR l ++ [10])
def thrB : List UInt8 := [116,104,114,101,97,100,32]
def queB : List UInt8 := [113,117,101,117,101,32]
def wordsB : List UInt8 := [119,111,114,100,115]
def ownB : List UInt8 := [111,119,110,101,114,115]
def thrR (logs : List (List Int)) (t : Nat) (s : Int) : List UInt8 := lineR (thrB ++ Lib.itoa t ++ [58,32] ++ Lib.itoa s) (logs.getD t [])
def thrsR (logs : List (List Int)) : Nat → List Int → List UInt8
 | _,[] => []
 | t,s :: ss => thrR logs t s ++ thrsR logs (t + 1) ss
def quesR : Nat → List (List Int) → List UInt8
 | _,[] => []
 | c,q :: qs => lineR (queB ++ Lib.itoa c) q ++ quesR (c + 1) qs
def textR (o : Outc) : List UInt8 := thrsR o.logs 0 o.status ++ (lineR wordsB o.words ++ (lineR ownB o.owners ++ quesR 0 o.queues))
def okB (n : Int) : Bool := decide (-9223372036854775808 ≤ n) && decide (n ≤ 9223372036854775807)
def listB (l : List Int) : Bool := Nat.ble l.length 1000 && l.all okB
def outB (o : Outc) : Bool := Nat.ble o.logs.length 1000 && o.logs.all listB && listB o.words && listB o.owners && listB o.status && Nat.ble o.queues.length 1000 && o.queues.all listB
theorem okB_is {n : Int} (h : okB n = true) : -9223372036854775808 ≤ n ∧ n ≤ 9223372036854775807 := by
 simpa [okB] using h
theorem listB_is {l : List Int} (h : listB l = true) : l.length ≤ 1000 ∧ ∀ n ∈ l,okB n = true := by
 simpa [listB] using h
structure OutOk (o : Outc) : Prop where
 logs : o.logs.length ≤ 1000 ∧ ∀ l ∈ o.logs,listB l = true
 words : listB o.words = true
 owners : listB o.owners = true
 status : listB o.status = true
 queues : o.queues.length ≤ 1000 ∧ ∀ l ∈ o.queues,listB l = true
theorem outB_is {o : Outc} (h : outB o = true) : OutOk o := by
 simp only [outB,qj,Nat.ble_eq,List.all_eq_true] at h
 obtain ⟨⟨⟨⟨⟨⟨h1,h2⟩,h3⟩,h4⟩,h5⟩,h6⟩,h7⟩ := h
 exact ⟨⟨h1,h2⟩,h3,h4,h5,⟨h6,h7⟩⟩
theorem itoa_len {n : Int} (h : okB n = true) : (Lib.itoa n).length ≤ 21 := by
 obtain ⟨h0,h1⟩ := okB_is h
 exact Lib.itoa_length_le n h0 h1
theorem nums_len : ∀ {l : List Int},(∀ n ∈ l,okB n = true) → (numsR l).length ≤ 22 * l.length
 | [],_ => by simp [numsR]
 | n :: l,h => by
  have h1 := itoa_len (h n (by simp))
  have h2 := nums_len (l := l) (fun m hm => h m (by simp [hm]))
  have e : numsR (n :: l) = (32 :: Lib.itoa n) ++ numsR l := rfl
  rw [e,qo,qn,qn]
  omega
theorem line_len {head : List UInt8} {l : List Int} (h : listB l = true) : (lineR head l).length ≤ head.length + 22001 := by
 obtain ⟨h1,h2⟩ := listB_is h
 have := nums_len h2
 simp only [lineR,qo,qn,List.length_nil]
 omega
theorem nat_ok {t : Nat} (h : t ≤ 2000) : okB (t : Int) = true := by
 simp only [okB,qj,decide_eq_true_eq]
 omega
theorem getD_ok {logs : List (List Int)} (h : ∀ l ∈ logs,listB l = true) (t : Nat) : listB (logs.getD t []) = true := by
 rw [qi]
 cases e : logs[t]? with
 | none => rfl
 | some l => exact h l (qp e)
theorem thrs_len {logs : List (List Int)} (hl : ∀ l ∈ logs,listB l = true) : ∀ {ss : List Int} {t : Nat},(∀ s ∈ ss,okB s = true) → t + ss.length ≤ 2000 → (thrsR logs t ss).length ≤ 23000 * ss.length
 | [],t,_,_ => by simp [thrsR]
 | s :: ss,t,h,ht => by
  have h1 := thrs_len hl (ss := ss) (t := t + 1) (fun m hm => h m (by simp [hm])) (by simp only [qn] at ht; omega)
  have h2 := line_len (head := thrB ++ Lib.itoa t ++ [58,32] ++ Lib.itoa s) (getD_ok hl t)
  have h3 := itoa_len (h s (by simp))
  have h4 := itoa_len (nat_ok (t := t) (by simp only [qn] at ht; omega))
  simp only [thrsR,thrR,qo,qn,thrB,List.length_nil] at h2 ⊢
  omega
theorem ques_len : ∀ {qs : List (List Int)} {c : Nat},(∀ l ∈ qs,listB l = true) → c + qs.length ≤ 2000 → (quesR c qs).length ≤ 23000 * qs.length
 | [],c,_,_ => by simp [quesR]
 | q :: qs,c,h,hc => by
  have h1 := ques_len (qs := qs) (c := c + 1) (fun m hm => h m (by simp [hm])) (by simp only [qn] at hc; omega)
  have h2 := line_len (head := queB ++ Lib.itoa c) (h q (by simp))
  have h4 := itoa_len (nat_ok (t := c) (by simp only [qn] at hc; omega))
  simp only [quesR,qo,qn,queB,List.length_nil] at h2 ⊢
  omega
theorem text_len {o : Outc} (h : OutOk o) : (textR o).length ≤ 50000000 := by
 have h1 := thrs_len (t := 0) h.logs.2 (listB_is h.status).2 (by have := (listB_is h.status).1; omega)
 have h2 := line_len (head := wordsB) h.words
 have h3 := line_len (head := ownB) h.owners
 have h4 := ques_len (c := 0) h.queues.2 (by have := h.queues.1; omega)
 have h5 := (listB_is h.status).1
 have h6 := h.queues.1
 simp only [textR,qo,wordsB,ownB,qn,List.length_nil] at h2 h3 ⊢
 omega
end Go.Proofs.YtcholkmididfmaaGreatDoor
