/- What is asked of an attempt: what it makes; places. -/
import Derived.Test.YtmjjljngaefpaaaXs
namespace Go.Proofs.Ytmjjljngaefpaaa
open Go.RowKit Go.Am Go.Sy
open Go.IntKind (i64 u64)
set_option linter.unusedVariables false
def beginX (s : XM) : XM := { s with life := 1,job := 1,part := 0,i := 0,value := 0,cause := 0,made := 0,ph := false,rs := [],ws := [],asked := 0,rows := [],tk := [],code := 0 }
def commitX (s : XM) : XM := { s with job := 4,part := 4,i := 0,code := 0 }
def readX (p : Int) (s : XM) : XM := bif hasB s.ws p then { s with value := (at3 s.ws (findT s.ws p)).vl,asked := i64.wrap (s.asked + 1),code := 1 } else { s with at_ := p,row := hashT p,job := 2,part := 0,i := 0,code := 0 }
def putT (l : List Wo) (p v : Int) : List Wo := bif hasB l p then l.set (findT l p).toNat ⟨(at3 l (findT l p)).pl,v⟩ else l ++ [⟨p,v⟩]
def writeX (p v : Int) (s : XM) : XM := { s with ws := putT s.ws p v,code := 1 }
theorem three {d : Int} (h0 : 0 ≤ d) (h1 : d < 3) : d = 0 ∨ d = 1 ∨ d = 2 := by omega
theorem findGo_ge : ∀ (l : List Wo) (k i : Int),0 ≤ i → hasB l k = true → 0 ≤ findGo k l i
 | [],k,i,_,h => by cases h
 | w :: l,k,i,hi,h => by
  unfold findGo
  split
  ·exact hi
  ·rename_i hne
   unfold hasB at h
   rw [List.any_cons,Bool.or_eq_true] at h
   rcases h with h | h
   ·exact absurd (eq_of_beq h) hne
   ·exact findGo_ge l k (i + 1) (by omega) h
theorem hash_ge {a : Int} (h : isData a) : 0 ≤ hashT a ∧ hashT a < 3 := by
 rcases h with rfl | rfl | rfl | rfl <;> decide
theorem at3_data {l : List Wo} (h : ∀ w ∈ l,isData w.pl) {n : Nat} (hn : n < l.length) : isData (at3 l (n : Int)).pl := by
 rw [at3_get hn]
 exact h _ (List.getElem_mem _)
end Go.Proofs.Ytmjjljngaefpaaa
