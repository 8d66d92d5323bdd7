/- Tl2Two: the contracts of what is asked of an attempt. -/
import Derived.Test.YtmjjljngaefpaaaJx
namespace Go.Proofs.Ytmjjljngaefpaaa
open Go.RowKit Go.Am Go.Sy
open Go.IntKind (i64 u64)
set_option linter.unusedVariables false
theorem lXOk : CtrOk F.S (lookC lX) := lookC_ok fun p h => by
 simp only [lX,List.mem_cons,List.not_mem_nil,or_false] at h
 rcases h with rfl | rfl | rfl | rfl | rfl | rfl | rfl | rfl | rfl | rfl | rfl | rfl | rfl | rfl | rfl | rfl | rfl | rfl | rfl | rfl
 ·exact stripeOk
 ·exact threadOk
 ·exact seqOk
 ·exact clockOk
 ·exact sizeOk
 ·exact badOk
 ·exact mayOk
 ·exact hashOk
 ·exact roomOk
 ·exact freshOk
 ·exact atOk
 ·exact rowsOk
 ·exact placesOk
 ·exact bitOk
 ·exact findOk
 ·exact hasOk
 ·exact holderOk
 ·exact versionOk
 ·exact takenOk
 ·exact freeOk
theorem x_keep {n : Nat} (L M h : SH cod) (hL : L.length = 9) (hl : h.length = n) {j : Nat} (hj : j < n) (hf : xFoot j = false) : (L ++ h.drop 9 ++ M)[j]? = h[j]? := by
 have h9 : 9 ≤ j := by
  rcases Nat.lt_or_ge j 9 with k | k
  ·have : xFoot j = true := by unfold xFoot; rwa [Nat.blt_eq]
   rw [this] at hf
   cases hf
  ·exact k
 rw [List.append_assoc,List.getElem?_append_right (by omega),List.getElem?_append_left (by rw [List.length_drop]; omega),List.getElem?_drop,hL,show 9 + (j - 9) = j by omega]
theorem x_keep0 {n : Nat} (L h : SH cod) (hL : L.length = 9) (hl : h.length = n) {j : Nat} (hj : j < n) (hf : xFoot j = false) : (L ++ h.drop 9)[j]? = h[j]? := by
 have := x_keep L [] h hL hl hj hf
 rwa [List.append_nil] at this
theorem x_len {n : Nat} (L h : SH cod) (hL : L.length = 9) (hl : h.length = n) (hn : 9 ≤ n) : (L ++ h.drop 9).length = n := by
 rw [List.length_append,List.length_drop]; omega
theorem one_keep {D : FrD cod} {B : FrO cod D.St} (h : D.outs = [B]) (hk : ∀ (s : B.St) (h : SH cod) (j : Nat),h.length = D.n → j < D.n → D.foot j = false → (B.heap s h)[j]? = h[j]?) :
 ∀ (B : FrO cod D.St),B ∈ D.outs → ∀ (s : B.St) (h : SH cod) (j : Nat),h.length = D.n → j < D.n → D.foot j = false → (B.heap s h)[j]? = h[j]? := by
 intro A hA
 rw [h,List.mem_singleton] at hA
 subst hA
 exact hk
theorem xStepFr (st : XM → XM) (I : XM → Prop) (r : Nat) : FrOk (xStepD st I r) := ⟨fun s h hl => x_len _ h rfl hl (show 9 ≤ 60 by decide),fun s h j hl hj hf => x_keep0 _ h rfl hl hj hf,one_keep rfl fun s h j hl hj hf => x_keep _ _ h rfl hl hj hf⟩
def goX' (s : XM) : Prop := atX s ∧ ¬(s.job = 4 ∧ s.part = 4)
theorem xStepOk (q : Nat → Bool) : CtrOk1 F.S 15 (frCtrB q (xStepD stepX goX' 62)) :=
 frCtrB_ok codOk q _ (xStepFr _ _ _) fun s hI h hl _ => ⟨_,loopCtr_ok (body := b18) codOk noExt hookLow lXOk Try.func15 rfl (by kernel_rfl) (by kernel_rfl) 2000 (fun _ _ => []) (fun _ _ => 0) (by kernel_rfl),x_paid s hI h hl⟩
end Go.Proofs.Ytmjjljngaefpaaa
