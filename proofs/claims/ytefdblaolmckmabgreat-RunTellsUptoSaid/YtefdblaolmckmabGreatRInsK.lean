/- Lemmas of the proof. -/
import Derived.Test.YtefdblaolmckmabGreatRBSpecSToSpecU
import Derived.Test.YtefdblaolmckmabGreatRBSpecOToSpecR
set_option linter.unusedVariables false
set_option linter.unusedSimpArgs false
set_option maxRecDepth 100000
set_option maxHeartbeats 12800000
namespace Brood
section
variable {α:Type} {key:α→Int}
theorem insK_cut {xs:List α} {x:α} {n:Nat} (hs:Srt key xs) (hn:n≤xs.length) (h1:∀ j (hj:j<xs.length),n≤j→key x<key xs[j]) (h0:n=0∨∃ h:n-1<xs.length,key xs[n-1]≤key x) :
  insK key x xs=xs.take n++[x]++xs.drop n:=by
 have hp:∀ a∈xs.take n,decide (key a≤key x)=true:=by
  intro a ha
  obtain ⟨i,hi,rfl⟩:=List.getElem_of_mem ha
  rw [List.length_take] at hi
  rw [List.getElem_take]
  rcases h0 with h0 | ⟨h,h0⟩
  ·omega
  ·have hle:key xs[i]≤key xs[n-1]:=by
    rcases Nat.lt_or_ge i (n-1) with h2 | h2
    ·exact (List.pairwise_iff_getElem.1 hs) i (n-1) (by omega) h h2
    ·have e:i=n-1:=by omega
     subst e
     exact Int.le_refl _
   simpa using Int.le_trans hle h0
 have hd:(xs.drop n).takeWhile (fun y=>decide (key y≤key x))=[]∧(xs.drop n).dropWhile (fun y=>decide (key y≤key x))=xs.drop n:=by
  cases hdr:xs.drop n with
  | nil=>exact ⟨rfl,rfl⟩
  | cons z l=>
   have hlt:n<xs.length:=by
    rcases Nat.lt_or_ge n xs.length with h | h
    ·exact h
    ·rw [List.drop_eq_nil_of_le h] at hdr
     cases hdr
   have hz:xs[n]=z:=by
    have:=List.drop_eq_getElem_cons hlt
    rw [hdr] at this
    exact (List.cons.inj this).1.symm
   have:=h1 n hlt (Nat.le_refl _)
   rw [hz] at this
   have hf:decide (key z≤key x)=false:=by simpa using this
   rw [List.takeWhile_cons,List.dropWhile_cons,hf]
   exact ⟨rfl,rfl⟩
 unfold insK
 have e:xs=xs.take n++xs.drop n:=(List.take_append_drop n xs).symm
 have e1:xs.takeWhile (fun y=>decide (key y≤key x))=xs.take n:=by
  conv=>lhs;rw [e]
  rw [List.takeWhile_append_of_pos hp,hd.1,List.append_nil]
 have e2:xs.dropWhile (fun y=>decide (key y≤key x))=xs.drop n:=by
  conv=>lhs;rw [e]
  rw [List.dropWhile_append_of_pos hp,hd.2]
 rw [e1,e2,List.append_assoc]
 rfl
theorem sortK_snoc (xs:List α) (x:α):sortK key (xs++[x])=insK key x (sortK key xs):=by
 unfold sortK
 rw [List.foldl_append]
 rfl
end
end Brood
