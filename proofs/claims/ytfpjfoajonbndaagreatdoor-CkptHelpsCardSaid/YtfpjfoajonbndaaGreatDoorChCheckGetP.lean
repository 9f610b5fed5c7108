import Derived.Test.YtfpjfoajonbndaaGreatDoorChCheckPlain
import Derived.Test.YtfpjfoajonbndaaGreatDoorCh10
namespace Go.Proofs.YtfpjfoajonbndaaGreatDoor
theorem le_num{k n:Nat}(h:n<256 ^ k):leNat (le k n)=n:=by rw [leNat_le];exact Nat.mod_eq_of_lt h
theorem ck_head(c:Ck)(r:List UInt8)(h1:c.vol<4294967296)(h2:c.gen<4294967296)(h3:c.upto<4294967296)(h4:c.l.length<4294967296) :
  numAt (ckHead c ++ r) 0 4=1128811344∧numAt (ckHead c ++ r) 4 4=c.vol∧numAt (ckHead c ++ r) 8 4=c.gen∧numAt (ckHead c ++ r) 12 4=c.upto∧numAt (ckHead c ++ r) 16 4=c.l.length:=by
 have e:(256:Nat) ^ 4=4294967296:=by decide
 have e1:ckHead c ++ r=[] ++ le 4 1128811344 ++ (le 4 c.vol ++ le 4 c.gen ++ le 4 c.upto ++ le 4 c.l.length ++ r):=by simp [ckHead]
 have e2:ckHead c ++ r=le 4 1128811344 ++ le 4 c.vol ++ (le 4 c.gen ++ le 4 c.upto ++ le 4 c.l.length ++ r):=by simp [ckHead]
 have e3:ckHead c ++ r=(le 4 1128811344 ++ le 4 c.vol) ++ le 4 c.gen ++ (le 4 c.upto ++ le 4 c.l.length ++ r):=by simp [ckHead]
 have e4:ckHead c ++ r=(le 4 1128811344 ++ le 4 c.vol ++ le 4 c.gen) ++ le 4 c.upto ++ (le 4 c.l.length ++ r):=by simp [ckHead]
 have e5:ckHead c ++ r=(le 4 1128811344 ++ le 4 c.vol ++ le 4 c.gen ++ le 4 c.upto) ++ le 4 c.l.length ++ r:=by simp [ckHead]
 refine ⟨?_,?_,?_,?_,?_⟩
 ·rw [e1,numAt_mid (by simp) (le_len _ _)];exact le_num (by rw [e];omega)
 ·rw [e2,numAt_mid (le_len _ _) (le_len _ _)];exact le_num (by rw [e];exact h1)
 ·rw [e3,numAt_mid (by simp [le_len]) (le_len _ _)];exact le_num (by rw [e];exact h2)
 ·rw [e4,numAt_mid (by simp [le_len]) (le_len _ _)];exact le_num (by rw [e];exact h3)
 ·rw [e5,numAt_mid (by simp [le_len]) (le_len _ _)];exact le_num (by rw [e];exact h4)
theorem pos_num(A r:List UInt8)(p:Ps){at':Nat}(hA:A.length=at')(h1:p.key<18446744073709551616)(h2:p.off<4294967296)(h3:p.len<4294967296)(h4:p.cookie<4294967296) :
  numAt (A ++ (posB p ++ r)) at' 8=p.key∧numAt (A ++ (posB p ++ r)) (at'+8) 4=p.off∧numAt (A ++ (posB p ++ r)) (at'+12) 4=p.len∧numAt (A ++ (posB p ++ r)) (at'+16) 4=p.cookie∧numAt (A ++ (posB p ++ r)) (at'+20) 4=(if p.gone then 1 else 0):=by
 have e:(256:Nat) ^ 4=4294967296:=by decide
 have e':(256:Nat) ^ 8=18446744073709551616:=by decide
 have e1:A ++ (posB p ++ r)=A ++ le 8 p.key ++ (le 4 p.off ++ le 4 p.len ++ le 4 p.cookie ++ le 4 (if p.gone then 1 else 0) ++ r):=by simp [posB]
 have e2:A ++ (posB p ++ r)=(A ++ le 8 p.key) ++ le 4 p.off ++ (le 4 p.len ++ le 4 p.cookie ++ le 4 (if p.gone then 1 else 0) ++ r):=by simp [posB]
 have e3:A ++ (posB p ++ r)=(A ++ le 8 p.key ++ le 4 p.off) ++ le 4 p.len ++ (le 4 p.cookie ++ le 4 (if p.gone then 1 else 0) ++ r):=by simp [posB]
 have e4:A ++ (posB p ++ r)=(A ++ le 8 p.key ++ le 4 p.off ++ le 4 p.len) ++ le 4 p.cookie ++ (le 4 (if p.gone then 1 else 0) ++ r):=by simp [posB]
 have e5:A ++ (posB p ++ r)=(A ++ le 8 p.key ++ le 4 p.off ++ le 4 p.len ++ le 4 p.cookie) ++ le 4 (if p.gone then 1 else 0) ++ r:=by simp [posB]
 refine ⟨?_,?_,?_,?_,?_⟩
 ·rw [e1,numAt_mid hA (le_len _ _)];exact le_num (by rw [e'];exact h1)
 ·rw [e2,numAt_mid (by simp [le_len,hA]) (le_len _ _)];exact le_num (by rw [e];exact h2)
 ·rw [e3,numAt_mid (by simp [le_len,hA]) (le_len _ _)];exact le_num (by rw [e];exact h3)
 ·rw [e4,numAt_mid (by simp [le_len,hA]) (le_len _ _)];exact le_num (by rw [e];exact h4)
 ·rw [e5,numAt_mid (by simp [le_len,hA]) (le_len _ _)];exact le_num (by rw [e];split <;> omega)
theorem ck_item(c:Ck){j:Nat}{p:Ps}(hj:c.l[j]? = some p):∃ r,ckB c=(ckHead c ++ (c.l.take j).flatMap posB) ++ (posB p ++ r)∧(ckHead c ++ (c.l.take j).flatMap posB).length=20+24 * j:=by
 obtain ⟨h1,h2⟩:=List.getElem?_eq_some_iff.1 hj
 refine ⟨(c.l.drop (j+1)).flatMap posB ++ le 4 (sumOf (ckBody c)).toNat,?_,?_⟩
 ·have e:c.l.flatMap posB=(c.l.take j).flatMap posB ++ (posB p ++ (c.l.drop (j+1)).flatMap posB):=by
   have e2:c.l=c.l.take j ++ (p :: c.l.drop (j+1)):=by
    rw [←h2,List.getElem_cons_drop,List.take_append_drop]
   have:=congrArg (List.flatMap posB) e2
   rw [List.flatMap_append,List.flatMap_cons] at this
   exact this
  unfold ckB
  rw [show ckBody c=ckHead c ++ c.l.flatMap posB from rfl,e]
  simp
 ·rw [List.length_append,ckHead_len,posBs_len,List.length_take]
  omega
theorem ckPos_le{p:Ps}(h:ckPos p=true):p.off≤16777216∧p.len≤4096:=by
 unfold ckPos at h
 simp only [Bool.and_eq_true,decide_eq_true_eq] at h
 exact ⟨h.1,h.2.1⟩
theorem ckRow_mem:∀ {l:List Ps} {k:Option Nat},ckRow k l=true→∀ p∈l,ckPos p=true
 | [],_,_,p,hp=>absurd hp List.not_mem_nil
 | q :: r,k,h,p,hp=>by
  unfold ckRow at h
  simp only [Bool.and_eq_true] at h
  rcases List.mem_cons.1 hp with rfl|hp
  ·exact h.1.1
  ·exact ckRow_mem h.2 p hp
theorem ckRight_parts{c:Ck}(h:ckRight c=0):c.l.length≤4096∧(1≤c.vol∧c.vol≤65535∧1≤c.gen∧c.gen≤2147483647∧c.upto≤16777216)∧∀ p∈c.l,p.off≤16777216∧p.len≤4096:=by
 unfold ckRight at h
 split at h
 ·cases h
 split at h
 ·rename_i h1 h2
  simp only [Bool.and_eq_true] at h2
  exact ⟨by omega,by simpa [ckNums] using h2.1,fun p hp=>ckPos_le (ckRow_mem h2.2 p hp)⟩
 ·cases h
end Go.Proofs.YtfpjfoajonbndaaGreatDoor
