import Derived.Test.YtfpjfoajonbndaaGreatDoorIxPlain
import Derived.Test.YtfpjfoajonbndaaGreatDoorCh1
namespace Go.Proofs.YtfpjfoajonbndaaGreatDoor
structure Ck where
 vol:Nat
 gen:Nat
 upto:Nat
 l:List Ps
def ckPos (p:Ps):Bool:=decide (p.off≤16777216) && (decide (p.len≤4096) && (!p.gone || decide (p.len=0)))
def ckNums (c:Ck):Bool:=decide (1≤c.vol∧c.vol≤65535∧1≤c.gen∧c.gen≤2147483647∧c.upto≤16777216)
def ckRow:Option Nat→List Ps→Bool
 | _,[]=>true
 | k,p :: r=>ckPos p && (match k with|none=>true|some x=>decide (x<p.key)) && ckRow (some p.key) r
def ckRight (c:Ck):Nat:=if 4096<c.l.length then 2 else if ckNums c && ckRow none c.l then 0 else 1
def posB (p:Ps):List UInt8:=le 8 p.key ++ (le 4 p.off ++ (le 4 p.len ++ (le 4 p.cookie ++ le 4 (if p.gone then 1 else 0))))
def ckHead (c:Ck):List UInt8:=le 4 1128811344 ++ le 4 c.vol ++ le 4 c.gen ++ le 4 c.upto ++ le 4 c.l.length
def ckBody (c:Ck):List UInt8:=ckHead c ++ c.l.flatMap posB
def ckB (c:Ck):List UInt8:=ckBody c ++ le 4 (sumOf (ckBody c)).toNat
theorem posB_len(p:Ps):(posB p).length=24:=by simp [posB,le_len]
theorem posBs_len:∀ (l:List Ps),(l.flatMap posB).length=24 * l.length
 | []=>rfl
 | p :: r=>by rw [List.flatMap_cons,List.length_append,posB_len,posBs_len r,List.length_cons];omega
theorem ckHead_len(c:Ck):(ckHead c).length=20:=by simp [ckHead,le_len]
theorem ckBody_len(c:Ck):(ckBody c).length=20+24 * c.l.length:=by unfold ckBody;rw [List.length_append,ckHead_len,posBs_len]
theorem ckB_len(c:Ck):(ckB c).length=24+24 * c.l.length:=by unfold ckB;rw [List.length_append,ckBody_len,le_len];omega
def ckPre (b:Bool) (l:List Ps) (k:Nat):Bool:=b && ckRow none (l.take k)
theorem ckRow_snoc:∀ (l:List Ps) (k:Option Nat) (p:Ps),ckRow k (l ++ [p])=(ckRow k l && (ckPos p && (match (match l.getLast? with|some q=>some q.key|none=>k) with|none=>true|some x=>decide (x<p.key))))
 | [],k,p=>by simp [ckRow]
 | q :: r,k,p=>by
  show (ckPos q && _ && ckRow (some q.key) (r ++ [p]))=((ckPos q && _ && ckRow (some q.key) r) && _)
  rw [ckRow_snoc r (some q.key) p,Bool.and_assoc,Bool.and_assoc,Bool.and_assoc]
  congr 3
  cases r with
  | nil=>rfl
  | cons a r=>
   rw [List.getLast?_cons_cons]
   cases h:(a :: r).getLast? with
   | none=>simp at h
   | some x=>rfl
theorem ckPre_zero(b:Bool)(l:List Ps):ckPre b l 0=b:=by simp [ckPre,ckRow]
def ckPrev (l:List Ps):Nat→Ps→Bool
 | 0,_=>true
 | j+1,p=>match l[j]? with|some q=>decide (q.key<p.key)|none=>true
theorem ckPre_succ(b:Bool)(l:List Ps)(k:Nat)(p:Ps)(hp:l[k]? = some p):ckPre b l (k+1)=(ckPre b l k && (ckPos p && ckPrev l k p)):=by
 unfold ckPre
 have hk:k<l.length:=(List.getElem?_eq_some_iff.1 hp).1
 rw [List.take_add_one,hp]
 show (b && ckRow none (l.take k ++ [p]))=_
 rw [ckRow_snoc,Bool.and_assoc]
 congr 3
 cases k with
 | zero=>simp [ckPrev]
 | succ j=>
  have e:(l.take (j+1)).getLast? = l[j]?:=by
   rw [List.getLast?_eq_getElem?,List.length_take,Nat.min_eq_left (by omega)]
   simp
  rw [e]
  show (match (match l[j]? with|some q=>some q.key|none=>none) with|none=>true|some x=>decide (x<p.key))=(match l[j]? with|some q=>decide (q.key<p.key)|none=>true)
  cases l[j]? <;> rfl
end Go.Proofs.YtfpjfoajonbndaaGreatDoor
