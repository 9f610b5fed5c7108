import Derived.Test.YtfpjfoajonbndaaGreatDoorCsShipTake
import Derived.Test.YtfpjfoajonbndaaGreatDoorCs2
namespace Go.Proofs.YtfpjfoajonbndaaGreatDoor
set_option maxHeartbeats 8000000
set_option maxRecDepth 100000
open Go.RowKit
set_option maxRecDepth 100000
set_option maxHeartbeats 8000000
open Go.RowKit
theorem ref09_new(num most epoch:Int)(w:World) :
  Calls Tryz.prog 16 #[.int .i64 num,.int .i64 most,.int .i64 epoch] w fun e w'=>e=.returned (.agg #[.int .i64 num,.int .i64 most,.int .i64 epoch,.int .i64 16,.bool false,.slice none 0 0,.slice none 0 0])∧Below w.heap.size w w':=by
 go_enter Tryz.func16,Tryz.ntmps16
 go_wp2
 refine bodyPost_ret (v:=?_) ?_ rfl ?_
 rotate_left;(focus (simp [results,Tryz.results16,go_sem];exact rfl))
 exact ⟨rfl,belo⟩
theorem long_names{num:Nat}(h:num≤65535):(vName num 1).length≤maxLen∧(sName num).length≤maxLen∧(mName num).length≤maxLen:=by
 have h3:=digits_len (n:=num) (k:=5) (by omega) (by omega)
 have h4:=digits_len (n:=1) (k:=1) (by omega) (by omega)
 refine ⟨?_,?_,?_⟩
 ·unfold vName maxLen;simp;omega
 ·unfold sName mName maxLen;simp;omega
 ·unfold mName maxLen;simp;omega
theorem set7i_keeps(w:World)(b:Nat)(u0 u1 u2 u3 u4 u5 u6:Value):Keeps (fun k=>k=b) w (set7i w b u0 u1 u2 u3 u4 u5 u6):=by
 unfold set7i
 exact (((((((Keeps.refl (fun k=>k=b) w).setCell ⟨b,0,none⟩ u0 (fun _=>rfl)).setCell ⟨b,1,none⟩ u1 (fun _=>rfl)).setCell ⟨b,2,none⟩ u2 (fun _=>rfl)).setCell ⟨b,3,none⟩ u3 (fun _=>rfl)).setCell ⟨b,4,none⟩ u4 (fun _=>rfl)).setCell ⟨b,5,none⟩ u5 (fun _=>rfl)).setCell ⟨b,6,none⟩ u6 (fun _=>rfl)
theorem VS.keeps{w w':World}{vp dp K:Nat}{P F:Nat→Prop}{d:Dk}{v:Vl}(h:VS w vp dp P K d v)(hk:Keeps F w w')(hF:∀ k,k<w.heap.size→F k→P k):VS w' vp dp P K d v:=by
 obtain ⟨ix,vx,h1,h2,h3,h4⟩:=h
 have hk':Keeps P w w':=hk.mono hF
 exact ⟨ix,vx,h1.keeps hk' (fun k hf hp=>(h3 k hf).1 hp),h2.step hk' (fun k hp=>.inl hp) (fun k hp=>.inl hp),fun k hf=>⟨(h3 k hf).1,Nat.lt_of_lt_of_le (h3 k hf).2 hk.size⟩,h4⟩
theorem ixAt_zero(l:List Ps):ixAt l 0=0:=by
 cases l with
 | nil=>rfl
 | cons a r=>simp [ixAt]
theorem keys_zero(v:Vl){m:Int}(hm:1≤m)(h:v.idx.length≤m.toNat):v.keys 0 m=v.idx:=by
 unfold Vl.keys
 rw [if_neg (by omega),ixAt_zero,List.drop_zero,List.take_of_length_le h]
end Go.Proofs.YtfpjfoajonbndaaGreatDoor
