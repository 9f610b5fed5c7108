import Derived.Test.YtfpjfoajonbndaaGreatDoorChHeadsR
import Derived.Test.YtfpjfoajonbndaaGreatDoorCh14
import Derived.Test.YtfpjfoajonbndaaGreatDoorCh17
import Derived.Test.YtfpjfoajonbndaaGreatDoorChVolTidy
namespace Go.Proofs.YtfpjfoajonbndaaGreatDoor
set_option maxHeartbeats 8000000
set_option maxRecDepth 100000
open Go.RowKit
set_option maxRecDepth 100000
set_option maxHeartbeats 8000000
open Go.RowKit
def set2 (w:World) (b:Nat) (u0 u1:Value):World:=(w.setCell ⟨b,0,none⟩ u0).setCell ⟨b,1,none⟩ u1
theorem store2{w:World}{b:Nat}{v0 v1:Value}{t:TypeId}(h:w.heap[b]? = some (.cells #[v0,v1] t (0,0)))(u0 u1:Value):(set2 w b u0 u1).heap[b]? = some (.cells #[u0,u1] t (0,0)):=by
 have h0:(w.setCell ⟨b,0,none⟩ u0).heap[b]? = some (.cells #[u0,v1] t (0,0)):=by simpa using heap_setCell_same w b 0 _ t u0 h
 simpa [set2] using heap_setCell_same _ b 1 _ t u1 h0
theorem set2_below{B b:Nat}{w:World}(h:B≤b)(u0 u1:Value):Below B w (set2 w b u0 u1):=by
 unfold set2
 exact belo
theorem scells{w:World}{b:Nat}{v0 v1:Value}{t:TypeId}(h:w.heap[b]? = some (.cells #[v0,v1] t (0,0))):w.cell? ⟨b,0,none⟩=some v0∧w.cell? ⟨b,1,none⟩=some v1:=by
 refine ⟨?_,?_⟩ <;> (rw [cell_of_row w b _ _ _ _ h];rfl)
theorem sfree{w:World}{b:Nat}{v0 v1:Value}{t:TypeId}(h:w.heap[b]? = some (.cells #[v0,v1] t (0,0))):w.frozen? ⟨b,0,none⟩=false∧w.frozen? ⟨b,1,none⟩=false:=⟨frozen_of_row w b 0 _ _ h,frozen_of_row w b 1 _ _ h⟩
theorem rightV_parts{v g e:Nat}(h:rightV v g e=true):v<4294967296∧g<4294967296∧e<4294967296:=by
 simp only [rightV,Bool.and_eq_true,decide_eq_true_eq] at h
 omega
theorem gsuper_good(bk o n c v g:Nat)(r:List UInt8)(w:World)(hri:rightV v g 0=true)(h:Reads w 1 (.slice (some ⟨bk,o,none⟩) n c) n ((superB v g ++ r).map bv))(hlen:(superB v g ++ r).length=n)(hc:n≤c)(hn:n≤70368744177664) :
  Calls Tryz.prog 148 #[.slice (some ⟨bk,o,none⟩) n c] w fun e w'=>e=.returned (.tuple #[.agg #[.int .i64 v,.int .i64 g],.nilIface])∧Below w.heap.size w w':=by
 have hv:=rightV_parts hri
 have HRI:=Hd hri
 have HRD:=Hd (fun (w0:World) (hb:Below w.heap.size w w0)=>hread_good bk o n c [0x43524942,v,g] r 3 0x43524942 w0 (h.below hb) hlen hc hn 16 rfl rfl (by omega) (fun x hx=>by
  simp only [List.mem_cons,List.not_mem_nil,or_false] at hx
  rcases hx with rfl|rfl|rfl
  ·decide
  ·omega
  ·omega) rfl)
 clear h hlen hc hri
 go_enter Tryz.func148,Tryz.ntmps148
 go_wp2_with fail
 obtain ⟨w0,hw0⟩:∃ w0:World,w0=w.alloc (.cells #[.int .i64 0,.int .i64 0] 110):=⟨_,rfl⟩
 have HB0:=Hd (show Below w.heap.size w w0 by rw [hw0];exact belo)
 have kb0:w0.heap[w.heap.size]? = some (.cells #[.int .i64 0,.int .i64 0] 110 (0,0)):=by rw [hw0];exact heap_new w _
 have hl0:=blk_lt kb0
 rw [←hw0]
 clear hw0
 refine (show Calls Tryz.prog 107 #[.slice (some ⟨bk,o,none⟩) n c,.int .i64 16,.int .i64 1129466178] w0 (WordsTo w0 [0x43524942,v,g]) from HRD.out w0 HB0.out).mono ?_
 rintro e w1 ⟨gb,cap,rfl,hcap,hcell,hg1,hg2,hb1⟩
 have HB1:=Hd (HB0.out.trans (hb1.mono HB0.out.size))
 have kb1:=(hb1.block w.heap.size hl0).trans kb0
 have hl1:=blk_lt kb1
 have r1:=hcell 1 v rfl
 have r2:=hcell 2 g rfl
 unfold iv at r1 r2
 have hz1:=HB1.out.size
 have hgne:gb≠w.heap.size:=by omega
 have p0:w1.cell? ⟨w.heap.size,0,none⟩=some (.int .i64 0):=by rw [cell_of_row w1 _ _ _ _ _ kb1];rfl
 have p1:w1.cell? ⟨w.heap.size,1,none⟩=some (.int .i64 0):=by rw [cell_of_row w1 _ _ _ _ _ kb1];rfl
 have f0:=frozen_of_row w1 w.heap.size 0 _ _ kb1
 have f1:=frozen_of_row w1 w.heap.size 1 _ _ kb1
 have KB1:=Hd kb1
 clear kb0 hb1 hcell kb1
 go_upto_region 4 with fail
 refine wp_region_now0 [2,5] [(0,0),(1,0),(2,2),(3,0),(4,0),(5,2),(6,1),(7,0)] (by kernel_rfl) (by kernel_rfl) rfl (by kernel_rfl) ?_
 (iterate 2 refine stepE0 rfl rfl fun K hK=>?_;go_simp;refine hK _ ?_;clear hK K);refine stepE2 rfl rfl ?_ (fun w1 hS=>?_) fun K hK=>?_;rotate_left;(focus (obtain rfl:w1=_:=hS;go_simp;rfl));go_simp;refine hK _ ?_;clear hK K;(iterate 2 refine stepE0 rfl rfl fun K hK=>?_;go_simp;refine hK _ ?_;clear hK K);refine stepE2 rfl rfl ?_ (fun w1 hS=>?_) fun K hK=>?_;rotate_left;(focus (obtain rfl:w1=_:=hS;go_simp;rfl));go_simp;refine hK _ ?_;clear hK K;refine stepE1 rfl rfl (by kernel_rfl) fun K hK=>?_
 (go_wp2_with fail;refine (hright_yes v g 0 HRI.out _).mono ?_;rintro e wx ⟨rfl,rfl⟩;go_wp2)
 refine stepE0 rfl rfl fun K hK=>?_;go_simp;refine hK _ ?_;clear hK K
 try refine stepEnil0 ?_
 go_upto_region 6 with fail
 refine wp_region_now0 [2,5] [(0,0),(1,0),(2,2),(3,0),(4,0),(5,2),(6,0),(7,1),(8,0)] (by kernel_rfl) (by kernel_rfl) rfl (by kernel_rfl) ?_
 (iterate 2 refine stepE0 rfl rfl fun K hK=>?_;go_simp;refine hK _ ?_;clear hK K);refine stepE2 rfl rfl ?_ (fun w1 hS=>?_) fun K hK=>?_;rotate_left;(focus (obtain rfl:w1=_:=hS;go_simp;rfl));go_simp;refine hK _ ?_;clear hK K;(iterate 2 refine stepE0 rfl rfl fun K hK=>?_;go_simp;refine hK _ ?_;clear hK K);refine stepE2 rfl rfl ?_ (fun w1 hS=>?_) fun K hK=>?_;rotate_left;(focus (obtain rfl:w1=_:=hS;go_simp;rfl));go_simp;refine hK _ ?_;clear hK K;refine stepE0 rfl rfl fun K hK=>?_;go_simp;refine hK _ ?_;clear hK K;refine stepE1 rfl rfl (by kernel_rfl) fun K hK=>?_;go_wp2;refine stepE0 rfl rfl fun K hK=>?_;go_simp;refine hK _ ?_;clear hK K
 try refine stepEnil0 ?_
 go_wp2
 obtain ⟨wf,hwf⟩:∃ wf,wf=(set2 w1 w.heap.size (.int .i64 v) (.int .i64 g)).drew.drew:=⟨_,rfl⟩
 have HBF:=Hd (show Below w.heap.size w wf by rw [hwf];exact HB1.out.trans (Below.drew (Below.drew (set2_below (Nat.le_refl _) _ _))))
 have kbf:((set2 w1 w.heap.size (.int .i64 v) (.int .i64 g)).drew.drew).heap[w.heap.size]? = some (.cells #[.int .i64 v,.int .i64 g] 110 (0,0)):=store2 KB1.out (.int .i64 v) (.int .i64 g)
 rw [←hwf] at kbf
 obtain ⟨s0,s1⟩:=scells kbf
 unfold set2 at hwf
 rw [←hwf]
 refine bodyPost_ret (v:=?_) ?_ rfl ?_
 rotate_left;(focus (simp [results,Tryz.results148,go_sem,s0,s1];exact rfl))
 exact ⟨rfl,HBF.out⟩
theorem gman_good(bk o c v g e:Nat)(s:Bool)(w:World)(hri:rightV v g e=true)(h:Reads w 1 (.slice (some ⟨bk,o,none⟩) 24 c) 24 ((manB v g e s).map bv))(hc:24≤c) :
  Calls Tryz.prog 60 #[.slice (some ⟨bk,o,none⟩) 24 c] w fun r w'=>r=.returned (.tuple #[.agg #[.int .i64 v,.int .i64 g,.int .i64 e,.bool s],.nilIface])∧Below w.heap.size w w':=by
 have hv:=rightV_parts hri
 have HRI:=Hd hri
 obtain ⟨sn,hsn⟩:∃ sn:Nat,sn=if s then 1 else 0:=⟨_,rfl⟩
 have HRD:=Hd (fun (w0:World) (hb:Below w.heap.size w w0)=>hread_good bk o 24 c [0x4D414E49,v,g,e,if s then 1 else 0] [] 5 0x4D414E49 w0 (by rw [List.append_nil];exact h.below hb) (by rw [List.append_nil];exact manB_len v g e s) hc (by omega) 24 rfl rfl (by omega) (fun x hx=>by
  simp only [List.mem_cons,List.not_mem_nil,or_false] at hx
  rcases hx with rfl|rfl|rfl|rfl|rfl
  ·decide
  ·omega
  ·omega
  ·omega
  ·cases s <;> decide) rfl)
 rw [←hsn] at HRD
 clear h hc hri
 go_enter Tryz.func60,Tryz.ntmps60
 go_upto_region 3 with fail
 obtain ⟨w0,hw0⟩:∃ w0:World,w0=w.alloc (.cells #[.int .i64 0,.int .i64 0,.int .i64 0,.bool false] 113):=⟨_,rfl⟩
 have HB0:=Hd (show Below w.heap.size w w0 by rw [hw0];exact belo)
 have kb0:w0.heap[w.heap.size]? = some (.cells #[.int .i64 0,.int .i64 0,.int .i64 0,.bool false] 113 (0,0)):=by rw [hw0];exact heap_new w _
 have hl0:=blk_lt kb0
 rw [←hw0]
 clear hw0
 go_wp2_with fail
 refine (show Calls Tryz.prog 107 #[.slice (some ⟨bk,o,none⟩) 24 c,.int .i64 24,.int .i64 1296125513] w0 (WordsTo w0 [0x4D414E49,v,g,e,sn]) from HRD.out w0 HB0.out).mono ?_
 rintro r w1 ⟨gb,cap,rfl,hcap,hcell,hg1,hg2,hb1⟩
 have HB1:=Hd (HB0.out.trans (hb1.mono HB0.out.size))
 have kb1:=(hb1.block w.heap.size hl0).trans kb0
 have hl1:=blk_lt kb1
 have r1:=hcell 1 v rfl
 have r2:=hcell 2 g rfl
 have r3:=hcell 3 e rfl
 have r4:=hcell 4 sn rfl
 unfold iv at r1 r2 r3 r4
 have hz1:=HB1.out.size
 have hgne:gb≠w.heap.size:=by omega
 have KB1:=Hd kb1
 clear kb0 hb1 hcell kb1
 go_upto_region 6 with fail
 have HRG:=Hd (hright_yes v g e HRI.out)
 cases s with
 | false=>
  simp only [Bool.false_eq_true,if_false] at hsn
  subst hsn
  obtain ⟨SS,HSD⟩:∃ SS:World→Prop,Hid (SS=fun w'=>w'.cell? ⟨gb,1,none⟩=some (.int .i64 v)∧w'.cell? ⟨gb,2,none⟩=some (.int .i64 g)∧w'.cell? ⟨gb,3,none⟩=some (.int .i64 e)):=⟨_,Hd rfl⟩
  refine wp_region_order0 SS [2,5,8] [(0,0),(1,0),(2,2),(3,0),(4,0),(5,2),(6,0),(7,0),(8,2),(9,0),(10,1),(11,1)] (by kernel_rfl) (by kernel_rfl) rfl (by kernel_rfl) ?_ ?_
  (focus (rw [HSD.out];exact ⟨r1,r2,r3⟩));(iterate 2 refine stepE0 rfl rfl fun K hK=>?_;go_simp;refine hK _ ?_;clear hK K);refine stepE2 rfl rfl ?_ (fun w1 hS=>?_) fun K hK=>?_;rotate_left;(focus (rw [HSD.out] at hS;obtain ⟨s1,s2,s3⟩:=hS;go_simp;rfl));go_simp;refine hK _ ?_;clear hK K;(iterate 2 refine stepE0 rfl rfl fun K hK=>?_;go_simp;refine hK _ ?_;clear hK K);refine stepE2 rfl rfl ?_ (fun w1 hS=>?_) fun K hK=>?_;rotate_left;(focus (rw [HSD.out] at hS;obtain ⟨s1,s2,s3⟩:=hS;go_simp;rfl));go_simp;refine hK _ ?_;clear hK K;(iterate 2 refine stepE0 rfl rfl fun K hK=>?_;go_simp;refine hK _ ?_;clear hK K);refine stepE2 rfl rfl ?_ (fun w1 hS=>?_) fun K hK=>?_;rotate_left;(focus (rw [HSD.out] at hS;obtain ⟨s1,s2,s3⟩:=hS;go_simp;rfl));go_simp;refine hK _ ?_;clear hK K;refine stepE0 rfl rfl fun K hK=>?_;go_simp;refine hK _ ?_;clear hK K;refine stepE1S rfl rfl fun K hK=>?_;go_wp2
  refine ⟨by rw [HSD.out];exact (⟨((bcell (Below.alloc (Below.refl _ _) (Nat.le_refl _) _)).1 _ _ hg2).trans r1,((bcell (Below.alloc (Below.refl _ _) (Nat.le_refl _) _)).1 _ _ hg2).trans r2,((bcell (Below.alloc (Below.refl _ _) (Nat.le_refl _) _)).1 _ _ hg2).trans r3⟩),?_⟩
  refine stepE1 rfl rfl (by kernel_rfl) fun K hK=>?_;go_wp2
  try refine stepEnil0 ?_
  clear HSD SS
  obtain ⟨w2,hw2⟩:∃ w2:World,w2=(w1.alloc (.cells #[.int .i64 v,.int .i64 g,.int .i64 e,.bool false] 113)).drew:=⟨_,rfl⟩
  have hb12:Below w1.heap.size w1 w2:=by rw [hw2];exact belo
  have KM2:=Hd (show w2.heap[w1.heap.size]? = some (.cells #[.int .i64 v,.int .i64 g,.int .i64 e,.bool false] 113 (0,0)) by rw [hw2];exact heap_new w1 _)
  have HB2:=Hd (HB1.out.trans (hb12.mono hz1))
  have KB2:=Hd (blk_below' KB1.out hb12)
  have r5:w2.cell? ⟨gb,4,none⟩=some (.int .i64 0):=(hb12.cell hg2).trans r4
  have hz2:=hb12.size
  have hlm:=blk_lt KM2.out
  rw [←hw2]
  clear hw2 hb12 r1 r2 r3 r4
  obtain ⟨m0,m1,m2,m3⟩:=ncells KM2.out
  obtain ⟨f0,f1,f2,f3⟩:=nfree KM2.out
  obtain ⟨e0,e1,e2,e3⟩:=nfree KB2.out
  obtain ⟨x0,x1,x2,x3⟩:=ncells KB2.out
  have hl2:=blk_lt KB2.out
  have hmne:w1.heap.size≠w.heap.size:=by omega
  go_upto_region 11 with fail
  go_wp2_with fail
  refine (HRG.out _).mono ?_
  rintro r wx ⟨rfl,rfl⟩
  go_wp2
  obtain ⟨wf,hwf⟩:∃ wf,wf=set4 w2 w.heap.size (.int .i64 v) (.int .i64 g) (.int .i64 e) (.bool false):=⟨_,rfl⟩
  have HBF:=Hd (show Below w.heap.size w wf by rw [hwf];exact HB2.out.trans (set4_below (Nat.le_refl _) _ _ _ _))
  have kbf:=store4 KB2.out (.int .i64 v) (.int .i64 g) (.int .i64 e) (.bool false)
  rw [←hwf] at kbf
  obtain ⟨s0,s1,s2,s3⟩:=ncells kbf
  unfold set4 at hwf
  rw [←hwf]
  refine bodyPost_ret (v:=?_) ?_ rfl ?_
  rotate_left;(focus (simp [results,Tryz.results60,go_sem,s0,s1,s2,s3];exact rfl))
  exact ⟨rfl,HBF.out⟩
 | true=>
  simp only [if_true] at hsn
  subst hsn
  obtain ⟨SS,HSD⟩:∃ SS:World→Prop,Hid (SS=fun w'=>w'.cell? ⟨gb,1,none⟩=some (.int .i64 v)∧w'.cell? ⟨gb,2,none⟩=some (.int .i64 g)∧w'.cell? ⟨gb,3,none⟩=some (.int .i64 e)):=⟨_,Hd rfl⟩
  refine wp_region_order0 SS [2,5,8] [(0,0),(1,0),(2,2),(3,0),(4,0),(5,2),(6,0),(7,0),(8,2),(9,0),(10,1),(11,1)] (by kernel_rfl) (by kernel_rfl) rfl (by kernel_rfl) ?_ ?_
  (focus (rw [HSD.out];exact ⟨r1,r2,r3⟩));(iterate 2 refine stepE0 rfl rfl fun K hK=>?_;go_simp;refine hK _ ?_;clear hK K);refine stepE2 rfl rfl ?_ (fun w1 hS=>?_) fun K hK=>?_;rotate_left;(focus (rw [HSD.out] at hS;obtain ⟨s1,s2,s3⟩:=hS;go_simp;rfl));go_simp;refine hK _ ?_;clear hK K;(iterate 2 refine stepE0 rfl rfl fun K hK=>?_;go_simp;refine hK _ ?_;clear hK K);refine stepE2 rfl rfl ?_ (fun w1 hS=>?_) fun K hK=>?_;rotate_left;(focus (rw [HSD.out] at hS;obtain ⟨s1,s2,s3⟩:=hS;go_simp;rfl));go_simp;refine hK _ ?_;clear hK K;(iterate 2 refine stepE0 rfl rfl fun K hK=>?_;go_simp;refine hK _ ?_;clear hK K);refine stepE2 rfl rfl ?_ (fun w1 hS=>?_) fun K hK=>?_;rotate_left;(focus (rw [HSD.out] at hS;obtain ⟨s1,s2,s3⟩:=hS;go_simp;rfl));go_simp;refine hK _ ?_;clear hK K;refine stepE0 rfl rfl fun K hK=>?_;go_simp;refine hK _ ?_;clear hK K;refine stepE1S rfl rfl fun K hK=>?_;go_wp2
  refine ⟨by rw [HSD.out];exact (⟨((bcell (Below.alloc (Below.refl _ _) (Nat.le_refl _) _)).1 _ _ hg2).trans r1,((bcell (Below.alloc (Below.refl _ _) (Nat.le_refl _) _)).1 _ _ hg2).trans r2,((bcell (Below.alloc (Below.refl _ _) (Nat.le_refl _) _)).1 _ _ hg2).trans r3⟩),?_⟩
  refine stepE1 rfl rfl (by kernel_rfl) fun K hK=>?_;go_wp2
  try refine stepEnil0 ?_
  clear HSD SS
  obtain ⟨w2,hw2⟩:∃ w2:World,w2=(w1.alloc (.cells #[.int .i64 v,.int .i64 g,.int .i64 e,.bool false] 113)).drew:=⟨_,rfl⟩
  have hb12:Below w1.heap.size w1 w2:=by rw [hw2];exact belo
  have KM2:=Hd (show w2.heap[w1.heap.size]? = some (.cells #[.int .i64 v,.int .i64 g,.int .i64 e,.bool false] 113 (0,0)) by rw [hw2];exact heap_new w1 _)
  have HB2:=Hd (HB1.out.trans (hb12.mono hz1))
  have KB2:=Hd (blk_below' KB1.out hb12)
  have r5:w2.cell? ⟨gb,4,none⟩=some (.int .i64 1):=(hb12.cell hg2).trans r4
  have hz2:=hb12.size
  have hlm:=blk_lt KM2.out
  rw [←hw2]
  clear hw2 hb12 r1 r2 r3 r4
  obtain ⟨m0,m1,m2,m3⟩:=ncells KM2.out
  obtain ⟨f0,f1,f2,f3⟩:=nfree KM2.out
  obtain ⟨e0,e1,e2,e3⟩:=nfree KB2.out
  obtain ⟨x0,x1,x2,x3⟩:=ncells KB2.out
  have hl2:=blk_lt KB2.out
  have hmne:w1.heap.size≠w.heap.size:=by omega
  go_upto_region 11 with fail
  obtain ⟨w3,hw3⟩:∃ w3:World,w3=w2.setCell ⟨w1.heap.size,3,none⟩ (.bool true):=⟨_,rfl⟩
  have HB3:=Hd (show Below w.heap.size w w3 by rw [hw3];exact Below.setCell HB2.out (by omega) _)
  have KM3:=Hd (show w3.heap[w1.heap.size]? = some (.cells #[.int .i64 v,.int .i64 g,.int .i64 e,.bool true] 113 (0,0)) by rw [hw3];simpa using heap_setCell_same w2 w1.heap.size 3 _ _ (.bool true) KM2.out)
  have KB3:=Hd (show w3.heap[w.heap.size]? = some (.cells #[.int .i64 0,.int .i64 0,.int .i64 0,.bool false] 113 (0,0)) by rw [hw3];rw [heap_setCell_other w2 _ _ _ (show w.heap.size≠w1.heap.size by omega)];exact KB2.out)
  rw [←hw3]
  clear hw3 m0 m1 m2 m3 f0 f1 f2 f3 e0 e1 e2 e3 x0 x1 x2 x3 r5
  obtain ⟨m0,m1,m2,m3⟩:=ncells KM3.out
  obtain ⟨e0,e1,e2,e3⟩:=nfree KB3.out
  obtain ⟨x0,x1,x2,x3⟩:=ncells KB3.out
  have hl3:=blk_lt KB3.out
  have hlm3:=blk_lt KM3.out
  go_wp2_with fail
  refine (HRG.out _).mono ?_
  rintro r wx ⟨rfl,rfl⟩
  go_wp2
  obtain ⟨wf,hwf⟩:∃ wf,wf=set4 w3 w.heap.size (.int .i64 v) (.int .i64 g) (.int .i64 e) (.bool true):=⟨_,rfl⟩
  have HBF:=Hd (show Below w.heap.size w wf by rw [hwf];exact HB3.out.trans (set4_below (Nat.le_refl _) _ _ _ _))
  have kbf:=store4 KB3.out (.int .i64 v) (.int .i64 g) (.int .i64 e) (.bool true)
  rw [←hwf] at kbf
  obtain ⟨s0,s1,s2,s3⟩:=ncells kbf
  unfold set4 at hwf
  rw [←hwf]
  refine bodyPost_ret (v:=?_) ?_ rfl ?_
  rotate_left;(focus (simp [results,Tryz.results60,go_sem,s0,s1,s2,s3];exact rfl))
  exact ⟨rfl,HBF.out⟩
theorem ssuper_good(name:Nm)(bk o n c v g:Nat)(r:List UInt8)(w:World)(hri:rightV v g 0=true)(h:Reads w 1 (.slice (some ⟨bk,o,none⟩) n c) n ((superB v g ++ r).map bv))(hlen:(superB v g ++ r).length=n)(hc:n≤c)(hn:n≤70368744177664) :
  Calls Tryz.prog 108 #[.string ⟨name.toArray⟩,.slice (some ⟨bk,o,none⟩) n c] w fun e w'=>e=.returned (.tuple #[.agg #[.int .i64 v,.int .i64 g],.nilIface])∧Below w.heap.size w w':=by
 have HG:=Hd (fun (w0:World) (hb:Below w.heap.size w w0)=>gsuper_good bk o n c v g r w0 hri (h.below hb) hlen hc hn)
 clear h hlen hc hn hri
 go_enter Tryz.func108,Tryz.ntmps108
 go_upto_region 1 with fail
 obtain ⟨w0,hw0⟩:∃ w0:World,w0=w.alloc (.cells #[.int .i64 0,.int .i64 0] 110):=⟨_,rfl⟩
 have HB0:=Hd (show Below w.heap.size w w0 by rw [hw0];exact belo)
 have kb0:w0.heap[w.heap.size]? = some (.cells #[.int .i64 0,.int .i64 0] 110 (0,0)):=by rw [hw0];exact heap_new w _
 have hl0:=blk_lt kb0
 rw [←hw0]
 clear hw0
 go_wp2_with fail
 refine (HG.out _ HB0.out).mono ?_
 rintro e w1 ⟨rfl,hb1⟩
 have HB1:=Hd (HB0.out.trans (hb1.mono HB0.out.size))
 have kb1:=(hb1.block w.heap.size hl0).trans kb0
 have hl1:=blk_lt kb1
 have KB1:=Hd kb1
 clear kb0 hb1
 obtain ⟨x0,x1⟩:=scells kb1
 obtain ⟨f0,f1⟩:=sfree kb1
 clear kb1
 go_wp2
 obtain ⟨wf,hwf⟩:∃ wf,wf=(set2 w1 w.heap.size (.int .i64 v) (.int .i64 g)).alloc (.cells #[.int .i64 v,.int .i64 g] 110):=⟨_,rfl⟩
 have hb2:=set2_below (w:=w1) (B:=w.heap.size) (b:=w.heap.size) (Nat.le_refl _) (.int .i64 v) (.int .i64 g)
 have HBF:=Hd (show Below w.heap.size w wf by rw [hwf];exact HB1.out.trans (hb2.alloc (Nat.le_trans HB1.out.size hb2.size) _))
 have kbf:=alloc_blk (store2 KB1.out (.int .i64 v) (.int .i64 g)) (.cells #[.int .i64 v,.int .i64 g] 110)
 rw [←hwf] at kbf
 obtain ⟨s0,s1⟩:=scells kbf
 unfold set2 at hwf
 rw [←hwf]
 refine bodyPost_ret (v:=?_) ?_ rfl ?_
 rotate_left;(focus (simp [results,Tryz.results108,go_sem,s0,s1];exact rfl))
 exact ⟨rfl,HBF.out⟩
theorem found_size(off sz:Int)(p:Ps)(a:Option Addr)(c:Nat)(w:World) :
  Calls Tryz.prog 82 #[.agg #[.int .i64 off,.int .i64 sz,.int .u64 p.key,.int .u32 p.cookie,.bool p.gone,.slice a p.len c]] w fun e w'=>e=.returned (.agg #[.int .u64 p.key,.int .i64 off,.int .i64 p.len,.int .u32 p.cookie,.bool p.gone])∧Below w.heap.size w w':=by
 obtain ⟨key,of,len,cookie,gone⟩:=p
 simp only
 go_enter Tryz.func82,Tryz.ntmps82
 go_wp2
 refine bodyPost_ret (v:=?_) ?_ rfl ?_
 rotate_left;(focus (simp [results,Tryz.results82,go_sem];exact rfl))
 exact ⟨rfl,belo⟩
def LoadTo (w:World) (vp dp:Nat) (P:Nat→Prop) (K:Nat) (d:Dk) (v:Vl) (e:Ending) (w':World):Prop:=
 e=.returned .nilIface∧∃ ix vx,VolAt w' vp dp ix vx v∧(∀ k,(k=ix∨vx.ownBlock=some k)→w.heap.size≤k∧k<w'.heap.size)∧DS w' dp (fun k=>P k∨VFoot vp ix vx k) K d∧Keeps (fun k=>k=vp∨¬ P k) w w'
theorem load_ds{w:World}{vp dp K:Nat}{P:Nat→Prop}{d:Dk}{v:Vl}{ns2:List Nd}{D t pre:List UInt8}{l0:List Ps}{from':Nat}(h:DS w dp P K d)(hP:∀ k,P k→k<w.heap.size)(hPv:P vp)
  (hblk:w.heap[vp]? = some (.cells #[(.pointer (some ⟨dp,0,none⟩)),.int .i64 v.num,.int .i64 v.gen,.int .i64 v.epoch,.bool v.shut,.int .i64 v.most,.int .i64 0,.pointer none] 118 (0,0)))
  (ho:OpensB d v D t) (hn:NamesAt v.num v.gen) (hl:v.file.length≤maxLen) (hri:rightV v.num v.gen 0=true)
  (hbase:∀ w0:World,Below w.heap.size w w0→Calls Tryz.prog 109 #[(.pointer (some ⟨dp,0,none⟩)),.agg #[.int .i64 v.num,.int .i64 v.gen,.int .i64 v.epoch,.bool v.shut],.int .i64 ((v.size+t.length:Nat):Int)] w0 (BaseTo w0 l0 from'))
  (hpre:superB v.num v.gen ++ D=pre ++ ndsB ns2) (hpl:pre.length=from') (hok2:∀ m∈ns2,NdOk m) (hidx:putAll l0 (posL from' ns2)=v.idx) (hs0:IxS l0) (hlen:v.idx.length≤4096) (hcut:t≠[]→(d.cut v.file v.size).1=0) :
  Calls Tryz.prog 61 #[(.pointer (some ⟨vp,0,none⟩))] w (LoadTo w vp dp P K (d.mendT v t) v):=by
 obtain ⟨f,hgf,hfb⟩:=ho.data
 have hwh:=whole_at ho.armed hgf
 have hfl:(d.fileAt f).b.length=v.size+t.length:=by
  rw [hfb,List.length_append,superB_len,List.length_append,ho.size]
  omega
 have hbig:(d.fileAt f).b.length≤16777216:=(h.ok.at f).2
 obtain ⟨N,hN⟩:∃ N,N=v.size+t.length:=⟨_,rfl⟩
 rw [←hN] at hbase hfl
 have hN16:16≤N:=by rw [hN,ho.size];omega
 have hWH:=fun (w0:World) (hb:Below w.heap.size w w0)=>whole_ds (h.below hb) v.file hl
 rw [hwh] at hWH
 simp only at hWH
 rw [hfb] at hWH hfl
 have hdat2:superB v.num v.gen ++ (D ++ t)=pre ++ (ndsB ns2 ++ t):=by rw [←List.append_assoc,hpre,List.append_assoc]
 have hend:from'+(ndsB ns2).length=v.size:=by
  have:=congrArg List.length hpre
  rw [List.length_append,List.length_append,superB_len,hpl] at this
  rw [ho.size]
  omega
 have HEND:=Hd hend
 have HWH:=Hd hWH
 have HFL:=Hd hfl
 have HD2:=Hd hdat2
 have HDS:=Hd h
 have HPP:=Hd hP
 have HPV:=Hd hPv
 have HN:=Hd hn
 have HNV:=Hd (show namesV v.num v.gen=.tuple #[.string ⟨v.file.toArray⟩,.string ⟨(cName v.num v.gen).toArray⟩,.string ⟨(mName v.num).toArray⟩,.string ⟨(sName v.num).toArray⟩] from rfl)
 have HL:=Hd hl
 have HRI:=Hd hri
 have HBA:=Hd hbase
 have HPL:=Hd hpl
 have HOK2:=Hd hok2
 have HTL:=Hd ho.tail
 have HIDX:=Hd hidx
 have HS0:=Hd hs0
 have HLEN:=Hd hlen
 have HCUT:=Hd hcut
 have HBK:=Hd hblk
 have hvl:=blk_lt hblk
 have hvsN:v.size≤N:=by omega
 have hNle:N≤16777216:=by rw [←hfl,←hfb];exact hbig
 clear h hP hPv hblk ho hn hl hri hbase hpre hpl hok2 hidx hs0 hlen hcut hgf hfb hwh hfl hbig hWH hdat2 hend hN
 have c0:w.cell? ⟨vp,0,none⟩=some (.pointer (some ⟨dp,0,none⟩)):=by rw [cell_of_row w vp _ _ _ _ HBK.out];rfl
 have c1:w.cell? ⟨vp,1,none⟩=some (.int .i64 v.num):=by rw [cell_of_row w vp _ _ _ _ HBK.out];rfl
 have c2:w.cell? ⟨vp,2,none⟩=some (.int .i64 v.gen):=by rw [cell_of_row w vp _ _ _ _ HBK.out];rfl
 have c3:w.cell? ⟨vp,3,none⟩=some (.int .i64 v.epoch):=by rw [cell_of_row w vp _ _ _ _ HBK.out];rfl
 have c4:w.cell? ⟨vp,4,none⟩=some (.bool v.shut):=by rw [cell_of_row w vp _ _ _ _ HBK.out];rfl
 go_enter Tryz.func61,Tryz.ntmps61
 go_upto_region 1 with fail
 obtain ⟨SS,HSD⟩:∃ SS:World→Prop,Hid (SS=fun w'=>w'.cell? ⟨vp,1,none⟩=some (.int .i64 v.num)∧w'.cell? ⟨vp,2,none⟩=some (.int .i64 v.gen)):=⟨_,Hd rfl⟩
 refine wp_region_mask0 SS [4,9] [0,1,3,7,15,0,32,96,224,480,1023,2047,4095,4095,4095,4095,8191,81919,229375,524287] (.op 0 0 (.op 1 0 (.op 2 0 (.op 3 0 (.op 4 2 (.op 5 0 (.op 6 0 (.op 7 0 (.op 8 0 (.op 9 2 (.op 10 1 (.op 11 0 (.op 12 0 (.op 13 0 (.op 14 0 (.op 15 0 (.op 16 0 (.op 17 0 (.op 18 0 (.op 19 0 .nil)))))))))))))))))))) (by kernel_rfl) (by kernel_rfl) rfl (by kernel_rfl) (by kernel_rfl) ?_ ?_
 (focus (rw [HSD.out];exact ⟨c1,c2⟩));(iterate 4 refine stepM0 rfl rfl fun K hK=>?_;go_simp;refine hK _ ?_;clear hK K);refine stepM2 rfl rfl ?_ (fun w1 hS=>?_) fun K hK=>?_;rotate_left;(focus (rw [HSD.out] at hS;obtain ⟨s1,s2⟩:=hS;go_simp;rfl));go_simp;refine hK _ ?_;clear hK K;(iterate 4 refine stepM0 rfl rfl fun K hK=>?_;go_simp;refine hK _ ?_;clear hK K);refine stepM2 rfl rfl ?_ (fun w1 hS=>?_) fun K hK=>?_;rotate_left;(focus (rw [HSD.out] at hS;obtain ⟨s1,s2⟩:=hS;go_simp;rfl));go_simp;refine hK _ ?_;clear hK K;refine stepM1 rfl rfl (by kernel_rfl) fun K hK=>?_
 (go_wp2_with fail;refine Calls.mono (HN.out _) ?_;rintro e w2 ⟨rfl,rfl⟩;rw [HNV.out];go_wp2)
 (iterate 9 refine stepM0 rfl rfl fun K hK=>?_;go_simp;refine hK _ ?_;clear hK K)
 try refine stepMnil0 ?_
 clear HSD SS
 go_upto_region 2 with fail
 obtain ⟨wa,hwa⟩:∃ wa:World,wa=w.drew:=⟨_,rfl⟩
 have HBa:=Hd (show Below w.heap.size w wa by rw [hwa];exact belo)
 have hca:∀ ad:Addr,wa.cell? ad=w.cell? ad:=fun ad=>by rw [hwa];rfl
 have a0:=(hca ⟨vp,0,none⟩).trans c0
 have hvla:vp<wa.heap.size:=Nat.lt_of_lt_of_le hvl HBa.out.size
 rw [←hwa]
 clear hwa hca c0 c1 c2 c3 c4
 go_wp2_with fail
 refine (HWH.out _ HBa.out).mono ?_
 rintro e w1 ⟨vb,rfl,hob,hb1⟩
 have HB1:=Hd (HBa.out.trans (hb1.mono HBa.out.size))
 have hrb:=reads_of_owns hob
 have hfl:=HFL.out
 rw [hfl] at hob hrb
 obtain ⟨bk,o,cb,rfl,hbk,-,-⟩:=reads_at hrb (by omega) (by omega)
 obtain ⟨a2,c2,e2,hcb⟩:=slice_of hob
 obtain ⟨-,-,rfl⟩:=sl_inj e2
 have HRB:=Hd hrb
 have HNB:=Hd (show w.heap.size≤bk from Nat.le_trans HBa.out.size (hob.lt bk (by
  rcases hob.2 with ⟨h2,_⟩|⟨g3,cap3,cur3,h2,_⟩
  ·cases h2
  ·obtain ⟨h4,-,-⟩:=sl_inj h2
   injection h4 with h4
   injection h4 with h4 h5
   subst h4 h5
   rfl)).1)
 have hz1:=HB1.out.size
 have b0:=(hb1.cell hvla).trans a0
 clear hob hb1 e2 hrb hfl a0
 rw [show errV ((0:Nat):Int)=.nilIface from rfl]
 go_upto_region 7 with fail
 go_wp2_with fail
 refine (ssuper_good v.file bk o N cb v.num v.gen (D ++ t) w1 HRI.out HRB.out HFL.out hcb (by omega)).mono ?_
 rintro e w2 ⟨rfl,hb2⟩
 have HB2:=Hd (HB1.out.trans (hb2.mono hz1))
 have HRB2:=Hd (HRB.out.below hb2)
 clear hb2
 go_upto_region 10 with fail
 obtain ⟨w3,hw3⟩:∃ w3:World,w3=w2.alloc (.cells #[.int .i64 v.num,.int .i64 v.gen] 110):=⟨_,rfl⟩
 have hb23:Below w2.heap.size w2 w3:=by rw [hw3];exact belo
 have HB3:=Hd (HB2.out.trans (hb23.mono HB2.out.size))
 have HRB3:=Hd (HRB2.out.below hb23)
 have KS3:=Hd (show w3.heap[w2.heap.size]? = some (.cells #[.int .i64 v.num,.int .i64 v.gen] 110 (0,0)) by rw [hw3];exact heap_new w2 _)
 rw [←hw3]
 clear hw3 hb23 b0
 obtain ⟨y0,y1⟩:=scells KS3.out
 have hb3:=(HB3.out.block vp hvl).trans HBK.out
 have c0:w3.cell? ⟨vp,0,none⟩=some (.pointer (some ⟨dp,0,none⟩)):=by rw [cell_of_row w3 vp _ _ _ _ hb3];rfl
 have c1:w3.cell? ⟨vp,1,none⟩=some (.int .i64 v.num):=by rw [cell_of_row w3 vp _ _ _ _ hb3];rfl
 have c2:w3.cell? ⟨vp,2,none⟩=some (.int .i64 v.gen):=by rw [cell_of_row w3 vp _ _ _ _ hb3];rfl
 have c3:w3.cell? ⟨vp,3,none⟩=some (.int .i64 v.epoch):=by rw [cell_of_row w3 vp _ _ _ _ hb3];rfl
 have c4:w3.cell? ⟨vp,4,none⟩=some (.bool v.shut):=by rw [cell_of_row w3 vp _ _ _ _ hb3];rfl
 clear hb3
 have hz3:=HB3.out.size
 refine wp_region_now0 [0,5,10] [(0,2),(1,0),(2,0),(3,0),(4,0),(5,2),(6,0),(7,0),(8,0),(9,0),(10,2),(11,0),(12,0)] (by kernel_rfl) (by kernel_rfl) rfl (by kernel_rfl) ?_
 refine stepE2 rfl rfl ?_ (fun w1 hS=>?_) fun K hK=>?_;rotate_left;(focus (obtain rfl:w1=_:=hS;go_simp;rfl));go_simp;refine hK _ ?_;clear hK K;(iterate 4 refine stepE0 rfl rfl fun K hK=>?_;go_simp;refine hK _ ?_;clear hK K);refine stepE2 rfl rfl ?_ (fun w1 hS=>?_) fun K hK=>?_;rotate_left;(focus (obtain rfl:w1=_:=hS;go_simp;rfl));go_simp;refine hK _ ?_;clear hK K;(iterate 4 refine stepE0 rfl rfl fun K hK=>?_;go_simp;refine hK _ ?_;clear hK K);refine stepE2 rfl rfl ?_ (fun w1 hS=>?_) fun K hK=>?_;rotate_left;(focus (obtain rfl:w1=_:=hS;go_simp;rfl));go_simp;refine hK _ ?_;clear hK K;(iterate 2 refine stepE0 rfl rfl fun K hK=>?_;go_simp;refine hK _ ?_;clear hK K)
 try refine stepEnil0 ?_
 go_upto_region 12 with fail
 refine wp_region_now0 [3,7] [(0,0),(1,0),(2,0),(3,2),(4,0),(5,0),(6,0),(7,2),(8,0),(9,0),(10,1),(11,0),(12,0),(13,0),(14,0),(15,0)] (by kernel_rfl) (by kernel_rfl) rfl (by kernel_rfl) ?_
 (iterate 3 refine stepE0 rfl rfl fun K hK=>?_;go_simp;refine hK _ ?_;clear hK K);refine stepE2 rfl rfl ?_ (fun w1 hS=>?_) fun K hK=>?_;rotate_left;(focus (obtain rfl:w1=_:=hS;go_simp;rfl));go_simp;refine hK _ ?_;clear hK K;(iterate 3 refine stepE0 rfl rfl fun K hK=>?_;go_simp;refine hK _ ?_;clear hK K);refine stepE2 rfl rfl ?_ (fun w1 hS=>?_) fun K hK=>?_;rotate_left;(focus (obtain rfl:w1=_:=hS;go_simp;rfl));go_simp;refine hK _ ?_;clear hK K;(iterate 2 refine stepE0 rfl rfl fun K hK=>?_;go_simp;refine hK _ ?_;clear hK K);refine stepE1 rfl rfl (by kernel_rfl) fun K hK=>?_
 (go_wp2_with fail;refine (HBA.out w3.drew.drew (HB3.out.drew.drew)).mono ?_;rintro e w4 ⟨ix,vx,rfl,hix,hixl,hb4⟩;have HIX4:=Hd hix;have HB4:=Hd ((HB3.out.drew.drew).trans (hb4.mono hz3));have HRB4:=Hd (Reads.below (show Reads w3.drew.drew 1 (.slice (some ⟨bk,o,none⟩) N cb) N ((superB v.num v.gen ++ (D ++ t)).map bv) from HRB3.out) hb4);clear hix hb4;have hz4:=HB4.out.size;go_wp2)
 (iterate 5 refine stepE0 rfl rfl fun K hK=>?_;go_simp;refine hK _ ?_;clear hK K)
 try refine stepEnil0 ?_
 go_upto_region 13 with fail
 have HRB5:=HRB4.out
 rw [HD2.out] at HRB5
 have hfl2:=HFL.out
 rw [HD2.out] at hfl2
 have HSC:=Hd (scan_any v.file bk o N cb from' pre ns2 t w4 HRB5 hfl2 HPL.out hcb (by omega) HOK2.out HTL.out)
 rw [HEND.out] at HSC
 clear HRB5 hfl2
 go_wp2_with fail
 refine HSC.out.mono ?_
 rintro e w5 ⟨vf,ev,rfl,⟨fs,hfs,hfo⟩,hev,hb5⟩
 have HB5:=Hd (HB4.out.trans (hb5.mono hz4))
 have HIX5:=Hd (HIX4.out.below hb5)
 have hixs:=HIX4.out.lt
 have hz45:=hb5.size
 have HOW:=Hd (show ∀ g,vx.ownBlock=some g→g<w4.heap.size from fun g e=>(HIX4.out.row.lt g e).2)
 have HFS:=Hd hfs
 have HEV:=Hd hev
 obtain ⟨fa,fc,rfl,hfc⟩:=slice_of hfo
 obtain ⟨FN,hFN⟩:∃ FN,FN=fs.length:=⟨_,rfl⟩
 rw [←hFN] at hfo ⊢
 have HFO:=Hd hfo
 have HFN:=Hd hFN
 have hfnb:FN≤100000000:=by
  rw [hFN,←List.length_map (f:=FE.p),hfs,posL_len]
  have h1:=ndsB_long ns2
  have h2:=HEND.out
  omega
 clear hb5 hfs hev hfo hfc hFN HSC
 go_upto_region 15 with fail
 obtain ⟨PS,hPS⟩:∃ PS,PS=posL from' ns2:=⟨_,rfl⟩
 have HPS:=Hd hPS
 rw [←hPS] at HFS HIDX
 clear hPS
 go_loopw [103] (fun i wr=>∃(k:Nat)(vk:Value),k≤FN∧i=.int .i64 k∧IxAt wr w3.heap.size ix vk (putAll l0 (PS.take k))∧(∀ g,vk.ownBlock=some g→g<w4.heap.size∨w5.heap.size≤g)∧wr.ownsRow w4.heap.size 175 6 (.slice fa FN fc) FN (fs.flatMap FE.cs)∧Below w.heap.size w wr∧w5.heap.size≤wr.heap.size) (fun i _=>FN - (intOf i).toNat)
 case atStart=>exact ⟨0,vx,Nat.zero_le _,rfl,HIX5.out,fun g e=>.inl (HOW.out g e),HFO.out,HB5.out,Nat.le_refl _⟩
 case round=>
  obtain ⟨k,vk,hk,rfl,hix,how,hfo,hbr,hzr5⟩:=hrel
  have HIXR:=Hd hix
  have HOWR:=Hd how
  have HFR:=Hd hfo
  have HBR:=Hd hbr
  have hzr:=hbr.size
  clear hix how hfo hbr
  have hk0:(0:Int)≤(k:Int):=by omega
  by_cases hlt:k<FN
  ·obtain ⟨x,hx⟩:∃ x,fs[k]? = some x:=⟨_,List.getElem?_eq_getElem (by rw [←HFN.out];exact hlt)⟩
   obtain ⟨g,rfl⟩:∃ g,fa=some ⟨g,0,none⟩:=by
    rcases HFR.out.2 with ⟨h2,_⟩|⟨g3,cap3,cur3,h2,_⟩
    ·obtain ⟨-,h3,-⟩:=sl_inj h2
     omega
    ·exact ⟨g3,(sl_inj h2).1⟩
   have hgl:=HFR.out.lt g rfl
   have HX:=Hd hx
   have hc:=fun j hj=>ownsRow_cell FE.cs 6 (fun _=>rfl) fs HFR.out k j x hx hj
   have hxp:PS[k]? = some x.p:=by rw [←HFS.out,List.getElem?_map,hx];rfl
   have htk:PS.take (k+1)=PS.take k ++ [x.p]:=by rw [List.take_add_one,hxp];rfl
   have hpt:putAll l0 (PS.take (k+1))=ixPut (putAll l0 (PS.take k)) x.p:=by rw [htk,putAll_snoc]
   have HPT:=Hd hpt
   have hroom:(ixFind (putAll l0 (PS.take k)) x.p.key).isSome=true∨(putAll l0 (PS.take k)).length<4096:=by
    cases hf:ixFind (putAll l0 (PS.take k)) x.p.key with
    | some y=>exact .inl rfl
    | none=>
     have h1:=ixPut_len (p:=x.p) HIXR.out.srt
     rw [hf,←hpt] at h1
     have h2:(putAll l0 (PS.take (k+1))).length≤v.idx.length:=by
      rw [←HIDX.out]
      have h3:=putAll_grows (ps:=PS.drop (k+1)) (l:=putAll l0 (PS.take (k+1))) (putAll_srt HS0.out)
      rwa [←putAll_append,List.take_append_drop] at h3
     have h4:=HLEN.out
     simp only [Option.isSome_none,Bool.false_eq_true,if_false] at h1
     exact .inr (by omega)
   have HIP:=Hd (fun (w0:World) (hb:Below wr.heap.size wr w0)=>iput_any w3.heap.size ix vk _ x.p w0 (HIXR.out.below hb) hroom)
   obtain ⟨⟨pk,po,pl,pc,pg⟩,xa,xc⟩:=x
   have r0:wr.cell? ⟨g,k * 6,none⟩=some (.int .i64 po):=hc 0 (by omega)
   have r1:wr.cell? ⟨g,k * 6+1,none⟩=some (.int .i64 (ndSize pl)):=hc 1 (by omega)
   have r2:wr.cell? ⟨g,k * 6+2,none⟩=some (.int .u64 pk):=hc 2 (by omega)
   have r3:wr.cell? ⟨g,k * 6+3,none⟩=some (.int .u32 pc):=hc 3 (by omega)
   have r4:wr.cell? ⟨g,k * 6+4,none⟩=some (.bool pg):=hc 4 (by omega)
   have r5:wr.cell? ⟨g,k * 6+5,none⟩=some (.slice xa pl xc):=hc 5 (by omega)
   simp only at HIP HPT
   have HFD:=Hd (fun (w0:World)=>found_size (po:Int) (ndSize pl:Int) ⟨pk,po,pl,pc,pg⟩ xa xc w0)
   simp only at HFD
   obtain ⟨SZ,hSZ⟩:∃ SZ,SZ=ndSize pl:=⟨_,rfl⟩
   rw [←hSZ] at HFD r1
   have hj1:(k:Int)<(FN:Int):=by omega
   clear hc hx hxp htk hpt hroom hSZ
   go_wp2_with fail
   obtain ⟨wc,hwc⟩:∃ wc:World,wc=wr.alloc (.cells #[.int .i64 po,.int .i64 SZ,.int .u64 pk,.int .u32 pc,.bool pg,.slice xa pl xc] 175):=⟨_,rfl⟩
   have HBC:=Hd (show Below wr.heap.size wr wc by rw [hwc];exact belo)
   rw [←hwc]
   clear hwc
   refine (HFD.out wc).mono ?_
   rintro e w6 ⟨rfl,hb6⟩
   have HB6:=Hd (HBC.out.trans (hb6.mono HBC.out.size))
   clear hb6
   go_wp2_with fail
   refine (show Calls Tryz.prog 98 #[.pointer (some ⟨ix,0,none⟩),.agg #[.int .u64 pk,.int .i64 po,.int .i64 pl,.int .u32 pc,.bool pg]] w6 _ from HIP.out w6 HB6.out).mono ?_
   rintro e w7 ⟨rfl,vk',hix',how',hkp⟩
   have HIX7:=Hd hix'
   have HOW7:=Hd how'
   have HKP:=Hd hkp
   have hz6:=HB6.out.size
   have hz67:=hkp.size
   clear hix' how' hkp
   go_wp2_with fail
   go_roundw
   case rel=>
    have hixlt:ix<w4.heap.size:=hixs
    refine ⟨k+1,vk',by omega,by go_num,by rw [HPT.out];exact HIX7.out,fun g' e=>?_,?_,?_,by omega⟩
    ·rcases HOW7.out g' e with h1|h1
     ·exact HOWR.out g' h1
     ·exact .inr (by omega)
    ·refine ownsRow_keeps (ownsRow_below HFR.out HB6.out) HKP.out fun j e=>?_
     obtain ⟨e1,e2⟩:=HFO.out.lt j e
     rintro (h1|h1)
     ·omega
     ·rcases HOWR.out j h1 with h2|h2 <;> omega
    ·refine (HBR.out.trans (HB6.out.mono hzr)).trans (Keeps.below HKP.out (by omega) fun j hj=>?_)
     rcases hj with h1|h1
     ·rw [h1]
      exact Nat.le_trans hz3 HIXR.out.low
     ·have:=(HIXR.out.row.lt j h1).1
      omega
   case measure=>simp [intOf];omega
  ·have hkn:k=FN:=by omega
   have hj1:¬ (k:Int)<(FN:Int):=by omega
   have HIXE:=Hd (show IxAt wr w3.heap.size ix vk v.idx by
    have h1:=HIXR.out
    rwa [hkn,List.take_of_length_le (by rw [←HFS.out,List.length_map,←HFN.out];exact Nat.le_refl _),HIDX.out] at h1)
   clear hkn
   have KVR:=Hd ((HBR.out.block vp hvl).trans HBK.out)
   have hvlr:=blk_lt KVR.out
   have f6:=frozen_of_row wr vp 6 _ _ KVR.out
   have f7:=frozen_of_row wr vp 7 _ _ KVR.out
   have d0:wr.cell? ⟨vp,0,none⟩=some (.pointer (some ⟨dp,0,none⟩)):=by rw [cell_of_row wr vp _ _ _ _ KVR.out];rfl
   have d6:wr.cell? ⟨vp,6,none⟩=some (.int .i64 0):=by rw [cell_of_row wr vp _ _ _ _ KVR.out];rfl
   have d7:wr.cell? ⟨vp,7,none⟩=some (.pointer none):=by rw [cell_of_row wr vp _ _ _ _ KVR.out];rfl
   clear c0 c1 c2 c3 c4 y0 y1
   go_upto_region 20 with fail
   obtain ⟨w8,hw8⟩:∃ w8:World,w8=(wr.setCell ⟨vp,7,none⟩ (.pointer (some ⟨ix,0,none⟩))).setCell ⟨vp,6,none⟩ (.int .i64 v.size):=⟨_,rfl⟩
   have KV8:=Hd (show w8.heap[vp]? = some (.cells #[(.pointer (some ⟨dp,0,none⟩)),.int .i64 v.num,.int .i64 v.gen,.int .i64 v.epoch,.bool v.shut,.int .i64 v.most,.int .i64 v.size,(.pointer (some ⟨ix,0,none⟩))] 118 (0,0)) by
    rw [hw8]
    simpa using blk_put (blk_put KVR.out 7 (.pointer (some ⟨ix,0,none⟩))) 6 (.int .i64 v.size))
   have HK8:=Hd (show Keeps (fun k=>k=vp) wr w8 by rw [hw8];exact ((Keeps.refl (fun k=>k=vp) wr).setCell ⟨vp,7,none⟩ _ (fun _=>rfl)).setCell ⟨vp,6,none⟩ _ (fun _=>rfl))
   rw [←hw8]
   clear hw8 f6 f7 d0 d6 d7
   have hz8:=HK8.out.size
   have hixge:w.heap.size≤ix:=Nat.le_trans hz3 HIXE.out.low
   have HOWE:=Hd (show ∀ j,vk.ownBlock=some j→w.heap.size≤j∧j<wr.heap.size from fun j e=>⟨Nat.le_trans hz3 (HIXE.out.row.lt j e).1,(HIXE.out.row.lt j e).2⟩)
   have hixl8:=HIXE.out.lt
   have HV8:=Hd (show VolAt w8 vp dp ix vk v from ⟨KV8.out,(HIXE.out.keeps HK8.out (fun e=>by omega) (fun j e e2=>by have:=(HOWE.out j e).1;omega)).mono (Nat.zero_le _),by omega,fun e=>by have:=(HOWE.out vp e).1;omega⟩)
   obtain ⟨Q,hQ⟩:∃ Q:Nat→Prop,Q=fun k=>P k∨VFoot vp ix vk k:=⟨_,rfl⟩
   have HQ:=Hd hQ
   have HD8:=Hd (show DS w8 dp Q K d from by
    have h1:DS wr dp Q K d:=HDS.out.later HBR.out (fun j hj=>by
     rw [hQ] at hj
     rcases hj with hj|rfl|rfl|hj
     ·exact .inl hj
     ·exact .inl HPV.out
     ·exact .inr hixge
     ·exact .inr (HOWE.out j hj).1)
    exact h1.step HK8.out (fun j hj=>by rw [hQ,hj];exact .inl HPV.out) (fun j hj=>.inl hj))
   have HQL:=Hd (show ∀ j,Q j→j<w8.heap.size from fun j hj=>by
    rw [hQ] at hj
    rcases hj with hj|rfl|rfl|hj
    ·have:=HPP.out j hj;omega
    ·omega
    ·omega
    ·have:=(HOWE.out j hj).2;omega)
   have HKV:=Hd (show Keeps (fun k=>k=vp∨¬ P k) w w8 from by
    exact Keeps.trans (keeps_below (fun k=>k=vp∨¬ P k) HBR.out) HK8.out fun j _ hj=>.inl hj)
   clear hQ
   by_cases ht:t=[]
   ·subst ht
    have hev:=HEV.out
    simp only [List.isEmpty_nil,Bool.not_true,Bool.false_eq_true,if_false] at hev
    subst hev
    have HM:=Hd (show d.mendT v []=d from if_pos rfl)
    go_wp2_with fail
    go_ret
    rw [HM.out]
    refine ⟨rfl,ix,vk,HV8.out,fun j hj=>?_,?_,HKV.out⟩
    ·rcases hj with rfl|hj
     ·exact ⟨hixge,by omega⟩
     ·have:=HOWE.out j hj;omega
    ·rw [HQ.out] at HD8
     exact HD8.out
   ·have hev:=HEV.out
    have hte:(!t.isEmpty)=true:=by cases t with|nil=>exact absurd rfl ht|cons _ _=>rfl
    rw [hte,if_pos rfl] at hev
    obtain ⟨ET,EX,rfl⟩:=hev
    have HM:=Hd (show d.mendT v t=(d.cut v.file v.size).2 from if_neg ht)
    have HC0:=Hd (HCUT.out ht)
    have hv0:=HV8.out.cells.1
    clear hte
    go_wp2_with fail
    refine (cut_ds HD8.out HQL.out v.file v.size HL.out).mono ?_
    rintro e w9 ⟨rfl,ht9⟩
    have HD9:=Hd ht9.1
    have HK9:=Hd ht9.2
    have hz9:=ht9.2.size
    rw [HC0.out,show errV ((0:Nat):Int)=.nilIface from rfl]
    clear ht9
    go_wp2_with fail
    go_ret
    rw [HM.out]
    refine ⟨rfl,ix,vk,HV8.out.keeps HK9.out (fun j hj e=>e (by rw [HQ.out];exact .inr hj)),fun j hj=>?_,?_,?_⟩
    ·rcases hj with rfl|hj
     ·exact ⟨hixge,by omega⟩
     ·have:=HOWE.out j hj;omega
    ·rw [HQ.out] at HD9
     exact HD9.out
    ·exact Keeps.trans HKV.out HK9.out fun j _ hj=>.inr fun e=>hj (by rw [HQ.out];exact .inl e)
theorem open_gen{w:World}{dp K:Nat}{P:Nat→Prop}{d:Dk}{v:Vl}{ns2:List Nd}{D t pre:List UInt8}{l0:List Ps}{from':Nat}(h:DS w dp P K d)(hP:∀ k,P k→k<w.heap.size)(hK:K+64<1099511627776)
  (ho:OpensB d v D t) (hok:VOk v) (hn1:NamesAt v.num 1)
  (hbase:∀ (w0:World) (Q:Nat→Prop),DS w0 dp Q K d→Calls Tryz.prog 109 #[(.pointer (some ⟨dp,0,none⟩)),.agg #[.int .i64 v.num,.int .i64 v.gen,.int .i64 v.epoch,.bool v.shut],.int .i64 ((v.size+t.length:Nat):Int)] w0 (BaseTo w0 l0 from'))
  (hpre:superB v.num v.gen ++ D=pre ++ ndsB ns2) (hpl:pre.length=from') (hok2:∀ m∈ns2,NdOk m) (hidx:putAll l0 (posL from' ns2)=v.idx) (hs0:IxS l0) (hlen:v.idx.length≤4096) (hcut:t≠[]→(d.cut v.file v.size).1=0)
  (o:Nm→Bool) (hours:∀ s∈namesOf (d.mendT v t).now,OursAt v s (o s)∧s.length≤maxLen) (htid:(Dk.tidyL o (namesOf (d.mendT v t).now) false (d.mendT v t)).1=0) :
  Calls Tryz.prog 20 #[(.pointer (some ⟨dp,0,none⟩)),.int .i64 v.num,.int .i64 v.most] w fun e w'=>∃ vp,e=.returned (.tuple #[(.pointer (some ⟨vp,0,none⟩)),.nilIface])∧VS w' vp dp P (K+64) (Dk.tidyL o (namesOf (d.mendT v t).now) false (d.mendT v t)).2 v∧w.heap.size≤vp∧KP P w w':=by
 obtain ⟨g,hgg,hgb⟩:=ho.man
 have hwh:=whole_at ho.armed hgg
 rw [hgb] at hwh
 have hri:=hok.right
 have hnum:=ho.num
 have hgen:=ho.gen
 have hri0:rightV v.num v.gen 0=true:=by unfold rightV;simp;omega
 have hm16:16≤v.most∧v.most≤16777216:=⟨by have:=hok.size;have:=ho.size;omega,hok.most⟩
 have hWH:=fun (w0:World) (hb:Below w.heap.size w w0)=>whole_ds (h.below hb) (mName v.num) hok.long.2.2
 rw [hwh] at hWH
 simp only [manB_len] at hWH
 have HWH:=Hd hWH
 have HN1:=Hd hn1
 have HNV:=Hd (show namesV v.num 1=.tuple #[.string ⟨(vName v.num 1).toArray⟩,.string ⟨(cName v.num 1).toArray⟩,.string ⟨(mName v.num).toArray⟩,.string ⟨(sName v.num).toArray⟩] from rfl)
 have HRT:=Hd (vright_yes v.num v.most 0 hnum hm16 (by omega))
 have HRI:=Hd hri
 have HDS:=Hd h
 have HPP:=Hd hP
 have HOK:=Hd hok
 have HLD:=Hd (fun (w0:World) (vp:Nat) (Q:Nat→Prop) (h1:DS w0 dp Q K d) (h2:∀ k,Q k→k<w0.heap.size) (h3:Q vp) (h4:w0.heap[vp]? = some (.cells #[(.pointer (some ⟨dp,0,none⟩)),.int .i64 v.num,.int .i64 v.gen,.int .i64 v.epoch,.bool v.shut,.int .i64 v.most,.int .i64 0,.pointer none] 118 (0,0)))=>
  load_ds h1 h2 h3 h4 ho hok.names hok.long.1 hri0 (fun w1 hb=>hbase w1 Q (h1.below hb)) hpre hpl hok2 hidx hs0 hlen hcut)
 obtain ⟨D2,hD2⟩:∃ D2,D2=d.mendT v t:=⟨_,rfl⟩
 rw [←hD2] at HLD hours htid ⊢
 have HHO:=Hd hours
 obtain ⟨R,hR⟩:∃ R,R=Dk.tidyL o (namesOf D2.now) false D2:=⟨_,rfl⟩
 rw [←hR] at htid ⊢
 have HR:=Hd hR
 have HT0:=Hd htid
 have hne:((v.num:Int) != (v.num:Int))=false:=by simp
 clear h hP ho hok hn1 hbase hpre hpl hok2 hidx hs0 hlen hcut hours htid hgg hgb hwh hri hnum hgen hri0 hm16 hWH hD2 hR
 go_enter Tryz.func20,Tryz.ntmps20
 go_wp2_with fail
 refine Calls.mono (show Calls Tryz.prog 42 #[.int .i64 v.num,.int .i64 1] w _ from HN1.out _) ?_
 rintro e wx ⟨rfl,rfl⟩
 rw [HNV.out]
 go_wp2_with fail
 refine (show Calls Tryz.prog 43 #[.int .i64 v.num,.int .i64 v.most,.int .i64 0] w _ from HRT.out _).mono ?_
 rintro e wx ⟨rfl,rfl⟩
 go_wp2_with fail
 refine (HWH.out w (Below.refl _ _)).mono ?_
 rintro e w1 ⟨vb,rfl,hob,hb1⟩
 simp only [manB_len] at hob
 obtain ⟨a,c,rfl,hac⟩:=slice_of hob
 have hrb:=reads_of_owns hob
 obtain ⟨bk,oo,c',e,hbk,-,-⟩:=reads_at hrb (by omega) (by omega)
 obtain ⟨rfl,-,rfl⟩:=sl_inj e
 have HB1:=Hd hb1
 have HGM:=Hd (gman_good bk oo c v.num v.gen v.epoch v.shut w1 HRI.out hrb hac)
 clear hob hrb hb1 e
 rw [show errV ((0:Nat):Int)=.nilIface from rfl]
 go_upto_region 9 with fail
 go_wp2_with fail
 refine HGM.out.mono ?_
 rintro e w2 ⟨rfl,hb2⟩
 have HB2:=Hd (HB1.out.trans (hb2.mono HB1.out.size))
 clear hb2
 go_upto_region 15 with fail
 obtain ⟨w3,hw3⟩:∃ w3:World,w3=(w2.alloc (.cells #[.int .i64 v.num,.int .i64 v.gen,.int .i64 v.epoch,.bool v.shut] 113)).alloc (.cells #[(.pointer (some ⟨dp,0,none⟩)),.int .i64 v.num,.int .i64 v.gen,.int .i64 v.epoch,.bool v.shut,.int .i64 v.most,.int .i64 0,.pointer none] 118):=⟨_,rfl⟩
 have HB3:=Hd (show Below w.heap.size w w3 by rw [hw3];exact HB2.out.trans ((((Below.refl w2.heap.size w2).alloc (Nat.le_refl _) _).alloc (by simp) _).mono HB2.out.size))
 have KV3:=Hd (show w3.heap[w2.heap.size+1]? = some (.cells #[(.pointer (some ⟨dp,0,none⟩)),.int .i64 v.num,.int .i64 v.gen,.int .i64 v.epoch,.bool v.shut,.int .i64 v.most,.int .i64 0,.pointer none] 118 (0,0)) by rw [hw3];exact blk_new _ (by simp))
 rw [←hw3]
 clear hw3
 obtain ⟨vp,hvp⟩:∃ vp,vp=w2.heap.size+1:=⟨_,rfl⟩
 rw [←hvp] at KV3 ⊢
 have hvl:=blk_lt KV3.out
 have hz2:=HB2.out.size
 have hvg:w.heap.size≤vp:=by omega
 have hz3:=HB3.out.size
 clear hvp
 obtain ⟨Q,hQ⟩:∃ Q:Nat→Prop,Q=fun k=>P k∨(w.heap.size≤k∧k<w3.heap.size):=⟨_,rfl⟩
 have HQ:=Hd hQ
 have HQL:=Hd (show ∀ k,Q k→k<w3.heap.size from fun k hk=>by
  rw [hQ] at hk
  rcases hk with hk|hk
  ·have:=HPP.out k hk;omega
  ·exact hk.2)
 have HD3:=Hd (show DS w3 dp Q K d from HDS.out.later HB3.out (fun k hk=>by
  rw [hQ] at hk
  exact hk.imp id (fun h=>h.1)))
 have HQV:=Hd (show Q vp by rw [hQ];exact .inr ⟨hvg,hvl⟩)
 clear hQ
 go_wp2_with fail
 refine (HLD.out w3 vp Q HD3.out HQL.out HQV.out KV3.out).mono ?_
 rintro e w4 ⟨rfl,ix,vx,hv4,hft,hd4,hk4⟩
 have hz4:=hk4.size
 have HVS:=Hd (show VS w4 vp dp P K D2 v from ⟨ix,vx,hv4,hd4.less (fun k hk=>by
   rw [HQ.out]
   exact hk.imp .inl id),fun k hk=>by
  rcases hk with rfl|rfl|hk
  ·exact ⟨fun e=>by have:=HPP.out _ e;omega,by omega⟩
  ·have:=hft k (.inl rfl)
   exact ⟨fun e=>by have:=HPP.out _ e;omega,by omega⟩
  ·have:=hft k (.inr hk)
   exact ⟨fun e=>by have:=HPP.out _ e;omega,by omega⟩,HOK.out⟩)
 have HK4:=Hd (show KP P w w4 from (KP.of HB3.out).trans (Keeps.mono hk4 fun k hk hq=>by
  rcases hq with rfl|hq
  ·intro e
   have:=HPP.out _ e
   omega
  ·exact fun e=>hq (by rw [HQ.out];exact .inl e)))
 clear hv4 hft hd4 hk4
 go_wp2_with fail
 refine (tidy_vs HVS.out (fun k hk=>by have:=HPP.out k hk;omega) o HHO.out hK).mono ?_
 rintro e w5 ⟨rfl,ht⟩
 rw [←HR.out] at ht ⊢
 have HT:=Hd ht
 clear ht
 rw [HT0.out,show errV ((0:Nat):Int)=.nilIface from rfl]
 go_wp2_with fail
 go_ret2
 exact ⟨vp,rfl,HT.out.1,hvg,HK4.out.trans HT.out.2⟩
end Go.Proofs.YtfpjfoajonbndaaGreatDoor
