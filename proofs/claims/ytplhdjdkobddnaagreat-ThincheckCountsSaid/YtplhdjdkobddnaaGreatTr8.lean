/- NodeU NodeV NodeV2 Src -/
import Derived.Test.YtplhdjdkobddnaaGreatTr7
set_option linter.unusedVariables false
set_option maxRecDepth 100000
set_option maxHeartbeats 40000000
namespace Go.Proofs.YtplhdjdkobddnaaGreat
section
open Go.RowKit
theorem cut_reads {w:World} {A:Option Addr} {l:List (Int × Nat)} {n c k:Nat} (h:Reads w A (ev l)) (hn:l.length=n) (hc:n≤c) (hk:k≤n):Reads w (if c=k then A else A.map (·.add (k * 2))) (ev (l.drop k)):=by
 intro hz
 rw[ev_length,List.length_drop,hn] at hz
 obtain ⟨b,off,rfl,hb,hcs⟩:=h (by rw[ev_length,hn];omega)
 rw[if_neg (by omega)]
 refine ⟨b,off+k * 2,?_,hb,fun j v hj=>?_⟩
 ·show some ((⟨b,off,none⟩ :Addr).add (k * 2))=_
  rw[Addr.add_lit]
 ·rw[←ev_drop,List.getElem?_drop] at hj
  rw[Nat.add_assoc]
  exact hcs _ _ hj
theorem take_reads {w:World} {A:Option Addr} {l:List (Int × Nat)} {k:Nat} (h:Reads w A (ev l)):Reads w A (ev (l.take k)):=by rw[←ev_take];exact h.take' _
theorem set_parts (l:List (Int × Nat)) (i:Nat) (x:Int × Nat) (h:i<l.length):l.set i x=l.take i++([x]++l.drop (i+1)):=by
 rw[List.set_eq_take_append_cons_drop,if_pos h]
 rfl
theorem with3 (lv sq key:Int) (value:Nat) (A A':Option Addr) (c n c' i n':Nat) (l1 l2:List (Int × Nat)) (w4:World) (h1:l1.length=i) (h2:l2.length=n') (r1:Reads w4 A (ev l1)) (r2:Reads w4 A' (ev l2)) (hi:i≤1000) (hn':n'≤1000) :
  Calls Tryz.prog 145 #[.agg #[.int .i64 lv,.int .i64 sq,.slice A n c],.slice (some ⟨w4.heap.size+1,0,none⟩) 3 3]
   ((w4.alloc (.cells #[.int .i64 key,.int .u64 (value:Int)] 94)).alloc (.cells #[.slice A i c,.slice (some ⟨w4.heap.size,0,none⟩) 1 1,.slice A' n' c'] 87)).drew fun e w'=>
   ∃v,e=.returned (.agg #[.int .i64 lv,.int .i64 sq,v])∧w'.ownsRow w4.heap.size 94 2 v (l1++([(key,value)]++l2)).length (ev (l1++([(key,value)]++l2)))∧Below w4.heap.size w4 w':=by
 have hbb:Below w4.heap.size w4 ((w4.alloc (.cells #[.int .i64 key,.int .u64 (value:Int)] 94)).alloc (.cells #[.slice A i c,.slice (some ⟨w4.heap.size,0,none⟩) 1 1,.slice A' n' c'] 87)).drew:=(((Below.refl _ w4).alloc (Nat.le_refl _) _).alloc (by simp) _).drew
 have hf:flat [⟨A,c,l1⟩,⟨some ⟨w4.heap.size,0,none⟩,1,[(key,value)]⟩,⟨A',c',l2⟩]=l1++([(key,value)]++l2):=by simp[flat]
 have hcs:=Cs.new (w4.alloc (.cells #[.int .i64 key,.int .u64 (value:Int)] 94)) 87 #[.slice A i c,.slice (some ⟨w4.heap.size,0,none⟩) 1 1,.slice A' n' c']
 rw[World.size_alloc] at hcs
 have hx:=Cs.new w4 94 #[.int .i64 key,.int .u64 (value:Int)]
 have h:=with_any lv sq A n c (w4.heap.size+1) 3 3 [⟨A,c,l1⟩,⟨some ⟨w4.heap.size,0,none⟩,1,[(key,value)]⟩,⟨A',c',l2⟩]
  ((w4.alloc (.cells #[.int .i64 key,.int .u64 (value:Int)] 94)).alloc (.cells #[.slice A i c,.slice (some ⟨w4.heap.size,0,none⟩) 1 1,.slice A' n' c'] 87)).drew rfl
  (by
   simp only[List.map_cons,List.map_nil,Part.v,h1,h2,List.length_cons,List.length_nil]
   exact hcs)
  (by
   intro p hp
   simp only[List.mem_cons,List.not_mem_nil,or_false] at hp
   rcases hp with rfl|rfl|rfl
   ·exact r1.keep hbb
   ·intro _
    refine ⟨w4.heap.size,0,rfl,by simp;omega,fun j u hj=>?_⟩
    have:=(hx.alloc (.cells #[.slice A i c,.slice (some ⟨w4.heap.size,0,none⟩) 1 1,.slice A' n' c'] 87)).cell j
    rw[Nat.zero_add]
    refine Eq.trans this ?_
    simpa[ev] using hj
   ·exact r2.keep hbb) (by omega) (by rw[hf];simp;omega)
 rw[hf] at h
 refine h.mono ?_
 rintro e w' ⟨v,rfl,ho,hb⟩
 exact ⟨v,rfl,own_lower ho hbb.size,hbb.trans (hb.mono hbb.size)⟩
theorem refPut_ok (lv sq key:Int) (value:Nat) (A:Option Addr) (c n:Nat) (l:List (Int × Nat)) (w:World) (hn:l.length=n) (hA:Reads w A (ev l)) (hc:n≤c) (hE:putE l key=0) :
  Calls Tryz.prog 128 #[.agg #[.int .i64 lv,.int .i64 sq,.slice A n c],.int .i64 key,.int .u64 (value:Int)] w fun e w'=>∃v,e=.returned (.tuple #[.agg #[.int .i64 lv,.int .i64 sq,v],.int .i64 0])∧w'.ownsRow w.heap.size 94 2 v (putN l key value).length (ev (putN l key value))∧Below w.heap.size w w':=by
 have h8:¬8<n:=by
  intro h
  unfold putE at hE
  rw[if_pos (by omega)] at hE
  cases hE
 have hk:0≤key∧key≤16777215:=by
  unfold putE at hE
  rw[if_neg (by omega)] at hE
  by_cases h:key<0∨16777215<key
  ·rw[if_pos h] at hE;cases hE
  ·omega
 have hk1:¬key<0:=by omega
 have hk2:¬16777215<key:=by omega
 have h8':¬(8:Int)<(n:Int):=by omega
 have hb0:Below w.heap.size w ((w.alloc (.cells #[.int .i64 lv,.int .i64 sq,.slice A n c] 129)).alloc (.cells #[.int .i64 0,.int .i64 0,.slice none 0 0] 129)):=((Below.refl _ w).alloc (Nat.le_refl _) _).alloc (by simp) _
 have hC6:=Cs.new (w.alloc (.cells #[.int .i64 lv,.int .i64 sq,.slice A n c] 129)) 129 #[.int .i64 0,.int .i64 0,.slice none 0 0]
 rw[World.size_alloc] at hC6
 have hC3:=(Cs.new w 129 #[.int .i64 lv,.int .i64 sq,.slice A n c]).alloc (.cells #[.int .i64 0,.int .i64 0,.slice none 0 0] 129)
 have HFI:=Hi (refFind_any lv sq key A c n l _ hn (hA.keep hb0) (by omega))
 have HL:=Hi hn
 have HA:=Hi (hA.keep hb0)
 have HC3:=Hi hC3
 have HC6:=Hi hC6
 clear hE hn hA hC3 hC6
 go_enter Tryz.func128,Tryz.ntmps128
 go_wp2_with fail
 generalize ((w.alloc _).alloc _)=w1 at hb0 HFI HA HC3 HC6 ⊢
 refine HFI.out.mono ?_
 rintro e w4 ⟨rfl,hb4⟩
 have hC3:=HC3.out.below hb4 HC3.out.lt
 have hC6:=HC6.out.below hb4 HC6.out.lt
 have hA4:=HA.out.keep hb4
 have hbw4:=hb0.trans (hb4.mono hb0.size)
 have hbd:=findTo_bd l key l.length
 have hbd1: -1≤findN l key:=hbd.1
 have hbd2:findN l key<(n:Int):=by have:=hbd.2;rw[HL.out] at this;unfold findN;rw[HL.out];exact this
 have HPN:Hid (putN l key value=if exactN l key=true then l.set (findN l key).toNat (key,value) else insN l (findN l key+1).toNat (key,value)):=rfl
 have HX:Hid (exactN l key=decide (0≤findN l key∧(l[(findN l key).toNat]?.getD (0,0)).1=key)):=rfl
 have hs4:w.heap.size+1<w4.heap.size:=hC6.lt
 obtain ⟨x0,x1,x2,y0,y1,y2⟩:=hC3.at3
 have HD3:=Hi hC3
 have HD6:=Hi hC6
 have HA4:=Hi hA4
 clear hbd hC3 hC6 hA4 HC3 HC6 HA HFI
 generalize findN l key=f at *
 by_cases hex:exactN l key=true
 ·rw[hex] at HPN HX ⊢
  rw[if_pos rfl] at HPN
  have hx:=of_decide_eq_true HX.out.symm
  obtain ⟨i,rfl⟩ :∃i:Nat,f=(i:Int):=⟨f.toNat,by omega⟩
  rw[Int.toNat_natCast] at HPN hx
  have hin:i<n:=by omega
  have t1:IntKind.i64.wrap ((i:Int)+1)=(i:Int)+1:=IntWalk.i64_in _ (by omega)
  have t3:((i:Int)+1).toNat=i+1:=by omega
  have t5:(0:Int)≤(i:Int)+1:=by omega
  have t6:(i:Int)+1≤(n:Int):=by omega
  have t7:(i:Int)≤(c:Int):=by omega
  have t8:i≤c:=by omega
  have t9:i+1≤n:=by omega
  clear hx hex
  go_wp2_with fail
  have z0:=(World.cell?_alloc_lt w4 (.cells #[.int .i64 key,.int .u64 (value:Int)] 94) ⟨w.heap.size,0,none⟩ HD3.out.lt).trans x0
  have z1:=(World.cell?_alloc_lt w4 (.cells #[.int .i64 key,.int .u64 (value:Int)] 94) ⟨w.heap.size,1,none⟩ HD3.out.lt).trans x1
  have z2:=(World.cell?_alloc_lt w4 (.cells #[.int .i64 key,.int .u64 (value:Int)] 94) ⟨w.heap.size,2,none⟩ HD3.out.lt).trans x2
  refine wp_region_mix 11 12 (by kernel_rfl) (by kernel_rfl) (fun w'=>w'.cell? ⟨w.heap.size,0,none⟩=some (.int .i64 lv)∧w'.cell? ⟨w.heap.size,1,none⟩=some (.int .i64 sq)∧w'.cell? ⟨w.heap.size,2,none⟩=some (.slice A n c)) ⟨z0,z1,z2⟩ ?_
  simp only[List.take_succ_cons,List.take_zero,List.drop_succ_cons,List.drop_zero]
  iterate 11
   refine ⟨?_,Or.inl ⟨by rfl,fun W' hS'=>?_⟩,fun _ _ _ h=>h,?_⟩
   rotate_left
   ·obtain ⟨hs1,hs2,hs3⟩:=hS'
    go_simp
    with_reducible rfl
   simp only[Act.put,List.setIfInBounds_toArray,List.set_cons_zero,List.set_cons_succ]
  show wpSeqT _ _ _ _ _ _ _ _ _
  refine wpSeqT_step (fun K hK=>?_)
  go_simp
  refine hK _ _ (fun _=>⟨(World.cell?_alloc_lt _ _ _ (by simp;omega)).trans z0,(World.cell?_alloc_lt _ _ _ (by simp;omega)).trans z1,(World.cell?_alloc_lt _ _ _ (by simp;omega)).trans z2⟩) ?_
  clear hK K
  refine wpSeqT_list _ _ _ _ (by omega) ?_
  have hW:=with3 lv sq key value A (if c=i+1 then A else Option.map (fun x=>x.add ((i+1) * 2)) A) c n (c - (i+1)) i (n - (i+1)) (l.take i) (l.drop (i+1)) w4 (by rw[List.length_take,HL.out];omega) (by rw[List.length_drop,HL.out]) (take_reads HA4.out) (cut_reads HA4.out HL.out hc (by omega)) (by omega) (by omega)
  rw[←set_parts l i (key,value) (by rw[HL.out];exact hin),←HPN.out] at hW
  have HW:=Hi hW
  clear hW z0 z1 z2 x0 x1 x2 y0 y1 y2
  generalize (if c=i+1 then A else Option.map (fun x=>x.add ((i+1) * 2)) A)=A' at HW ⊢
  go_wp2_with fail
  refine HW.out.mono ?_
  rintro e w6 ⟨v6,rfl,ho6,hb6⟩
  obtain ⟨A6,c6,rfl⟩:=own_form ho6
  have hC6:=HD6.out.below hb6 hs4
  obtain ⟨p0,p1,p2,r0,r1,r2⟩:=hC6.at3
  have hq:=Hi (hC6.put3 (.int .i64 lv) (.int .i64 sq) (.slice A6 (putN l key value).length c6))
  have ho:=Hi (own_put3 (x:=.int .i64 lv) (y:=.int .i64 sq) (z:=.slice A6 (putN l key value).length c6) hC6 ho6)
  have hb:=below_put3 (hbw4.trans (hb6.mono hbw4.size)) (show w.heap.size≤w.heap.size+1 by omega) (.int .i64 lv) (.int .i64 sq) (.slice A6 (putN l key value).length c6)
  have hb8:=hbw4.size
  clear ho6 hC6
  generalize hFF:(putN l key value).length=F at *
  have HFF:=Hi hFF
  clear hFF
  go_wp2_with fail
  generalize (((w6.setCell _ _).setCell _ _).setCell _ _)=w8 at hq ho hb ⊢
  clear p0 p1 p2 r0 r1 r2
  obtain ⟨x0,x1,x2,_⟩:=hq.out.at3
  exact bodyPost_ret (v:=.tuple #[.agg #[.int .i64 lv,.int .i64 sq,.slice A6 F c6],.int .i64 0]) (by simp[results,Tryz.f128,go_sem,x0,x1,x2]) rfl ⟨_,rfl,by rw[HFF.out];exact own_lower ho.out hb8,hb⟩
 ·have hex':exactN l key=false:=by simpa using hex
  rw[hex'] at HPN ⊢
  rw[if_neg (by simp)] at HPN
  obtain ⟨j,rfl⟩ :∃j:Nat,f=(j:Int) - 1:=⟨(f+1).toNat,by omega⟩
  have hj:j≤n:=by omega
  rw[show ((j:Int) - 1+1).toNat=j by omega] at HPN
  have t1:IntKind.i64.wrap ((j:Int) - 1+1)=(j:Int):=by rw[show (j:Int) - 1+1=(j:Int) by omega];exact IntWalk.i64_in _ (by omega)
  have t2:IntKind.i64.wrap (j:Int)=(j:Int):=IntWalk.i64_in _ (by omega)
  have t5:(0:Int)≤(j:Int):=by omega
  have t6:(j:Int)≤(n:Int):=by omega
  have t7:(j:Int)≤(c:Int):=by omega
  have t8:j≤c:=by omega
  clear hex hex'
  go_wp2_with fail
  have z0:=(World.cell?_alloc_lt w4 (.cells #[.int .i64 key,.int .u64 (value:Int)] 94) ⟨w.heap.size,0,none⟩ HD3.out.lt).trans x0
  have z1:=(World.cell?_alloc_lt w4 (.cells #[.int .i64 key,.int .u64 (value:Int)] 94) ⟨w.heap.size,1,none⟩ HD3.out.lt).trans x1
  have z2:=(World.cell?_alloc_lt w4 (.cells #[.int .i64 key,.int .u64 (value:Int)] 94) ⟨w.heap.size,2,none⟩ HD3.out.lt).trans x2
  refine wp_region_mix 12 13 (by kernel_rfl) (by kernel_rfl) (fun w'=>w'.cell? ⟨w.heap.size,0,none⟩=some (.int .i64 lv)∧w'.cell? ⟨w.heap.size,1,none⟩=some (.int .i64 sq)∧w'.cell? ⟨w.heap.size,2,none⟩=some (.slice A n c)) ⟨z0,z1,z2⟩ ?_
  simp only[List.take_succ_cons,List.take_zero,List.drop_succ_cons,List.drop_zero]
  iterate 12
   refine ⟨?_,Or.inl ⟨by rfl,fun W' hS'=>?_⟩,fun _ _ _ h=>h,?_⟩
   rotate_left
   ·obtain ⟨hs1,hs2,hs3⟩:=hS'
    go_simp
    with_reducible rfl
   simp only[Act.put,List.setIfInBounds_toArray,List.set_cons_zero,List.set_cons_succ]
  show wpSeqT _ _ _ _ _ _ _ _ _
  refine wpSeqT_step (fun K hK=>?_)
  go_simp
  refine hK _ _ (fun _=>⟨(World.cell?_alloc_lt _ _ _ (by simp;omega)).trans z0,(World.cell?_alloc_lt _ _ _ (by simp;omega)).trans z1,(World.cell?_alloc_lt _ _ _ (by simp;omega)).trans z2⟩) ?_
  clear hK K
  refine wpSeqT_list _ _ _ _ (by omega) ?_
  have hW:=with3 lv sq key value A (if c=j then A else Option.map (fun x=>x.add (j * 2)) A) c n (c - j) j (n - j) (l.take j) (l.drop j) w4 (by rw[List.length_take,HL.out];omega) (by rw[List.length_drop,HL.out]) (take_reads HA4.out) (cut_reads HA4.out HL.out hc (by omega)) (by omega) (by omega)
  rw[show l.take j++([(key,value)]++l.drop j)=putN l key value from HPN.out.symm] at hW
  have HW:=Hi hW
  clear hW z0 z1 z2 x0 x1 x2 y0 y1 y2
  generalize (if c=j then A else Option.map (fun x=>x.add (j * 2)) A)=A' at HW ⊢
  go_wp2_with fail
  refine HW.out.mono ?_
  rintro e w6 ⟨v6,rfl,ho6,hb6⟩
  obtain ⟨A6,c6,rfl⟩:=own_form ho6
  have hC6:=HD6.out.below hb6 hs4
  obtain ⟨p0,p1,p2,r0,r1,r2⟩:=hC6.at3
  have hq:=Hi (hC6.put3 (.int .i64 lv) (.int .i64 sq) (.slice A6 (putN l key value).length c6))
  have ho:=Hi (own_put3 (x:=.int .i64 lv) (y:=.int .i64 sq) (z:=.slice A6 (putN l key value).length c6) hC6 ho6)
  have hb:=below_put3 (hbw4.trans (hb6.mono hbw4.size)) (show w.heap.size≤w.heap.size+1 by omega) (.int .i64 lv) (.int .i64 sq) (.slice A6 (putN l key value).length c6)
  have hb8:=hbw4.size
  clear ho6 hC6
  generalize hFF:(putN l key value).length=F at *
  have HFF:=Hi hFF
  clear hFF
  go_wp2_with fail
  generalize (((w6.setCell _ _).setCell _ _).setCell _ _)=w8 at hq ho hb ⊢
  clear p0 p1 p2 r0 r1 r2
  obtain ⟨x0,x1,x2,_⟩:=hq.out.at3
  exact bodyPost_ret (v:=.tuple #[.agg #[.int .i64 lv,.int .i64 sq,.slice A6 F c6],.int .i64 0]) (by simp[results,Tryz.f128,go_sem,x0,x1,x2]) rfl ⟨_,rfl,by rw[HFF.out];exact own_lower ho.out hb8,hb⟩
end
section
open Go.RowKit
theorem with2 (lv sq:Int) (A A':Option Addr) (c n c' i n':Nat) (l1 l2:List (Int × Nat)) (w4:World) (h1:l1.length=i) (h2:l2.length=n') (r1:Reads w4 A (ev l1)) (r2:Reads w4 A' (ev l2)) (hi:i≤1000) (hn':n'≤1000) :
  Calls Tryz.prog 145 #[.agg #[.int .i64 lv,.int .i64 sq,.slice A n c],.slice (some ⟨w4.heap.size,0,none⟩) 2 2]
   (w4.alloc (.cells #[.slice A i c,.slice A' n' c'] 87)).drew fun e w'=>
   ∃v,e=.returned (.agg #[.int .i64 lv,.int .i64 sq,v])∧w'.ownsRow w4.heap.size 94 2 v (l1++l2).length (ev (l1++l2))∧Below w4.heap.size w4 w':=by
 have hbb:Below w4.heap.size w4 (w4.alloc (.cells #[.slice A i c,.slice A' n' c'] 87)).drew:=((Below.refl _ w4).alloc (Nat.le_refl _) _).drew
 have hf:flat [⟨A,c,l1⟩,⟨A',c',l2⟩]=l1++l2:=by simp[flat]
 have hcs:=Cs.new w4 87 #[.slice A i c,.slice A' n' c']
 have h:=with_any lv sq A n c w4.heap.size 2 2 [⟨A,c,l1⟩,⟨A',c',l2⟩] (w4.alloc (.cells #[.slice A i c,.slice A' n' c'] 87)).drew rfl
  (by
   simp only[List.map_cons,List.map_nil,Part.v,h1,h2]
   exact hcs)
  (by
   intro p hp
   simp only[List.mem_cons,List.not_mem_nil,or_false] at hp
   rcases hp with rfl|rfl
   ·exact r1.keep hbb
   ·exact r2.keep hbb) (by omega) (by rw[hf];simp;omega)
 rw[hf] at h
 refine h.mono ?_
 rintro e w' ⟨v,rfl,ho,hb⟩
 exact ⟨v,rfl,own_lower ho hbb.size,hbb.trans (hb.mono hbb.size)⟩
theorem refRemove_ok (lv sq i0:Int) (A:Option Addr) (c n:Nat) (l:List (Int × Nat)) (w:World) (hn:l.length=n) (hA:Reads w A (ev l)) (hc:n≤c) (hlen:n≤1000) (hE:remE l i0=0) :
  Calls Tryz.prog 126 #[.agg #[.int .i64 lv,.int .i64 sq,.slice A n c],.int .i64 i0] w fun e w'=>∃v,e=.returned (.tuple #[.agg #[.int .i64 lv,.int .i64 sq,v],.int .i64 0])∧w'.ownsRow w.heap.size 94 2 v (delN l i0.toNat).length (ev (delN l i0.toNat))∧Below w.heap.size w w':=by
 have hk:0≤i0∧i0<(n:Int):=by
  unfold remE at hE
  rw[hn] at hE
  by_cases h:i0<0∨(n:Int)≤i0
  ·rw[if_pos h] at hE;cases hE
  ·omega
 obtain ⟨i,rfl⟩ :∃i:Nat,i0=(i:Int):=⟨i0.toNat,by omega⟩
 rw[Int.toNat_natCast]
 have hb0:Below w.heap.size w ((w.alloc (.cells #[.int .i64 lv,.int .i64 sq,.slice A n c] 129)).alloc (.cells #[.int .i64 0,.int .i64 0,.slice none 0 0] 129)):=((Below.refl _ w).alloc (Nat.le_refl _) _).alloc (by simp) _
 have hC6:=Cs.new (w.alloc (.cells #[.int .i64 lv,.int .i64 sq,.slice A n c] 129)) 129 #[.int .i64 0,.int .i64 0,.slice none 0 0]
 rw[World.size_alloc] at hC6
 have hC3:=(Cs.new w 129 #[.int .i64 lv,.int .i64 sq,.slice A n c]).alloc (.cells #[.int .i64 0,.int .i64 0,.slice none 0 0] 129)
 have HL:=Hi hn
 have HA4:=Hi (hA.keep hb0)
 have HD3:=Hi hC3
 have HD6:=Hi hC6
 have HPN:Hid (delN l i=l.take i++l.drop (i+1)):=rfl
 have hin:i<n:=by omega
 have t0:¬(i:Int)<0:=by omega
 have t4:¬(n:Int)≤(i:Int):=by omega
 have t1:IntKind.i64.wrap ((i:Int)+1)=(i:Int)+1:=IntWalk.i64_in _ (by omega)
 have t3:((i:Int)+1).toNat=i+1:=by omega
 have t5:(0:Int)≤(i:Int)+1:=by omega
 have t6:(i:Int)+1≤(n:Int):=by omega
 have t7:(i:Int)≤(c:Int):=by omega
 have t8:i≤c:=by omega
 have t9:i+1≤n:=by omega
 have ta:(0:Int)≤(i:Int):=by omega
 clear hE hn hA hC3 hC6 hk
 go_enter Tryz.func126,Tryz.ntmps126
 go_wp2_with fail
 generalize ((w.alloc _).alloc _)=w4 at hb0 HA4 HD3 HD6 ⊢
 have hs4:w.heap.size+1<w4.heap.size:=HD6.out.lt
 obtain ⟨x0,x1,x2,y0,y1,y2⟩:=HD3.out.at3
 refine wp_region_mix 10 11 (by kernel_rfl) (by kernel_rfl) (fun w'=>w'.cell? ⟨w.heap.size,0,none⟩=some (.int .i64 lv)∧w'.cell? ⟨w.heap.size,1,none⟩=some (.int .i64 sq)∧w'.cell? ⟨w.heap.size,2,none⟩=some (.slice A n c)) ⟨x0,x1,x2⟩ ?_
 simp only[List.take_succ_cons,List.take_zero,List.drop_succ_cons,List.drop_zero]
 iterate 10
  refine ⟨?_,Or.inl ⟨by rfl,fun W' hS'=>?_⟩,fun _ _ _ h=>h,?_⟩
  rotate_left
  ·obtain ⟨hs1,hs2,hs3⟩:=hS'
   go_simp
   with_reducible rfl
  simp only[Act.put,List.setIfInBounds_toArray,List.set_cons_zero,List.set_cons_succ]
 show wpSeqT _ _ _ _ _ _ _ _ _
 refine wpSeqT_step (fun K hK=>?_)
 go_simp
 refine hK _ _ (fun _=>⟨(World.cell?_alloc_lt _ _ _ (by simp;omega)).trans x0,(World.cell?_alloc_lt _ _ _ (by simp;omega)).trans x1,(World.cell?_alloc_lt _ _ _ (by simp;omega)).trans x2⟩) ?_
 clear hK K
 refine wpSeqT_list _ _ _ _ (by omega) ?_
 have hW:=with2 lv sq A (if c=i+1 then A else Option.map (fun x=>x.add ((i+1) * 2)) A) c n (c - (i+1)) i (n - (i+1)) (l.take i) (l.drop (i+1)) w4 (by rw[List.length_take,HL.out];omega) (by rw[List.length_drop,HL.out]) (take_reads HA4.out) (cut_reads HA4.out HL.out hc (by omega)) (by omega) (by omega)
 rw[←HPN.out] at hW
 have HW:=Hi hW
 clear hW x0 x1 x2 y0 y1 y2
 generalize (if c=i+1 then A else Option.map (fun x=>x.add ((i+1) * 2)) A)=A' at HW ⊢
 go_wp2_with fail
 refine HW.out.mono ?_
 rintro e w6 ⟨v6,rfl,ho6,hb6⟩
 obtain ⟨A6,c6,rfl⟩:=own_form ho6
 have hC6:=HD6.out.below hb6 hs4
 obtain ⟨p0,p1,p2,r0,r1,r2⟩:=hC6.at3
 have hq:=Hi (hC6.put3 (.int .i64 lv) (.int .i64 sq) (.slice A6 (delN l i).length c6))
 have ho:=Hi (own_put3 (x:=.int .i64 lv) (y:=.int .i64 sq) (z:=.slice A6 (delN l i).length c6) hC6 ho6)
 have hb:=below_put3 (hb0.trans (hb6.mono hb0.size)) (show w.heap.size≤w.heap.size+1 by omega) (.int .i64 lv) (.int .i64 sq) (.slice A6 (delN l i).length c6)
 have hb8:=hb0.size
 clear ho6 hC6
 generalize hFF:(delN l i).length=F at *
 have HFF:=Hi hFF
 clear hFF
 go_wp2_with fail
 generalize (((w6.setCell _ _).setCell _ _).setCell _ _)=w8 at hq ho hb ⊢
 clear p0 p1 p2 r0 r1 r2
 obtain ⟨x0,x1,x2,_⟩:=hq.out.at3
 exact bodyPost_ret (v:=.tuple #[.agg #[.int .i64 lv,.int .i64 sq,.slice A6 F c6],.int .i64 0]) (by simp[results,Tryz.f126,go_sem,x0,x1,x2]) rfl ⟨_,rfl,by rw[HFF.out];exact own_lower ho.out hb8,hb⟩
end
section
open Go.RowKit
theorem with1 (lv sq:Int) (A0 A:Option Addr) (n0 c0 gb c n:Nat) (l:List (Int × Nat)) (W V:World) (hl:l.length=n) (hWV:Below W.heap.size W V) (hgb:Cs V gb 87 #[.slice A n c]) (hr:Reads W A (ev l)) (hn:n≤1000) :
  Calls Tryz.prog 145 #[.agg #[.int .i64 lv,.int .i64 sq,.slice A0 n0 c0],.slice (some ⟨gb,0,none⟩) 1 1] V fun e w'=>
   ∃v,e=.returned (.agg #[.int .i64 lv,.int .i64 sq,v])∧w'.ownsRow W.heap.size 94 2 v n (ev l)∧Below V.heap.size V w':=by
 have hf:flat [⟨A,c,l⟩]=l:=by simp[flat]
 have h:=with_any lv sq A0 n0 c0 gb 1 1 [⟨A,c,l⟩] V rfl
  (by
   simp only[List.map_cons,List.map_nil,Part.v,hl]
   exact hgb)
  (by
   intro p hp
   simp only[List.mem_cons,List.not_mem_nil,or_false] at hp
   subst hp
   exact hr.keep hWV) (by omega) (by rw[hf];omega)
 rw[hf,hl] at h
 refine h.mono ?_
 rintro e w' ⟨v,rfl,ho,hb⟩
 exact ⟨v,rfl,own_lower ho hWV.size,hb⟩
theorem set3_cell {W:World} {b g i:Nat} {x y z:Value} (h:b≠g):(((W.setCell ⟨g,0,none⟩ x).setCell ⟨g,1,none⟩ y).setCell ⟨g,2,none⟩ z).cell? ⟨b,i,none⟩=W.cell? ⟨b,i,none⟩:=by
 have hn:∀k,(⟨g,k,none⟩ :Addr)≠⟨b,i,none⟩:=fun k e=>h (congrArg Addr.block e).symm
 rw[World.cell?_setCell_other _ _ _ _ (hn 2),World.cell?_setCell_other _ _ _ _ (hn 1),World.cell?_setCell_other _ _ _ _ (hn 0)]
theorem set3_S {W:World} {b g:Nat} {x y z a0 a1 a2:Value} (h:b≠g) (hS:W.cell? ⟨b,0,none⟩=some a0∧W.cell? ⟨b,1,none⟩=some a1∧W.cell? ⟨b,2,none⟩=some a2) :
  (((W.setCell ⟨g,0,none⟩ x).setCell ⟨g,1,none⟩ y).setCell ⟨g,2,none⟩ z).cell? ⟨b,0,none⟩=some a0∧(((W.setCell ⟨g,0,none⟩ x).setCell ⟨g,1,none⟩ y).setCell ⟨g,2,none⟩ z).cell? ⟨b,1,none⟩=some a1∧(((W.setCell ⟨g,0,none⟩ x).setCell ⟨g,1,none⟩ y).setCell ⟨g,2,none⟩ z).cell? ⟨b,2,none⟩=some a2:=by
 rw[set3_cell h,set3_cell h,set3_cell h];exact hS
theorem Cs.far3 {w:World} {g B:Nat} {t:TypeId} {cs:Array Value} (h:Cs w g t cs) (hne:g≠B) (x y z:Value):Cs (((w.setCell ⟨B,0,none⟩ x).setCell ⟨B,1,none⟩ y).setCell ⟨B,2,none⟩ z) g t cs:=((h.far hne x).far hne y).far hne z
theorem Cs.drew {w:World} {g:Nat} {t:TypeId} {cs:Array Value} (h:Cs w g t cs):Cs w.drew g t cs:=h
theorem refSplit_ok (lv sq:Int) (A:Option Addr) (c n:Nat) (l:List (Int × Nat)) (w:World) (hn:l.length=n) (hA:Reads w A (ev l)) (h8:n≤8) (hc:n≤c) :
  Calls Tryz.prog 129 #[.agg #[.int .i64 lv,.int .i64 sq,.slice A n c]] w fun e w'=>∃va vb,e=.returned (.tuple #[.agg #[.int .i64 lv,.int .i64 sq,va],.agg #[.int .i64 lv,.int .i64 sq,vb],.int .i64 0])∧
   w'.ownsRow w.heap.size 94 2 va (n / 2) (ev (l.take (n / 2)))∧w'.ownsRow w.heap.size 94 2 vb (n - n / 2) (ev (l.drop (n / 2)))∧Below w.heap.size w w':=by
 have h8':¬(8:Int)<(n:Int):=by omega
 obtain ⟨H,hH⟩ :∃H,n / 2=H:=⟨_,rfl⟩
 have hH2:H≤n:=by omega
 have q1:(n:Int) / 2=(H:Int):=by omega
 have q2:(H:Int)≤(c:Int):=by omega
 have q3:(0:Int)≤(H:Int):=by omega
 have q4:H≤c:=by omega
 have q5:(H:Int)≤(n:Int):=by omega
 rw[hH]
 clear hH
 obtain ⟨W,hW⟩ :∃W,W=((w.alloc (.cells #[.int .i64 lv,.int .i64 sq,.slice A n c] 129)).alloc (.cells #[.int .i64 0,.int .i64 0,.slice none 0 0] 129)).alloc (.cells #[.int .i64 0,.int .i64 0,.slice none 0 0] 129):=⟨_,rfl⟩
 have C0:Cs W w.heap.size 129 #[.int .i64 lv,.int .i64 sq,.slice A n c]:=by
  rw[hW];exact ((Cs.new w _ _).alloc _).alloc _
 have C1:Cs W (w.heap.size+1) 129 #[.int .i64 0,.int .i64 0,.slice none 0 0]:=by
  rw[hW];have:=((Cs.new (w.alloc (.cells #[.int .i64 lv,.int .i64 sq,.slice A n c] 129)) 129 #[.int .i64 0,.int .i64 0,.slice none 0 0]).alloc (.cells #[.int .i64 0,.int .i64 0,.slice none 0 0] 129))
  rw[World.size_alloc] at this;exact this
 have C2:Cs W (w.heap.size+1+1) 129 #[.int .i64 0,.int .i64 0,.slice none 0 0]:=by
  rw[hW];have:=Cs.new ((w.alloc (.cells #[.int .i64 lv,.int .i64 sq,.slice A n c] 129)).alloc (.cells #[.int .i64 0,.int .i64 0,.slice none 0 0] 129)) 129 #[.int .i64 0,.int .i64 0,.slice none 0 0]
  rw[World.size_alloc,World.size_alloc] at this;exact this
 have hB:Below w.heap.size w W:=by
  rw[hW];exact (((Below.refl _ w).alloc (Nat.le_refl _) _).alloc (by simp) _).alloc (by simp;omega) _
 have HW:=Hi hW
 have HL:=Hi hn
 have K0:=Hi C0
 have K1:=Hi C1
 have K2:=Hi C2
 have hs2:w.heap.size+1+1<W.heap.size:=C2.lt
 have HA:=Hi (hA.keep hB)
 clear hn hW C0 C1 C2 hA
 go_enter Tryz.func129,Tryz.ntmps129
 go_wp2_with fail
 rw[←HW.out]
 clear HW
 have HT:=Hi (take_reads (k:=H) HA.out)
 have HD:=Hi (cut_reads HA.out HL.out hc hH2)
 have HLT:Hid ((l.take H).length=H):=by show _=_;rw[List.length_take,HL.out];omega
 have HLD:Hid ((l.drop H).length=n - H):=by show _=_;rw[List.length_drop,HL.out]
 have hle1:H≤1000:=by omega
 have hle2:n - H≤1000:=by omega
 obtain ⟨A',hA'⟩ :∃A',(if c=H then A else Option.map (fun x=>x.add (H * 2)) A)=A':=⟨_,rfl⟩
 rw[show Option.map (fun x=>x.add (H * 2)) A=A.map (·.add (H * 2)) from rfl] at hA'
 rw[hA'] at HD
 obtain ⟨x0,x1,x2⟩ :W.cell? ⟨w.heap.size,0,none⟩=some (.int .i64 lv)∧W.cell? ⟨w.heap.size,1,none⟩=some (.int .i64 sq)∧W.cell? ⟨w.heap.size,2,none⟩=some (.slice A n c):=⟨K0.out.cell 0,K0.out.cell 1,K0.out.cell 2⟩
 have y0:Hid (W.cell? ⟨w.heap.size,0,none⟩=some (.int .i64 lv)∧W.cell? ⟨w.heap.size,1,none⟩=some (.int .i64 sq)∧W.cell? ⟨w.heap.size,2,none⟩=some (.slice A n c)):=⟨x0,x1,x2⟩
 have B1:Below W.heap.size W (W.alloc (.cells #[.slice A H c] 87)).drew:=((Below.refl _ W).alloc (Nat.le_refl _) _).drew
 have B12:Below W.heap.size W ((W.alloc (.cells #[.slice A H c] 87)).alloc (.cells #[.slice A' (n - H) (c - H)] 87)).drew:=(((Below.refl _ W).alloc (Nat.le_refl _) _).alloc (by simp) _).drew
 have B21:Below W.heap.size W ((W.alloc (.cells #[.slice A' (n - H) (c - H)] 87)).alloc (.cells #[.slice A H c] 87)).drew:=(((Below.refl _ W).alloc (Nat.le_refl _) _).alloc (by simp) _).drew
 have D1:Cs (W.alloc (.cells #[.slice A H c] 87)).drew W.heap.size 87 #[.slice A H c]:=(Cs.new W _ _).drew
 have D12:Cs ((W.alloc (.cells #[.slice A H c] 87)).alloc (.cells #[.slice A' (n - H) (c - H)] 87)).drew W.heap.size 87 #[.slice A H c]:=((Cs.new W _ _).alloc _).drew
 have D21:Cs ((W.alloc (.cells #[.slice A' (n - H) (c - H)] 87)).alloc (.cells #[.slice A H c] 87)).drew (W.heap.size+1) 87 #[.slice A H c]:=by
  have:=(Cs.new (W.alloc (.cells #[.slice A' (n - H) (c - H)] 87)) 87 #[.slice A H c]).drew
  rw[World.size_alloc] at this;exact this
 have E21:Cs ((W.alloc (.cells #[.slice A' (n - H) (c - H)] 87)).alloc (.cells #[.slice A H c] 87)).drew W.heap.size 87 #[.slice A' (n - H) (c - H)]:=((Cs.new W _ _).alloc _).drew
 have E12:Cs ((W.alloc (.cells #[.slice A H c] 87)).alloc (.cells #[.slice A' (n - H) (c - H)] 87)).drew (W.heap.size+1) 87 #[.slice A' (n - H) (c - H)]:=by
  have:=(Cs.new (W.alloc (.cells #[.slice A H c] 87)) 87 #[.slice A' (n - H) (c - H)]).drew
  rw[World.size_alloc] at this;exact this
 have tok1:True:=trivial
 go_region_held3 (fun w'=>w'.cell? ⟨w.heap.size,0,none⟩=some (.int .i64 lv)∧w'.cell? ⟨w.heap.size,1,none⟩=some (.int .i64 sq)∧w'.cell? ⟨w.heap.size,2,none⟩=some (.slice A n c))
  (first|with_reducible exact y2.out|with_reducible exact y1.out|with_reducible exact set3_S (by omega) (set3_S (by omega) y2.out)|with_reducible exact set3_S (by omega) y2.out|go_keep)
  (first
   |(go_at_call 145;clear tok1;refine (with1 lv sq A A n c _ c H (l.take H) W _ HLT.out (by first|with_reducible exact B1|with_reducible exact B12|with_reducible exact B21) (by first|with_reducible exact D1|with_reducible exact D12|with_reducible exact D21) HT.out hle1).mono ?_;rintro e w1 ⟨v1,rfl,ho1,hb1⟩;obtain ⟨A1,c1,rfl⟩:=own_form ho1;have hX1:Below W.heap.size W w1:=(by first|with_reducible exact B1.trans (hb1.mono B1.size)|with_reducible exact B12.trans (hb1.mono B12.size)|with_reducible exact B21.trans (hb1.mono B21.size));have y1:Hid (w1.cell? ⟨w.heap.size,0,none⟩=some (.int .i64 lv)∧w1.cell? ⟨w.heap.size,1,none⟩=some (.int .i64 sq)∧w1.cell? ⟨w.heap.size,2,none⟩=some (.slice A n c)):=⟨(hX1.cell (p:=⟨w.heap.size,0,none⟩) (show w.heap.size<_ by omega)).trans y0.out.1,(hX1.cell (p:=⟨w.heap.size,1,none⟩) (show w.heap.size<_ by omega)).trans y0.out.2.1,(hX1.cell (p:=⟨w.heap.size,2,none⟩) (show w.heap.size<_ by omega)).trans y0.out.2.2⟩)
   |(go_at_call 145;refine (with1 lv sq A A' n c _ (c - H) (n - H) (l.drop H) W _ HLD.out (by first|with_reducible exact hX1|with_reducible exact hX1.alloc hX1.size _) (by first|with_reducible exact E12.below hb1 E12.lt|with_reducible exact E21.below hb1 E21.lt|with_reducible exact Cs.new w1 _ _) HD.out hle2).mono ?_;rintro e w2 ⟨v2,rfl,ho2,hb2⟩;obtain ⟨A2,c2,rfl⟩:=own_form ho2;have hY:Below w1.heap.size w1 w2:=(by first|with_reducible exact hb2|exact ((Below.refl _ w1).alloc (Nat.le_refl _) _).trans (hb2.mono (by simp)));have hX2:=hX1.trans (hY.mono hX1.size);have y2:Hid (w2.cell? ⟨w.heap.size,0,none⟩=some (.int .i64 lv)∧w2.cell? ⟨w.heap.size,1,none⟩=some (.int .i64 sq)∧w2.cell? ⟨w.heap.size,2,none⟩=some (.slice A n c)):=⟨(hX2.cell (p:=⟨w.heap.size,0,none⟩) (show w.heap.size<_ by omega)).trans y0.out.1,(hX2.cell (p:=⟨w.heap.size,1,none⟩) (show w.heap.size<_ by omega)).trans y0.out.2.1,(hX2.cell (p:=⟨w.heap.size,2,none⟩) (show w.heap.size<_ by omega)).trans y0.out.2.2⟩;have ho1':=own_keepB ho1 hY;have hK1:=K1.out.below hX2 (show w.heap.size+1<_ by omega);have hK2:=K2.out.below hX2 hs2;obtain ⟨p0,p1,p2,r0,r1,r2⟩:=hK1.at3;obtain ⟨p3,p4,p5,r3,r4,r5⟩:=hK2.at3))
 all_goals
  have hne:w.heap.size+1+1≠w.heap.size+1:=by omega
  have e1:=own_put3 (x:=.int .i64 lv) (y:=.int .i64 sq) (z:=.slice A2 (n - H) c2) (hK2.far3 hne _ _ _) (own_put3 (x:=.int .i64 lv) (y:=.int .i64 sq) (z:=.slice A1 H c1) hK1 ho1')
  have e2:=own_put3 (x:=.int .i64 lv) (y:=.int .i64 sq) (z:=.slice A2 (n - H) c2) (hK2.far3 hne _ _ _) (own_put3 (x:=.int .i64 lv) (y:=.int .i64 sq) (z:=.slice A1 H c1) hK1 ho2)
  have f2:=(hK2.far3 hne (.int .i64 lv) (.int .i64 sq) (.slice A1 H c1)).put3 (.int .i64 lv) (.int .i64 sq) (.slice A2 (n - H) c2)
  have f1:=(hK1.put3 (.int .i64 lv) (.int .i64 sq) (.slice A1 H c1)).far3 (Ne.symm hne) (.int .i64 lv) (.int .i64 sq) (.slice A2 (n - H) c2)
  have hbz:=below_put3 (below_put3 ((hB.trans (hX2.mono hB.size))) (show w.heap.size≤w.heap.size+1 by omega) (.int .i64 lv) (.int .i64 sq) (.slice A1 H c1)) (show w.heap.size≤w.heap.size+1+1 by omega) (.int .i64 lv) (.int .i64 sq) (.slice A2 (n - H) c2)
  have F1:=Hi f1
  have F2:=Hi f2
  have G1:=Hi e1
  have G2:=Hi e2
  have hbs:=hB.size
  clear f1 f2 e1 e2 hK1 hK2 p0 p1 p2 r0 r1 r2 p3 p4 p5 r3 r4 r5 y2 y1 y0 x0 x1 x2 hA'
  go_wp2_with fail
  generalize ((((((w2.setCell _ _).setCell _ _).setCell _ _).setCell _ _).setCell _ _).setCell _ _)=w8 at F1 F2 G1 G2 hbz ⊢
  obtain ⟨x0,x1,x2,_⟩:=F1.out.at3
  obtain ⟨x3,x4,x5,_⟩:=F2.out.at3
  exact bodyPost_ret (v:=.tuple #[.agg #[.int .i64 lv,.int .i64 sq,.slice A1 H c1],.agg #[.int .i64 lv,.int .i64 sq,.slice A2 (n - H) c2],.int .i64 0]) (by simp[results,Tryz.f129,go_sem,x0,x1,x2,x3,x4,x5]) rfl ⟨_,_,rfl,own_lower G1.out hbs,own_lower G2.out (Nat.le_trans hbs (by omega)),hbz⟩
end
section
open Go.RowKit
def SrcAt (W:World) (g:Nat):Prop:=
 ∃(w0:World) (A:Option Addr) (n c:Nat) (at0:Nat) (L:List Int),W.heap[g]? =some (.cells #[.slice A n c,.int .i64 (at0:Int)] 54 (0,0))∧
  Reads w0 A (iv L)∧L.length=n∧I64 L∧at0≤n∧n≤1000∧w0.heap.size≤g∧Below w0.heap.size w0 W
theorem SrcAt.lt {W:World} {g:Nat} (h:SrcAt W g):g<W.heap.size:=by
 obtain ⟨w0,A,n,c,at0,L,h1,_⟩:=h
 exact (Array.getElem?_eq_some_iff.1 h1).1
theorem SrcAt.below {W W':World} {g B:Nat} (h:SrcAt W g) (hb:Below B W W') (hg:g<B):SrcAt W' g:=by
 obtain ⟨w0,A,n,c,at0,L,h1,h2,h3,h4,h5,h6,h7,h8⟩:=h
 exact ⟨w0,A,n,c,at0,L,(hb.block g hg).trans h1,h2,h3,h4,h5,h6,h7,h8.trans (hb.mono (by omega))⟩
theorem SrcAt.grown {W W':World} {g:Nat} {row:Option Nat} (h:SrcAt W g) (hg:W.grownBy W' row) (hr:∀r,row=some r→g<r):SrcAt W' g:=by
 have hlt:=h.lt
 exact h.below (B:=g+1) ((Below.refl _ W).grown hg (by omega) (fun k e=>by have:=hr k e;omega)) (by omega)
theorem only_drewN_refl (W:World) (n:Nat) {row:Option Nat}:W.grownBy (W.drewN n) row:=⟨rfl,rfl,rfl,Nat.le_refl _,fun _ _ _=>rfl⟩
theorem only_drewN' {a w:World} {row:Option Nat} (h:a.grownBy w row) (n:Nat):a.grownBy (w.drewN n) row:=⟨h.os,h.tape,h.output,h.size,h.block⟩
theorem new_any (A:Option Addr) (n c:Nat) (l:List Int) (w:World) (hN:l.length=n) (hA:Reads w A (iv l)) (hw:I64 l) (hl:n≤c) :
  Calls Tryz.prog 7 #[.slice A n c] w fun e w'=>e=.returned (.pointer (some ⟨w.heap.size,0,none⟩))∧SrcAt w' w.heap.size∧Below w.heap.size w w'∧w'.heap.size=w.heap.size+1:=by
 by_cases h:1000<n
 ·have h':1000<(n:Int):=by omega
  have h2:(1000:Int)≤(c:Int):=by omega
  have h3:¬c<1000:=by omega
  go_enter Tryz.func7,Tryz.ntmps7
  go_wp2
  go_ret
  refine ⟨rfl,?_,(Below.refl _ _).alloc (Nat.le_refl _) _,by simp⟩
  refine ⟨w,A,1000,c,0,l.take 1000,heap_alloc_new w _,?_,by simp;omega,fun x hx=>hw x (List.mem_of_mem_take hx),Nat.zero_le _,by omega,Nat.le_refl _,(Below.refl _ _).alloc (Nat.le_refl _) _⟩
  have:=hA.take' 1000
  unfold iv at this ⊢
  rw[List.map_take]
  exact this
 ·have h':¬1000<(n:Int):=by omega
  go_enter Tryz.func7,Tryz.ntmps7
  go_wp2
  go_ret
  refine ⟨rfl,?_,(Below.refl _ _).alloc (Nat.le_refl _) _,by simp⟩
  exact ⟨w,A,n,c,0,l,heap_alloc_new w _,hA,hN,hw,Nat.zero_le _,by omega,Nat.le_refl _,(Below.refl _ _).alloc (Nat.le_refl _) _⟩
theorem raw_any (g:Nat) (W:World) (h:SrcAt W g) :
  Calls Tryz.prog 45 #[.pointer (some ⟨g,0,none⟩)] W fun e W'=>∃r:Int,e=.returned (.int .i64 r)∧-9223372036854775808≤r∧r≤9223372036854775807∧SrcAt W' g∧W.grownBy W' (some g):=by
 obtain ⟨w0,A,n,c,k,L,h1,h2,h3,h4,h5,h6,h7,h8⟩:=h
 have hc0:W.cell? ⟨g,0,none⟩=some (.slice A n c):=cell_of_row W g 0 _ _ _ h1
 have hc1:W.cell? ⟨g,1,none⟩=some (.int .i64 (k:Int)):=cell_of_row W g 1 _ _ _ h1
 have hf1:W.frozen? ⟨g,1,none⟩=false:=frozen_of_row W g 1 _ _ h1
 by_cases hk:k<n
 ·have hk':¬(n:Int)≤(k:Int):=by omega
  have hL:=I64.at h4 k
  obtain ⟨b,off,rfl,hb,hcs⟩:=h2.i (by omega)
  have hcl:=(h8.cell (p:=⟨b,off+k,none⟩) hb).trans (hcs k (by omega))
  obtain ⟨r,er⟩ :∃r,L[k]?.getD 0=r:=⟨_,rfl⟩
  rw[er] at hcl hL
  have hne:b≠g:=by omega
  have H1:=Hi h1
  have H3:=Hi h3
  clear er hcs h1 h3
  go_enter Tryz.func45,Tryz.ntmps45
  go_wp2
  go_quiet (fail)
  go_wp2
  have hg:W.grownBy ((W.drewN nq).setCell ⟨g,1,none⟩ (.int .i64 ((k:Int)+1))) (some g):=
   ⟨rfl,rfl,rfl,by simp,fun j _ hj=>Below.heap_setCell _ _ _ j (fun e=>hj (by rw[e]))⟩
  have hW2:SrcAt ((W.drewN nq).setCell ⟨g,1,none⟩ (.int .i64 ((k:Int)+1))) g:=by
   refine ⟨w0,some ⟨b,off,none⟩,n,c,k+1,L,?_,h2,H3.out,h4,by omega,h6,h7,(below_drewN h8 nq).setCell (p:=⟨g,1,none⟩) h7 _⟩
   have:=heap_setCell_same (W.drewN nq) g 1 _ 54 (.int .i64 ((k:Int)+1)) H1.out
   exact this
  have d0:((W.drewN nq).setCell ⟨g,1,none⟩ (.int .i64 ((k:Int)+1))).cell? ⟨g,0,none⟩=some (.slice (some ⟨b,off,none⟩) n c):=(World.cell?_setCell_other _ _ _ _ (by simp)).trans hc0
  have d1:((W.drewN nq).setCell ⟨g,1,none⟩ (.int .i64 ((k:Int)+1))).cell? ⟨g,1,none⟩=some (.int .i64 ((k:Int)+1)):=World.cell?_setCell_same _ _ _ hc1
  have d2:((W.drewN nq).setCell ⟨g,1,none⟩ (.int .i64 ((k:Int)+1))).cell? ⟨b,off+k,none⟩=some (.int .i64 r):=(World.cell?_setCell_other _ _ _ _ (fun e=>hne (congrArg Addr.block e).symm)).trans hcl
  generalize ((W.drewN nq).setCell _ _)=W2 at hg hW2 d0 d1 d2 ⊢
  have t1:IntKind.i64.wrap (k:Int)=(k:Int):=IntWalk.i64_in _ (by omega)
  have t2:(0:Int)≤(k:Int):=by omega
  clear hc0 hc1 hf1 hcl
  go_quiet (fail)
  go_wp2
  go_ret
  exact ⟨r,rfl,hL.1,hL.2,hW2.grown (row:=none) (only_drewN_refl _ _) (fun r e=>by cases e),only_drewN' hg _⟩
 ·have hk':(n:Int)≤(k:Int):=by omega
  have H0:SrcAt W g:=⟨w0,A,n,c,k,L,h1,h2,h3,h4,h5,h6,h7,h8⟩
  clear h1 h3
  go_enter Tryz.func45,Tryz.ntmps45
  go_wp2
  go_quiet (fail)
  go_wp2
  go_ret
  exact ⟨0,rfl,by omega,by omega,H0.grown (row:=none) (only_drewN_refl _ _) (fun r e=>by cases e),only_drewN_refl _ _⟩
theorem n_any (g:Nat) (n:Int) (W:World) (h:SrcAt W g) (h1:1≤n) (h2:n≤1000000000000) :
  Calls Tryz.prog 10 #[.pointer (some ⟨g,0,none⟩),.int .i64 n] W fun e W'=>∃r:Int,e=.returned (.int .i64 r)∧0≤r∧r<n∧SrcAt W' g∧W.grownBy W' (some g):=by
 have h1':¬n<1:=by omega
 go_enter Tryz.func10,Tryz.ntmps10
 go_wp2_with fail
 refine (raw_any g W h).mono ?_
 rintro e W2 ⟨r,rfl,hr1,hr2,hs,hg⟩
 have t1:=Int.tmod_lt_of_pos r (b:=n) (by omega)
 have t2: -n<r.tmod n:=Int.lt_tmod_of_pos r (by omega)
 obtain ⟨T,hT⟩ :∃T,r.tmod n=T:=⟨_,rfl⟩
 rw[hT] at t1 t2
 have hz:n≠0:=by omega
 by_cases hneg:T<0
 ·go_wp2_with fail
  go_ret
  exact ⟨_,rfl,by omega,by omega,hs,hg⟩
 ·go_wp2_with fail
  go_ret
  exact ⟨_,rfl,by omega,by omega,hs,hg⟩
theorem range_any (g:Nat) (lo hi:Int) (W:World) (h:SrcAt W g) (h1:lo≤hi) (h2:hi≤100000000000) (h3: -100000000000≤lo) :
  Calls Tryz.prog 20 #[.pointer (some ⟨g,0,none⟩),.int .i64 lo,.int .i64 hi] W fun e W'=>∃r:Int,e=.returned (.int .i64 r)∧lo≤r∧r≤hi∧SrcAt W' g∧W.grownBy W' (some g):=by
 go_enter Tryz.func20,Tryz.ntmps20
 go_wp2_with fail
 refine (n_any g _ W h (by omega) (by omega)).mono ?_
 rintro e W2 ⟨r,rfl,hr1,hr2,hs,hg⟩
 go_wp2_with fail
 go_ret
 exact ⟨_,rfl,by omega,by omega,hs,hg⟩
end
end Go.Proofs.YtplhdjdkobddnaaGreat
