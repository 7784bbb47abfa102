/- SumC SumD C4 NodeA -/
import Derived.Test.YtplhdjdkobddnaaGreatTr2
import Derived.Deep.WholeRow
set_option linter.unusedVariables false
set_option maxRecDepth 100000
set_option maxHeartbeats 40000000
namespace Go.Proofs.YtplhdjdkobddnaaGreat
section
open Go.RowKit Go.Shelf
attribute [local go_sem] Oper.semAt_some
abbrev encB (x:Fin 256):Array Value:=#[.int .u8 (x.val:Int)]
def byteOf (l:List Nat) (i:Nat):Fin 256:=⟨byteC (l[i / 8]?.getD 0) (i % 8),byteC_lt _ _⟩
theorem spread1_in (F:Fence) (n:Nat) (h35:F.fn 147) (hro:F.round=none) (hn:1≤n) (l Bs n₀:Nat) (A:Option Addr) (cap:Nat) (ws:List Nat) (hw:W64 ws)
  (hlen:ws.length≤1000000) (J Jx:List (Fin 256)→World→Prop)
  (hY:∀pre x W,J pre W→pre.length<8 * ws.length→YieldAt F (n - 1) Tryz.prog l (encB x) W fun e W'=>
   (e=.returned (.bool true)∧J (pre++ [x]) W'∧KeepB n₀ Bs W W')∨(e=.returned (.bool false)∧Jx (pre++ [x]) W'))
  (W:World) (hBs:W.cell? ⟨Bs,0,none⟩=some (.slice A ws.length cap))
  (hA:∀i,i<ws.length→∃b off,A=some ⟨b,off,none⟩∧b<n₀∧W.cell? ⟨b,off+i,none⟩=some (.int .u64 ((ws[i]?.getD 0:Nat):Int))) (h0:J [] W) :
  CallsIn F n Tryz.prog 147 #[.func (.yield l) #[] #[],.pointer (some ⟨Bs,0,none⟩)] W fun e W'=>(∃v,e=.returned v)∧
   ((∃ys,ys=upto (byteOf ws) (8 * ws.length)∧J ys W')∨(∃pre,(∃k,k≤8 * ws.length∧pre=upto (byteOf ws) k)∧Jx pre W')):=by
 obtain ⟨m,hm⟩ :∃m,ws.length=m:=⟨_,rfl⟩
 have HM:=Hi hm
 rw[hm] at hlen hBs hA hY ⊢
 clear hm
 have HA:=Hi hA
 clear hA
 refine callsIn_of_wp Tryz.func147 rfl h35 ?_ hro
 simp only[Tryz.ntmps147,List.size_toArray,List.length_cons,List.length_nil,Nat.reduceAdd,Nat.reduceSub,Array.replicate_succ,Array.replicate_zero,List.push_toArray,List.append_toArray,List.nil_append,List.cons_append]
 gi_wp2
 gi_loopw [8] (fun i wr=>∃k:Nat,k≤m∧i=.int .i64 k∧J (upto (byteOf ws) (8 * k)) wr∧KeepB n₀ Bs W wr) (fun i _=>m - (intOf i).toNat)
 case atStart=>exact ⟨0,Nat.zero_le _,rfl,h0,KeepB.refl _ _ _⟩
 case round=>
  obtain ⟨k,hk,rfl,hJs,hnx⟩:=hrel
  by_cases hlt:k<m
  ·obtain ⟨b,off,rfl,hb,hc1⟩:=HA.out k hlt
   have hc2:=(hnx.below.cell (p:=⟨b,off+k,none⟩) hb).trans hc1
   have hv:=hw.at k
   obtain ⟨v,ev⟩ :∃v,ws[k]?.getD 0=v:=⟨_,rfl⟩
   rw[ev] at hc2 hv
   have EV:=Hi ev
   clear ev hc1
   gi_wp2
   gi_loopw [12] (fun i wr2=>∃t:Nat,t≤8∧i=.int .i64 t∧J (upto (byteOf ws) (8 * k+t)) wr2∧KeepB n₀ Bs W wr2) (fun i _=>8 - (intOf i).toNat)
   case atStart=>exact ⟨0,Nat.zero_le _,rfl,hJs,hnx⟩
   case round=>
    obtain ⟨t,ht,rfl,hJt,hnt⟩:=hrel
    by_cases h8:t<8
    ·have h8':(t:Int)<8:=by omega
     have e8:((8:Int) * (t:Int)).toNat=8 * t:=by omega
     have hby:=byte_wrap v (8 * t)
     obtain ⟨fn,tmps,assign,body,hy,hR⟩:=hY _ (byteOf ws (8 * k+t)) _ hJt (by rw[upto_length];omega)
     have e1:((byteOf ws (8 * k+t)).val:Int)=((v >>> (8 * t) % 256:Nat):Int):=by
      show ((byteC (ws[(8 * k+t) / 8]?.getD 0) ((8 * k+t) % 8):Nat):Int)=_
      rw[show (8 * k+t) / 8=k by omega,show (8 * k+t) % 8=t by omega,EV.out]
      rfl
     obtain ⟨y,ey⟩ :∃y,v >>> (8 * t) % 256=y:=⟨_,rfl⟩
     rw[ey] at e1 hby
     have hy':_:=hy
     simp only[encB,e1] at hy'
     clear hy e1 ey
     gi_wp2
     refine hR.mono ?_
     rintro e W3 (⟨rfl,hJ3,hk3⟩| ⟨rfl,hJx3⟩)
     ·gi_wp2
      go_roundw
      case rel=>exact ⟨t+1,by omega,by simp,by rw[←Nat.add_assoc,upto_succ];exact hJ3,hnt.trans hk3⟩
      case measure=>simp[intOf];omega
     ·gi_wp2
      refine bodyPost_ret (results_none rfl _ _ _) rfl ?_
      exact ⟨⟨_,rfl⟩,.inr ⟨_,⟨8 * k+t+1,by omega,(upto_succ _ _).symm⟩,hJx3⟩⟩
    ·obtain rfl:t=8:=by omega
     gi_wp2
     go_roundw
     case rel=>exact ⟨k+1,by omega,by simp,hJt,hnt⟩
     case measure=>simp[intOf];omega
  ·obtain rfl:k=m:=by omega
   gi_wp2
   go_end0
   exact ⟨⟨_,rfl⟩,.inl ⟨_,rfl,hJs⟩⟩
theorem spread_in (F:Fence) (n:Nat) (h31:F.fn 139) (hro:F.round=none) (a:Option Addr) (len cap:Nat) (w:World) :
  CallsIn F n Tryz.prog 139 #[.slice a len cap] w fun e w'=>e=.returned (.func (.func 147) #[] #[.pointer (some ⟨w.heap.size,0,none⟩)])∧w.alloc (.cells #[.slice a len cap] 27)=w':=by
 refine callsIn_of_wp Tryz.func139 rfl h31 ?_ hro
 simp only[Tryz.ntmps139,List.size_toArray,List.length_cons,List.length_nil,Nat.reduceAdd,Nat.reduceSub,Array.replicate_succ,Array.replicate_zero,List.push_toArray,List.append_toArray,List.nil_append,List.cons_append]
 gi_wp2
 go_ret
 exact ⟨rfl,rfl⟩
theorem spread_stops (F:Fence) (n:Nat) (h35:F.fn 147) (hro:F.round=none) (hn:1≤n) (Bs n₀:Nat) (A:Option Addr) (cap:Nat) (ws:List Nat) (hw:W64 ws)
  (hlen:ws.length≤1000000) (w:World) (hBs:Bs<w.heap.size) (hn₀:n₀≤w.heap.size)
  (hc:w.cell? ⟨Bs,0,none⟩=some (.slice A ws.length cap))
  (hA:∀i,i<ws.length→∃b off,A=some ⟨b,off,none⟩∧b<n₀∧w.cell? ⟨b,off+i,none⟩=some (.int .u64 ((ws[i]?.getD 0:Nat):Int))) :
  SeqStopsK F n Tryz.prog 147 #[.pointer (some ⟨Bs,0,none⟩)] encB (KeepB n₀ Bs) (fun ys=>ys=upto (byteOf ws) (8 * ws.length))
   (fun pre=>∃k,k≤8 * ws.length∧pre=upto (byteOf ws) k) (8 * ws.length) w:=fun l J Jx W hW _ _ hY h0=>
 spread1_in F n h35 hro hn l Bs n₀ A cap ws hw hlen J Jx hY W ((hW.cell (p:=⟨Bs,0,none⟩) (by show Bs<_;omega)).trans hc) (fun i hi=>by
  obtain ⟨b,off,e,hb,h⟩:=hA i hi
  exact ⟨b,off,e,hb,(hW.cell (p:=⟨b,off+i,none⟩) (by show b<_;omega)).trans h⟩) h0
end
section
open Go.RowKit Go.Shelf
attribute [local go_sem] Oper.semAt_some
def foldB (x:Nat) (pre:List (Fin 256)):Nat:=pre.foldl (fun x b=>feedC x b.val) x
theorem foldB_snoc (x:Nat) (pre:List (Fin 256)) (b:Fin 256):foldB x (pre++ [b])=feedC (foldB x pre) b.val:=by simp[foldB]
theorem foldB_lt (x:Nat) (pre:List (Fin 256)) (h:x<4294967296):foldB x pre<4294967296:=by
 induction pre generalizing x with
 |nil=>exact h
 |cons b pre ih=>exact ih _ (feedC_lt _ _ h b.isLt)
theorem foldB_part (x:Nat) (ws:List Nat) (k:Nat) (hk:k<ws.length) (h:foldB x (upto (byteOf ws) (8 * k))=wordsC x (ws.take k)) :
  ∀t,t≤8→foldB x (upto (byteOf ws) (8 * k+t))=wordC (wordsC x (ws.take k)) (ws[k]?.getD 0) t
 |0,_=>h
 |t+1,ht=>by
  rw[←Nat.add_assoc,upto_succ,foldB_snoc,foldB_part x ws k hk h t (by omega)]
  show feedC _ (byteC (ws[(8 * k+t) / 8]?.getD 0) ((8 * k+t) % 8))=_
  rw[show (8 * k+t) / 8=k by omega,show (8 * k+t) % 8=t by omega]
  rfl
theorem foldB_words (x:Nat) (ws:List Nat):∀k,k≤ws.length→foldB x (upto (byteOf ws) (8 * k))=wordsC x (ws.take k)
 |0,_=>by simp[foldB,upto,wordsC]
 |k+1,h=>by
  have:=foldB_part x ws k (by omega) (foldB_words x ws k (by omega)) 8 (by omega)
  rw[show 8 * (k+1)=8 * k+8 by omega,this,List.take_succ_eq_append_getElem (by omega),wordsC_snoc,List.getElem?_eq_getElem (by omega)]
  rfl
theorem foldB_all (x:Nat) (ws:List Nat):foldB x (upto (byteOf ws) (8 * ws.length))=wordsC x ws:=by
 rw[foldB_words x ws _ (Nat.le_refl _),List.take_length]
theorem run_any (T Bs:Nat) (x:Nat) (A:Option Addr) (c:Nat) (ws:List Nat) (w:World) (hA:Reads w A (uv ws)) (hw:W64 ws) (hlen:ws.length≤1000000) (hx:x<4294967296)
  (hT:w.heap[T]? =some (.cells (tabTo 256).toArray 204 (0,0))) (hBs:w.cell? ⟨Bs,0,none⟩=some (.slice A ws.length c)) :
  Calls Tryz.prog 138 #[.pointer (some ⟨T,0,none⟩),.int .u32 (x:Int),.func (.func 147) #[] #[.pointer (some ⟨Bs,0,none⟩)]] w fun e w'=>e=.returned (.int .u32 ((wordsC x ws:Nat):Int))∧Below w.heap.size w w':=by
 refine (callsIn_wide (n:=6)).1 ?_
 have hBl:Bs<w.heap.size:=World.block_lt_of_cell? _ _ hBs
 have hTl:T<w.heap.size:=(Array.getElem?_eq_some_iff.1 hT).1
 have hci:∀i,i<ws.length→∃b off,A=some ⟨b,off,none⟩∧b<w.heap.size∧w.cell? ⟨b,off+i,none⟩=some (.int .u64 ((ws[i]?.getD 0:Nat):Int)):=by
  intro i hi
  obtain ⟨b,off,e,hb,hc⟩:=hA.u (by omega)
  exact ⟨b,off,e,hb,hc i (by omega)⟩
 have HT:=Hi hT
 have HI:=Hi hci
 have HBS:=Hi hBs
 clear hT hci hA hBs
 refine callsIn_of_wp_marks Tryz.func138 rfl trivial ?_ rfl
 simp only[Tryz.ntmps138,List.size_toArray,List.length_cons,List.length_nil,Nat.reduceAdd,Nat.reduceSub,Array.replicate_succ,Array.replicate_zero,List.push_toArray,List.append_toArray,List.nil_append,List.cons_append]
 gi_wp2_with fail
 have b0:=(Boxed.new w 216 (.pointer (some ⟨T,0,none⟩))).alloc (.cells #[.int .u32 (x:Int)] 108)
 have b1:=Boxed.new (w.alloc (.cells #[.pointer (some ⟨T,0,none⟩)] 216)) 108 (.int .u32 (x:Int))
 have hb:Below w.heap.size w ((w.alloc (.cells #[.pointer (some ⟨T,0,none⟩)] 216)).alloc (.cells #[.int .u32 (x:Int)] 108)):=((Below.refl _ w).alloc (Nat.le_refl _) _).alloc (by simp) _
 simp only[World.size_alloc] at b0 b1
 obtain ⟨W0,hW0⟩ :∃W0,((w.alloc (.cells #[.pointer (some ⟨T,0,none⟩)] 216)).alloc (.cells #[.int .u32 (x:Int)] 108))=W0:=⟨_,rfl⟩
 have hsz:W0.heap.size=w.heap.size+1+1:=by rw[←hW0];simp
 rw[hW0] at b0 b1 hb ⊢
 clear hW0
 refine wpIn_rangeFunc_ownG rfl (by omega) (gf:=147) (lb:=#[.pointer (some ⟨Bs,0,none⟩)]) rfl trivial (enters_of Tryz.func147 (by kernel_rfl) rfl)
  (spread_stops Fence.wide 5 trivial rfl (by omega) Bs w.heap.size A c ws hw hlen W0 (by omega) (by omega) ((hb.cell (p:=⟨Bs,0,none⟩) hBl).trans HBS.out)
   (fun i hi=>by
    obtain ⟨b,off,e,hlt,h⟩:=HI.out i hi
    exact ⟨b,off,e,hlt,(hb.cell (p:=⟨b,off+i,none⟩) hlt).trans h⟩))
  KeepB.trans (KeepB.putObj (by omega) (by omega)) (Below.refl _ _) (fun _=>rfl)
  (fun pre W=>(Boxed W w.heap.size 216 (.pointer (some ⟨T,0,none⟩))∧Boxed W (w.heap.size+1) 108 (.int .u32 ((foldB x pre:Nat):Int)))∧Below w.heap.size w W)
  (fun _ _ _=>False)
  (OwnFrom.and (Own.from (fun s A B row hs hg hr=>⟨boxed_own _ _ (fun _=>_) s A B row hs.1 hg hr,boxed_own _ _ (fun _=>_) s A B row hs.2 hg hr⟩) _) (ownFrom_below (Nat.le_refl _) (by omega)))
  (fun c s A B row hs hg hr=>hs)
  ⟨⟨b0,b1⟩,hb⟩
  (fun b=>{ tmps:=#[.pointer (some ⟨T,0,none⟩),.int .u32 (x:Int),.func (.func 147) #[] #[.pointer (some ⟨Bs,0,none⟩)],.pointer (some ⟨w.heap.size,0,none⟩),.pointer (some ⟨w.heap.size+1,0,none⟩),undef,.int .u32 0,
   .int .u8 (b.val:Int),.func (.func 147) #[] #[.pointer (some ⟨Bs,0,none⟩)],.int .u8 (b.val:Int),undef,undef,undef,undef,undef,undef,undef,undef,undef,undef,undef,undef],defers:=[] }) ?assign ?body ?done ?stop
 case assign=>
  intro l f W K hK
  gi_wp2
  exact hK
 case body=>
  rintro l pre b W ⟨⟨c0,c1⟩,hB⟩ hlt
  have hmix:Tryz.prog.follows .mixedOrders=true:=by kernel_rfl
  have hbl:=b.isLt
  have hr:=foldB_lt x pre hx
  have hz:=u8_xor_nat (foldB x pre % 256) b.val (Nat.mod_lt _ (by omega)) hbl
  have hzl:(foldB x pre % 256) ^^^ b.val<256:=Nat.xor_lt_two_pow (n:=8) (Nat.mod_lt _ (by omega)) hbl
  have hp:IntKind.u8.wrap ((foldB x pre:Nat):Int)=((foldB x pre % 256:Nat):Int):=by rw[IntKind.wrap_u8];omega
  have hnew:=foldB_snoc x pre b
  rw[feedC_table _ _ hbl] at hnew
  have hTW:=(hB.block T hTl).trans HT.out
  have ht8:=stepN_lt 8 ((foldB x pre % 256) ^^^ b.val) (by omega)
  have hct:=cell_of_row W T ((foldB x pre % 256) ^^^ b.val) _ _ _ hTW
  rw[show (tabTo 256).toArray[(foldB x pre % 256) ^^^ b.val]? =(tabTo 256)[(foldB x pre % 256) ^^^ b.val]? by simp,tabTo_at 256 _ hzl,if_pos hzl] at hct
  obtain ⟨bv,ebv⟩ :∃bv,b.val=bv:=⟨_,rfl⟩
  obtain ⟨R,eR⟩ :∃R,foldB x pre=R:=⟨_,rfl⟩
  obtain ⟨p,ep⟩ :∃p,R % 256=p:=⟨_,rfl⟩
  rw[eR,ebv] at hz hzl hnew hct ht8
  rw[eR] at c1 hr hp
  rw[ep] at hz hzl hp hnew hct ht8
  rw[ebv] at hbl ⊢
  obtain ⟨z,ez⟩ :∃z,p ^^^ bv=z:=⟨_,rfl⟩
  rw[ez] at hz hzl hnew hct ht8
  obtain ⟨V,eV⟩ :∃V,step8 z=V:=⟨_,rfl⟩
  rw[eV] at hnew hct
  change stepN 8 z<_ at ht8
  rw[show stepN 8 z=V from eV] at ht8
  have HNEW:=Hi hnew
  have d0:=c0.cell
  have d1:=c1.cell
  have d1':=c1.frozen
  have z0:(0:Int)≤(z:Int):=by omega
  have z1:(z:Int)<256:=by omega
  clear hnew eV ez ep eR ebv hTW
  gi_wp2
  refine wpIn_region_still_tail 11 hmix (by kernel_rfl) (by rintro ⟨_,_,h⟩;exact h) (by kernel_rfl) ?_
  simp only[List.take_succ_cons,List.take_zero,List.drop_succ_cons,List.drop_zero]
  repeat still_step
  refine wpStill_nil ?_
  go_wp2
  have hv:bits .xor .u32 (V:Int) ((R:Int) / 256)=((foldB x (pre++ [b]):Nat):Int):=by
   rw[HNEW.out,←u32_xor_nat V (R >>> 8) ht8 (Nat.lt_of_le_of_lt (Nat.shiftRight_le _ _) hr),Nat.shiftRight_eq_div_pow]
   rfl
  rw[hv]
  exact ⟨((KeepsOthers.setCell W ⟨w.heap.size+1,0,none⟩ _).trans (KeepsOthers.drew _)).from _,((KeepB.refl w.heap.size Bs W).setCell (b:=w.heap.size+1) (i:=0) (by omega) (by omega) _).drew,
   ⟨c0.other (by omega) _,c1.set _⟩,(hB.setCell (p:=⟨w.heap.size+1,0,none⟩) (by show _≤_+1;omega) _).drew⟩
 case done=>
  rintro D ys W hD rfl ⟨⟨c0,c1⟩,hB⟩ hK
  have d1:=c1.cell
  rw[foldB_all] at d1
  gi_wp2
  refine ⟨by simp,.inl ⟨_,_,rfl,run_takeDeferred hK,?_⟩⟩
  refine ⟨.int .u32 ((wordsC x ws:Nat):Int),by simp[results,Tryz.f138,go_sem],rfl,hB.trans (belowK_b (w:=w) (Nat.le_refl _) W D _ _ (by omega) hK rfl rfl)⟩
 case stop=>
  rintro D c pre W _ _ h _
  exact h.elim
theorem store_table (w:World):(storeCells ⟨w.heap.size,0,none⟩ (tabTo 256).toArray.toList).run Tryz.prog (w.alloc (.cells Tryz.zeroCells204 204))=.ok () (w.alloc (.cells (tabTo 256).toArray 204)):=by
 have hi:(Tryz.prog.info? 204).map (·.size)=some (tabTo 256).toArray.size:=by
  rw[show (tabTo 256).toArray.size=256 by simp[tabTo]];kernel_rfl
 have h1c:(tabTo 256).toArray.all (·.oneCell')=true:=all_oneCell_toArray (by
  intro v hv
  obtain ⟨i,_,rfl⟩:=List.mem_map.1 hv
  rfl)
 have:=run_storeCells_new (P:=Tryz.prog) w 204 Tryz.zeroCells204 (tabTo 256).toArray hi (by rw[tabTo_zero];simp[tabTo]) h1c
 exact this
theorem extend_any (s:Nat) (A:Option Addr) (c n:Nat) (l:List Nat) (w:World) (hn:l.length=n) (hA:Reads w A (uv l)) (hl:W64 l) (hlen:n≤1000000) (hs:s<4294967296) :
  Calls Tryz.prog 113 #[.int .u32 (s:Int),.slice A n c] w fun e w'=>e=.returned (.int .u32 ((extendC s l:Nat):Int))∧Below w.heap.size w w':=by
 have HN:=Hi hn
 have hns:=not32 s hs
 go_enter Tryz.func113,Tryz.ntmps113
 go_wp2_with fail
 refine (newTable_any w).mono ?_
 rintro e w1 ⟨rfl,hb1⟩
 have hst:=store_table w1
 obtain ⟨cs,ecs⟩ :∃cs,(tabTo 256).toArray=cs:=⟨_,rfl⟩
 have ECS:=Hi ecs
 have hcz:cs.size=256:=by rw[←ecs];simp[tabTo]
 rw[ecs] at hst ⊢
 clear ecs
 go_wp2_with fail
 have rA1:=hA.keep hb1
 have hT:(w1.alloc (.cells cs 204)).heap[w1.heap.size]? =some (.cells cs 204 (0,0)):=heap_alloc_new w1 _
 have hb2:Below w.heap.size w (w1.alloc (.cells cs 204)):=hb1.alloc hb1.size _
 have hg2:w1.heap.size<(w1.alloc (.cells cs 204)).heap.size:=by simp
 clear hst hA
 have rA2:=rA1.alloc (.cells cs 204)
 generalize w1.alloc (.cells cs 204)=w2 at hT hb2 hg2 rA2 ⊢
 generalize w1.heap.size=T at hT hg2 ⊢
 refine ((callsIn_wide (n:=6)).1 (spread_in Fence.wide 6 trivial rfl _ _ _ _)).mono ?_
 rintro e w3 ⟨rfl,rfl⟩
 go_wp2_with fail
 refine (run_any T w2.heap.size (4294967295 - s) A c l _ (rA2.alloc _) hl (by rw[HN.out];exact hlen) (by omega) ((heap_alloc_old _ _ hg2).trans (by rw[ECS.out];exact hT)) (by rw[HN.out];exact (Boxed.new w2 _ _).cell)).mono ?_
 rintro e w4 ⟨rfl,hb4⟩
 have hwl:=wordsC_lt (4294967295 - s) l (by omega)
 have hn2:=not32 _ hwl
 go_wp2_with fail
 go_ret
 refine ⟨ret_int rfl,hb2.trans (((Below.refl _ w2).alloc (by have:=hb2.size;omega) _).trans (hb4.mono (by have:=hb2.size;simp;omega)))⟩
theorem words_sum (A:Option Addr) (c n:Nat) (l:List Nat) (w:World) (hn:l.length=n) (hA:Reads w A (uv l)) (hl:W64 l) (hlen:n≤1000000) :
  Calls Tryz.prog 71 #[.slice A n c] w fun e w'=>e=.returned (.int .u32 ((extendC 0 l:Nat):Int))∧Below w.heap.size w w':=by
 go_enter Tryz.func71,Tryz.ntmps71
 go_wp2_with fail
 refine (extend_any 0 A c n l w hn hA hl hlen (by omega)).mono ?_
 rintro e w' ⟨rfl,hb⟩
 go_wp2_with fail
 go_ret
 exact ⟨rfl,hb⟩
end
section
open Go.RowKit
open Go.RowKit Go.Shelf
attribute [local go_sem] Oper.semAt_some
theorem fields_size (A B:Option Addr) (c d:Nat) (n m:Nat) (w:World) (h:n≠m) :
  Calls Tryz.prog 108 #[.slice A n c,.slice B m d] w fun e w'=>e=.returned (.tuple #[.int .u64 0,.int .i64 3])∧Below w.heap.size w w':=by
 have H1:((n:Int) != (m:Int))=true:=by simp;omega
 go_enter Tryz.func108,Tryz.ntmps108
 go_wp2
 refine bodyPost_ret (v:=.tuple #[.int .u64 0,.int .i64 3]) (by simp[results,Tryz.f108,go_sem]) rfl ⟨rfl,?_⟩
 exact ((((Below.refl _ w).alloc (Nat.le_refl _) _).alloc (by simp) _).alloc (by simp;omega) _)
theorem fields_range (A B:Option Addr) (c d:Nat) (ws:List Int) (w:World) (hA:Reads w A (iv ws)) (hlen:ws.length≤1000000) (hok:okW 0 ws=false) :
  Calls Tryz.prog 108 #[.slice A ws.length c,.slice B ws.length d] w fun e w'=>e=.returned (.tuple #[.int .u64 0,.int .i64 1])∧Below w.heap.size w w':=by
 have Hd:=Hi (fun W hA=>divided_any A c ws W hA hlen)
 rw[hok] at Hd
 clear hok
 go_enter Tryz.func108,Tryz.ntmps108
 go_wp2_with fail
 refine (Hd.out _ (hA.keep ((((Below.refl _ w).alloc (Nat.le_refl _) _).alloc (by simp) _).alloc (by simp;omega) _))).mono ?_
 rintro e w' ⟨rfl,rfl⟩
 go_wp2_with fail
 refine bodyPost_ret (v:=.tuple #[.int .u64 0,.int .i64 1]) (by simp[results,Tryz.f108,go_sem]) rfl ⟨rfl,?_⟩
 exact ((((Below.refl _ w).alloc (Nat.le_refl _) _).alloc (by simp) _).alloc (by simp;omega) _)
def fitsB:List Fld→List Nat→Bool
 | [],_=>true
 |f :: pre,vs=>decide (vs[0]?.getD 0≤f.mask) && fitsB pre vs.tail
theorem fitsB_iff (pre:List Fld) (vs:List Nat):fitsF pre vs↔fitsB pre vs=true:=by
 induction pre generalizing vs with
 |nil=>exact ⟨fun _=>rfl,fun _ k hk=>by simp at hk⟩
 |cons f pre ih=>
  simp only[fitsB,Bool.and_eq_true,decide_eq_true_eq,←ih]
  constructor
  ·intro h
   refine ⟨h 0 (by simp) f rfl,fun k hk g hg=>?_⟩
   have:=h (k+1) (by simpa using hk) g (by simpa using hg)
   simpa using this
  ·rintro ⟨h0,h1⟩ k hk g hg
   cases k with
   |zero=>simp at hg;subst hg;exact h0
   |succ k=>have:=h1 k (by simpa using hk) g (by simpa using hg);simpa using this
def wordR (ws:List Int) (vs:List Nat):Nat:=if ws.length=vs.length∧okW 0 ws=true∧fitsB (upto (fldOf ws) ws.length) vs=true then wordF (upto (fldOf ws) ws.length) vs else 0
def wordE (ws:List Int) (vs:List Nat):Int:=if ws.length≠vs.length then 3 else if okW 0 ws=true∧fitsB (upto (fldOf ws) ws.length) vs=true then 0 else 1
theorem fields_all (A B:Option Addr) (c d n m:Nat) (ws:List Int) (vs:List Nat) (w:World) (hn:ws.length=n) (hm:vs.length=m) (hA:Reads w A (iv ws)) (hB:Reads w B (uv vs)) (hlen:n≤1000000) (hw:W64 vs) :
  Calls Tryz.prog 108 #[.slice A n c,.slice B m d] w fun e w'=>e=.returned (.tuple #[.int .u64 ((wordR ws vs:Nat):Int),.int .i64 (wordE ws vs)])∧Below w.heap.size w w':=by
 subst hn hm
 unfold wordR wordE
 by_cases hl:ws.length=vs.length
 ·by_cases hok:okW 0 ws=true
  ·refine (fields_ok A B c d ws vs w hA hB hl hlen hok hw).mono ?_
   rintro e w' ⟨hb,⟨rfl,hf⟩| ⟨rfl,hf⟩⟩
   ·rw[fitsB_iff] at hf
    rw[if_pos ⟨hl,hok,hf⟩,if_neg (fun h=>h hl),if_pos ⟨hok,hf⟩]
    exact ⟨rfl,hb⟩
   ·rw[fitsB_iff] at hf
    rw[if_neg (fun h=>hf h.2.2),if_neg (fun h=>h hl),if_neg (fun h=>hf h.2)]
    exact ⟨rfl,hb⟩
  ·rw[if_neg (fun h=>hok h.2.1),if_neg (fun h=>h hl),if_neg (fun h=>hok h.1),←hl]
   exact fields_range A B c d ws w hA hlen (by simpa using hok)
 ·rw[if_neg (fun h=>hl h.1),if_pos hl]
  exact fields_size A B c d _ _ w hl
def splitF (pre:List Fld) (x:Nat):List Nat:=pre.map fun f=>(x >>> f.at_) &&& f.mask
theorem splitF_snoc (pre:List Fld) (f:Fld) (x:Nat):splitF (pre++ [f]) x=splitF pre x++ [(x >>> f.at_) &&& f.mask]:=by simp[splitF]
theorem Boxed.appended2 {W w1:World} {nR n₀ B:Nat} {t e:TypeId} {size:Nat} {v v':Value} {k m:Nat} {xs ys:List Value} {tmp:Obj}
  (hv:Boxed W B t v) (hte:t≠e) (hrow:W.ownsRow nR e size v k xs) (hnR:nR≤W.heap.size) (hn:n₀≤B) (hBR:B<nR)
  (hown':w1.ownsRow nR e size v' m ys) (hgrow:(W.alloc tmp).grownBy w1 v.ownBlock) :
  Boxed w1 B t v∧Boxed (w1.setCell ⟨B,0,none⟩ v') B t v'∧(w1.setCell ⟨B,0,none⟩ v').ownsRow nR e size v' m ys∧KeepsOthers W (w1.setCell ⟨B,0,none⟩ v')∧Below n₀ W (w1.setCell ⟨B,0,none⟩ v')∧
   ∀b,b<nR→b≠B→(w1.setCell ⟨B,0,none⟩ v').heap[b]? =W.heap[b]?:=by
 have hv1:Boxed w1 B t v:=(hv.alloc tmp).kept hgrow (hv.not_row hte hrow)
 have hBl:Below nR W w1:=by
  refine ((Below.refl nR W).alloc hnR tmp).grown hgrow (by simp;omega) fun j ej=>?_
  rcases hrow.2 with ⟨rfl,_⟩| ⟨g,cap,cur,rfl,hb,_,_⟩
  ·simp[Value.ownBlock] at ej
  ·obtain rfl:g=j:=by simpa[Value.ownBlock] using ej
   exact hb
 refine ⟨hv1,hv1.set v',hown'.kept (grownBy_setCell' w1 B v') (.inr (hv1.not_row hte hown').symm),?_,?_,?_⟩
 ·refine ((KeepsOthers.alloc W tmp).trans (KeepsOthers.of_grownBy hgrow fun j o ej hj=>?_)).trans (KeepsOthers.setCell _ _ _)
  rcases (hrow.alloc tmp).2 with ⟨rfl,_⟩| ⟨g,cap,cur,rfl,_,hgb,_⟩
  ·simp[Value.ownBlock] at ej
  ·obtain rfl:g=j:=by simpa[Value.ownBlock] using ej
   rw[hgb] at hj;cases hj;rfl
 ·exact (hBl.mono (by omega)).setCell (p:=⟨B,0,none⟩) hn v'
 ·intro b hb hne
  exact (Below.heap_setCell _ _ _ _ hne).trans (hBl.block b hb)
theorem split_ok (x:Nat) (A:Option Addr) (c:Nat) (ws:List Int) (w:World) (hA:Reads w A (iv ws)) (hlen:ws.length≤1000000) (hok:okW 0 ws=true) (hx:x<18446744073709551616) :
  Calls Tryz.prog 63 #[.int .u64 x,.slice A ws.length c] w fun e w'=>∃v,e=.returned (.tuple #[v,.int .i64 0])∧w'.ownsRow w.heap.size 39 1 v ws.length (uv (splitF (upto (fldOf ws) ws.length) x))∧Below w.heap.size w w':=by
 refine (callsIn_wide (n:=6)).1 ?_
 obtain ⟨i0,hi0,hz0,hz1,hz2⟩:=info_parts u64_info
 obtain ⟨m,hm⟩ :∃m,ws.length=m:=⟨_,rfl⟩
 have Hd:=Hi (fun W hA=>divided_any A c ws W hA hlen)
 have hci:∀i,i<m→∃b off,A=some ⟨b,off,none⟩∧b<w.heap.size∧w.cell? ⟨b,off+i,none⟩=some (.int .i64 (ws[i]?.getD 0)):=by
  intro i hi
  obtain ⟨b,off,e,hb,hc⟩:=hA.i (by omega)
  exact ⟨b,off,e,hb,hc i (by omega)⟩
 rw[hm]
 rw[hm,hok] at Hd
 rw[hm] at hlen
 have HM:=Hi hm
 have HI:=Hi hci
 have HOK:=Hi hok
 have HA:=Hi hA
 clear hm hci hok hA
 refine callsIn_of_wp_marks Tryz.func63 rfl trivial ?_ rfl
 simp only[Tryz.ntmps63,List.size_toArray,List.length_cons,List.length_nil,Nat.reduceAdd,Nat.reduceSub,Array.replicate_succ,Array.replicate_zero,List.push_toArray,List.append_toArray,List.nil_append,List.cons_append]
 gi_wp2_with fail
 refine ⟨trivial,?_⟩
 refine (callsIn_wide.2 (Hd.out _ (HA.out.keep ((Below.refl _ w).alloc (Nat.le_refl _) _)))).mono ?_
 rintro e w' ⟨rfl,rfl⟩
 gi_wp2_with fail
 refine ⟨trivial,?_⟩
 refine (fields_in Fence.wide 5 trivial rfl _ _ _ _).mono ?_
 rintro e w' ⟨rfl,rfl⟩
 gi_wp2_with fail
 have b0:=((Boxed.new w 39 (.int .u64 (x:Int))).alloc (.cells #[.slice none 0 0] 27)).alloc (.cells #[.slice A m c] 22)
 have b1:=(Boxed.new (w.alloc (.cells #[.int .u64 (x:Int)] 39)) 27 (.slice none 0 0)).alloc (.cells #[.slice A m c] 22)
 have b2:=Boxed.new ((w.alloc (.cells #[.int .u64 (x:Int)] 39)).alloc (.cells #[.slice none 0 0] 27)) 22 (.slice A m c)
 have hb:Below w.heap.size w (((w.alloc (.cells #[.int .u64 (x:Int)] 39)).alloc (.cells #[.slice none 0 0] 27)).alloc (.cells #[.slice A m c] 22)):=
  ((((Below.refl _ w).alloc (Nat.le_refl _) _).alloc (by simp) _).alloc (by simp;omega) _)
 simp only[World.size_alloc] at b0 b1 b2
 obtain ⟨W0,hW0⟩ :∃W0,(((w.alloc (.cells #[.int .u64 (x:Int)] 39)).alloc (.cells #[.slice none 0 0] 27)).alloc (.cells #[.slice A m c] 22))=W0:=⟨_,rfl⟩
 have hsz:W0.heap.size=w.heap.size+1+1+1:=by rw[←hW0];simp
 rw[hW0] at b0 b1 b2 hb ⊢
 clear hW0
 refine wpIn_rangeFunc_ownG rfl (by omega) (gf:=135) (lb:=#[.pointer (some ⟨w.heap.size+1+1,0,none⟩)]) rfl trivial (enters_of Tryz.func135 (by kernel_rfl) rfl)
  (fields_stops Fence.wide 5 trivial rfl (by omega) (w.heap.size+1+1) w.heap.size A c ws HOK.out (by rw[HM.out];exact hlen) W0 (by omega) (by omega) (by rw[HM.out];exact b2.cell)
   (fun i hi=>by
    obtain ⟨b,off,e,hlt,h⟩:=HI.out i (by rw[←HM.out];exact hi)
    exact ⟨b,off,e,hlt,(hb.cell (p:=⟨b,off+i,none⟩) hlt).trans h⟩))
  KeepB.trans (KeepB.putObj (by omega) (by omega)) (Below.refl _ _) (fun _=>rfl)
  (fun pre W=>((∃v,Boxed W (w.heap.size+1) 27 v∧W.ownsRow W0.heap.size 39 1 v pre.length (uv (splitF pre x))∧True)∧Boxed W w.heap.size 39 (.int .u64 (x:Int)))∧Below w.heap.size w W∧W0.heap.size≤W.heap.size)
  (fun _ _ _=>False)
  (OwnFrom.and (OwnFrom.and (Own.from (holdsRow_own W0.heap.size (w.heap.size+1) 27 39 1 (fun pre:List Fld=>pre.length) (fun pre=>uv (splitF pre x)) (fun _ _=>True)) _) (Own.from (boxed_own w.heap.size 39 (fun _=>.int .u64 (x:Int))) _)) (OwnFrom.and (ownFrom_below (Nat.le_refl _) (by omega)) (fun s A B row hs hg hr=>Nat.le_trans hs hg.size)))
  (fun c s A B row hs hg hr=>hs)
  ⟨⟨⟨_,b1,World.ownsRow_nil _ _ _ _,trivial⟩,b0⟩,hb,Nat.le_refl _⟩
  (fun f=>{ tmps:=#[.int .u64 (x:Int),.slice A m c,.pointer (some ⟨w.heap.size,0,none⟩),undef,.slice none 0 0,.int .i64 0,.pointer (some ⟨w.heap.size+1,0,none⟩),.int .i64 (f.at_:Int),.int .u64 (f.mask:Int),
   .slice A m c,.bool true,.bool false,.slice A m c,.func (.func 135) #[] #[.pointer (some ⟨w.heap.size+1+1,0,none⟩)],.int .i64 (f.at_:Int),.int .u64 (f.mask:Int),
   undef,undef,undef,undef,undef,undef,undef,undef,undef],defers:=[] }) ?assign ?body ?done ?stop
 case assign=>
  intro l f W K hK
  gi_wp2
  exact hK
 case body=>
  rintro l pre f W ⟨⟨⟨v,c1,hrow,_⟩,c0⟩,hB,hszW⟩ hlt
  have hmix:Tryz.prog.follows .mixedOrders=true:=by kernel_rfl
  have hat:=f.hat
  have hmask:=f.hmask
  have hlt':pre.length<m:=by rw[←HM.out];exact hlt
  obtain ⟨a1,n1,hv⟩:=own_form hrow
  subst hv
  gi_wp2
  refine wpIn_region_mix 6 7 hmix (by kernel_rfl) (by rintro ⟨_,_,h⟩;exact h) (by kernel_rfl) (fun W'=>W'.cell? ⟨w.heap.size+1,0,none⟩=some (.slice a1 pre.length n1)∧W'.cell? ⟨w.heap.size,0,none⟩=some (.int .u64 (x:Int))) ⟨c1.cell,c0.cell⟩ ?_
  simp only[List.take_succ_cons,List.take_zero,List.drop_succ_cons,List.drop_zero]
  refine ⟨?_,Or.inl ⟨by rfl,fun W' hS'=>?_⟩,fun _ _ _ h=>h,?_⟩
  rotate_left
  ·obtain ⟨hs1,hs2⟩:=hS'
   go_simp
   with_reducible rfl
  simp only[Act.put,List.setIfInBounds_toArray,List.set_cons_zero,List.set_cons_succ]
  refine ⟨?_,Or.inl ⟨by rfl,fun W' hS'=>?_⟩,fun _ _ _ h=>h,?_⟩
  rotate_left
  ·obtain ⟨hs1,hs2⟩:=hS'
   go_simp
   with_reducible rfl
  simp only[Act.put,List.setIfInBounds_toArray,List.set_cons_zero,List.set_cons_succ]
  refine ⟨?_,Or.inl ⟨by rfl,fun W' hS'=>?_⟩,fun _ _ _ h=>h,?_⟩
  rotate_left
  ·obtain ⟨hs1,hs2⟩:=hS'
   go_simp
   with_reducible rfl
  simp only[Act.put,List.setIfInBounds_toArray,List.set_cons_zero,List.set_cons_succ]
  refine ⟨?_,Or.inl ⟨by rfl,fun W' hS'=>?_⟩,fun _ _ _ h=>h,?_⟩
  rotate_left
  ·obtain ⟨hs1,hs2⟩:=hS'
   go_simp
   with_reducible rfl
  simp only[Act.put,List.setIfInBounds_toArray,List.set_cons_zero,List.set_cons_succ]
  refine ⟨?_,Or.inl ⟨by rfl,fun W' hS'=>?_⟩,fun _ _ _ h=>h,?_⟩
  rotate_left
  ·obtain ⟨hs1,hs2⟩:=hS'
   go_simp
   with_reducible rfl
  simp only[Act.put,List.setIfInBounds_toArray,List.set_cons_zero,List.set_cons_succ]
  refine ⟨?_,Or.inl ⟨by rfl,fun W' hS'=>?_⟩,fun _ _ _ h=>h,?_⟩
  rotate_left
  ·obtain ⟨hs1,hs2⟩:=hS'
   go_simp
   with_reducible rfl
  simp only[Act.put,List.setIfInBounds_toArray,List.set_cons_zero,List.set_cons_succ]
  show wpSeqT _ _ _ _ _ _ _ _ _
  refine wpSeqT_step (fun K hK=>?_)
  go_simp
  refine hK _ _ (fun _=>⟨(c1.alloc _).cell,(c0.alloc _).cell⟩) ?_
  clear hK K
  refine wpSeqT_list _ _ _ _ (by omega) ?_
  refine wpList_append_reads _ (by rfl) _ _ _ (by rfl) W0.heap.size 39 i0 _ 1 8 Tryz.underlying27 hi0 hz0 hz1 hz2 (by rfl) (by omega) (.slice a1 pre.length n1) pre.length (uv (splitF pre x)) (by rfl) (World.ownsRow.drew (hrow.alloc _)) (some ⟨W.heap.size,0,none⟩) 1 1 [.int .u64 (bits BinOp.and IntKind.u64 ((x:Int) / 2 ^ f.at_) (f.mask:Int))] (by rfl) (by rfl) (Reads.new _ _ _) (by simp[Value.oneCell']) (by simp only[maxLen];omega) (by omega) (by simp;omega) ?_
  intro v1 w1 hown1 hg1 hat1
  obtain ⟨g1,cap1,rfl⟩:=ownsRow_succ hown1
  obtain ⟨e1,e2,e3,e4,e5,e6⟩:=Boxed.appended2 (W:=W.drew) (nR:=W0.heap.size) (n₀:=w.heap.size) c1 (by decide) hrow hszW (by omega) (by omega) hown1 hg1
  have e1c:=e1.cell
  have e1f:=e1.frozen
  replace e5:=(Below.refl w.heap.size W).drew.trans e5
  have hval:bits BinOp.and IntKind.u64 ((x:Int) / 2 ^ f.at_) (f.mask:Int)=(((x >>> f.at_) &&& f.mask:Nat):Int):=by
   rw[cast_shr,u64_and_nat _ _ (Nat.lt_of_le_of_lt (Nat.shiftRight_le _ _) hx) hmask]
  have hrow2:(w1.setCell ⟨w.heap.size+1,0,none⟩ (.slice (some ⟨g1,0,none⟩) (pre.length+1) cap1)).ownsRow W0.heap.size 39 1 (.slice (some ⟨g1,0,none⟩) (pre.length+1) cap1) (pre++ [f]).length (uv (splitF (pre++ [f]) x)):=by
   rw[splitF_snoc]
   rw[List.length_append,uv_append]
   rw[hval] at e3
   exact e3
  have hk1:KeepB w.heap.size (w.heap.size+1+1) W (w1.setCell ⟨w.heap.size+1,0,none⟩ (.slice (some ⟨g1,0,none⟩) (pre.length+1) cap1)):=⟨e5,e6 _ (by omega) (by omega)⟩
  have c0':Boxed (w1.setCell ⟨w.heap.size+1,0,none⟩ (.slice (some ⟨g1,0,none⟩) (pre.length+1) cap1)) w.heap.size 39 (.int .u64 (x:Int)):=(e6 _ (by omega) (by omega)).trans c0
  have hB1:=hB.trans (show Below w.heap.size W _ from e5)
  have hsz1:=Nat.le_trans hszW (show W.heap.size≤_ from e4.size)
  have hko:=(KeepsOthers.drew W).trans e4
  clear hval e3 e4 e5 e6 c0 c1 hrow hown1 hg1 hat1
  go_wp2
  exact ⟨hko.from _,hk1,⟨⟨_,e2,hrow2,trivial⟩,c0'⟩,hB1,hsz1⟩
 case done=>
  rintro D ys W hD rfl ⟨⟨⟨v,c1,hrow,_⟩,c0⟩,hB,hszW⟩ hK
  have d1:=c1.cell
  obtain ⟨a1,n1,hv⟩:=own_form hrow
  subst hv
  gi_wp2
  refine ⟨by simp,.inl ⟨_,_,rfl,run_takeDeferred hK,?_⟩⟩
  refine ⟨.tuple #[.slice a1 (upto (fldOf ws) ws.length).length n1,.int .i64 0],by simp[results,Tryz.f63,go_sem],_,rfl,?_,hB.trans (belowK_b (w:=w) (Nat.le_refl _) W D _ _ (by omega) hK rfl rfl)⟩
  have h2:=ownsRow_putObj hrow (.deferred none) hK rfl
  rw[upto_length] at h2
  rw[←HM.out]
  rw[upto_length]
  exact ⟨h2.1,h2.2.imp id fun ⟨g,cap,cur,q1,q2,q3⟩=>⟨g,cap,cur,q1,by omega,q3⟩⟩
 case stop=>
  rintro D c pre W _ _ h _
  exact h.elim
def splitR (ws:List Int) (x:Nat):List Nat:=if okW 0 ws=true then splitF (upto (fldOf ws) ws.length) x else []
end
section
open Go.RowKit
def headW:List Int:=[4,4,4,20,16,16]
theorem widths_any (w:World) :
  Calls Tryz.prog 109 #[] w fun e w'=>e=.returned (.slice (some ⟨w.heap.size,0,none⟩) 6 6)∧Reads w' (some ⟨w.heap.size,0,none⟩) (iv headW)∧Below w.heap.size w w':=by
 go_enter Tryz.func109,Tryz.ntmps109
 go_wp2_with fail
 go_ret
 exact ⟨rfl,Reads.new w #[.int .i64 4,.int .i64 4,.int .i64 4,.int .i64 20,.int .i64 16,.int .i64 16] _,(Below.refl _ w).alloc (Nat.le_refl _) _⟩
def clearS (x:Nat):Nat:=x &&& (18446744073709551615 - 281470681743360)
def sumN (l:List Nat):Nat:=shortC (extendC 0 (l.set 0 (clearS (l[0]?.getD 0))))
theorem sumN_lt (l:List Nat):sumN l<65536:=shortC_lt _
theorem clearS_lt (x:Nat) (h:x<18446744073709551616):clearS x<18446744073709551616:=and_lt _ h
theorem clearS_bits (x:Nat) (h:x<18446744073709551616):bits .andNot .u64 (x:Int) 281470681743360=((clearS x:Nat):Int):=u64_andNot_nat x 281470681743360 h (by omega)
theorem sum_any (A:Option Addr) (c n:Nat) (l:List Nat) (w:World) (hn:l.length=n) (hA:Reads w A (uv l)) (hl:W64 l) (h1:1≤n) (hlen:n≤1000000) :
  Calls Tryz.prog 110 #[.slice A n c] w fun e w'=>e=.returned (.int .u64 ((sumN l:Nat):Int))∧Below w.heap.size w w':=by
 have hcl:=clone_any A c l w hA (by omega)
 rw[hn] at hcl
 have HN:=Hi hn
 have HC:=Hi hcl
 have hx:=hl.at 0
 obtain ⟨x,ex⟩ :∃x,l[0]?.getD 0=x:=⟨_,rfl⟩
 rw[ex] at hx
 have EX:=Hi ex
 have hcx:=clearS_bits x hx
 have hlw:W64 (l.set 0 (clearS x)):=hl.set 0 _ (clearS_lt x hx)
 clear hcl hn hA
 go_enter Tryz.func110,Tryz.ntmps110
 go_wp2_with fail
 refine HC.out.mono ?_
 rintro e w1 ⟨v,rfl,hown,hb⟩
 obtain ⟨g,cap,rfl,hg,hlt⟩:=hown.form (by omega)
 have hc:=hown.cellAt 0 (by omega)
 rw[uv_at _ _ (by rw[HN.out];omega),ex] at hc
 have hf:=hown.frozenAt 0
 have h2:=(hown.stored 0 (.int .u64 ((clearS x:Nat):Int))).1
 have hb2:=hb.setCell (p:=⟨g,0,none⟩) hg (.int .u64 ((clearS x:Nat):Int))
 rw[uv_set] at h2
 have H2:=Hi (Reads.of_own h2)
 clear ex h2 hown
 go_wp2_with fail
 generalize hw2:(w1.setCell _ _)=w2 at hb2 H2 ⊢
 clear hc hf hw2
 refine (words_sum (some ⟨g,0,none⟩) cap n _ w2 (by rw[List.length_set];exact HN.out) H2.out hlw hlen).mono ?_
 rintro e w3 ⟨rfl,hb3⟩
 go_wp2_with fail
 refine (short_any _ _ (extendC_lt _ _)).mono ?_
 rintro e w4 ⟨rfl,rfl⟩
 go_wp2_with fail
 go_ret
 refine ⟨ret_int ?_,hb2.trans (hb3.mono hb2.size)⟩
 unfold sumN
 rw[EX.out,wrap_nat,Nat.mod_eq_of_lt (Nat.lt_of_lt_of_le (shortC_lt _) (by omega))]
theorem refSum_any (A:Option Addr) (c n:Nat) (l:List Nat) (w:World) (hn:l.length=n) (hA:Reads w A (uv l)) (hl:W64 l) (h1:1≤n) (hlen:n≤1000000) :
  Calls Tryz.prog 99 #[.slice A n c] w fun e w'=>e=.returned (.int .u64 ((sumN l:Nat):Int))∧Below w.heap.size w w':=by
 obtain ⟨i0,hi0,hz0,hz1,hz2⟩:=info_parts u64_info
 have HN:=Hi hn
 have hx:=hl.at 0
 obtain ⟨x,ex⟩ :∃x,l[0]?.getD 0=x:=⟨_,rfl⟩
 rw[ex] at hx
 have EX:=Hi ex
 have hcx:=clearS_bits x hx
 have hlw:W64 (l.set 0 (clearS x)):=hl.set 0 _ (clearS_lt x hx)
 clear hn ex
 go_enter Tryz.func99,Tryz.ntmps99
 go_wp2_with (at_builtin;refine wpList_append_reads _ (by rfl) _ _ _ (by rfl) w.heap.size 39 i0 _ 1 8 Tryz.underlying27 hi0 hz0 hz1 hz2 (by rfl) (by omega) (.slice none 0 0) 0 [] (by rfl) (World.ownsRow_nil _ _ _ _) A n c (uv l) (by rfl) (by rw[uv_length,HN.out,Nat.mul_one]) hA (uv_one l) (by simp only[maxLen];omega) (by omega) (by simp) ?_;intro v1 w1 hown hg1 hat1;have hb:Below w.heap.size w w1:=(Below.refl _ w).grown hg1 (by simp) (by intro k hk;simp[Value.ownBlock] at hk);simp only[Nat.zero_add,List.nil_append] at hown;obtain ⟨g,cap,rfl,hg,hlt⟩:=hown.form (by omega);have hc:=hown.cellAt 0 (by omega);rw[uv_at _ _ (by rw[HN.out];omega),EX.out] at hc;have hf:=hown.frozenAt 0;have h2:=(hown.stored 0 (.int .u64 ((clearS x:Nat):Int))).1;have hb2:=hb.setCell (p:=⟨g,0,none⟩) hg (.int .u64 ((clearS x:Nat):Int));rw[uv_set] at h2;have H2:=Hi (Reads.of_own h2);clear h2 hown hat1 hg1)
 generalize hw2:(w1.setCell _ _)=w2 at hb2 H2 ⊢
 clear hc hf hw2
 refine (refWords_sum (some ⟨g,0,none⟩) cap n _ w2 (by rw[List.length_set];exact HN.out) H2.out hlw hlen).mono ?_
 rintro e w3 ⟨rfl,rfl⟩
 go_wp2_with fail
 refine (refShort_any _ _ (extendC_lt _ _)).mono ?_
 rintro e w4 ⟨rfl,rfl⟩
 go_wp2_with fail
 go_ret
 refine ⟨ret_int ?_,hb2⟩
 unfold sumN
 rw[EX.out,wrap_nat,Nat.mod_eq_of_lt (Nat.lt_of_lt_of_le (shortC_lt _) (by omega))]
end
end Go.Proofs.YtplhdjdkobddnaaGreat
