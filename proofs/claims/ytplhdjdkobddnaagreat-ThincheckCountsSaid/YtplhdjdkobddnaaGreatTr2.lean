/- C2 Iter Round C3 Mix -/
import Derived.Test.YtplhdjdkobddnaaGreatTr1
import Derived.RangeFuncNested
import Derived.RangeFuncBound
import Derived.RangeFuncCalls
import Derived.RangeFuncLeaves
import Derived.RangeFuncBox
import Derived.Shelf.Abstract
import Derived.Shelf.RegionOpen
import Derived.OwnWalkIn
import Derived.TacticsInMore
import Derived.LoopNIn
import Derived.LoopIn
import Derived.OrdersIn
import Derived.OrdersHeld
import Derived.StillTail
set_option linter.unusedVariables false
set_option maxRecDepth 100000
set_option maxHeartbeats 40000000
namespace Go.Proofs.YtplhdjdkobddnaaGreat
section
open Go.RowKit
theorem divided_any (A:Option Addr) (c:Nat) (ws:List Int) (w:World) (hA:Reads w A (iv ws)) (hl:ws.length≤1000000) :
  Calls Tryz.prog 105 #[.slice A ws.length c] w fun e w'=>e=.returned (.bool (okW 0 ws))∧w=w':=by
 obtain ⟨n,hn⟩ :∃n,ws.length=n:=⟨_,rfl⟩
 have hcx:∀i,i<n→∃b off,A=some ⟨b,off,none⟩∧w.cell? ⟨b,off+i,none⟩=some (.int .i64 (ws[i]?.getD 0)):=by
  intro i hi
  obtain ⟨b,off,e,_,hc⟩:=hA.i (by omega)
  exact ⟨b,off,e,hc i (by omega)⟩
 have HX:=Hi hcx
 rw[hn] at hl ⊢
 have HN:=Hi hn
 clear hcx hA hn
 go_enter Tryz.func105,Tryz.ntmps105
 go_wp2
 go_loop [3,8] (fun s i=>∃(k:Nat) (t:Int),k≤n∧i=.int .i64 k∧s=.int .i64 t∧0≤t∧t≤64∧Hid (okW 0 ws=okW t (ws.drop k))) (fun _ i=>n - (intOf i).toNat)
 case atStart=>exact ⟨0,0,Nat.zero_le _,rfl,rfl,by omega,by omega,rfl⟩
 case round=>
  obtain ⟨k,t,hk,rfl,rfl,ht0,ht1,hs⟩:=hrel
  by_cases hlt:k<n
  ·obtain ⟨b,off,rfl,hc1⟩:=HX.out k hlt
   obtain ⟨x,ex⟩ :∃x,ws[k]?.getD 0=x:=⟨_,rfl⟩
   have H2:=Hi (okW_drop t ws k (by rw[HN.out];exact hlt) x ex)
   rw[ex] at hc1
   clear ex
   by_cases h1:x<1
   ·go_wp2
    go_ret
    exact ⟨ret_bool (by rw[hs.out,H2.out];simp;intros;omega),rfl⟩
   ·by_cases h2:64<x
    ·go_wp2
     go_ret
     exact ⟨ret_bool (by rw[hs.out,H2.out];simp;intros;omega),rfl⟩
    ·by_cases h3:64<t+x
     ·go_wp2
      go_ret
      exact ⟨ret_bool (by rw[hs.out,H2.out];simp;intros;omega),rfl⟩
     ·have H3:Hid (okW 0 ws=okW (t+x) (ws.drop (k+1))):=by
       show _=_
       rw[hs.out,H2.out]
       simp
       intros;omega
      go_wp2
      go_round
      case rel=>exact ⟨k+1,t+x,by omega,by go_num,rfl,by omega,by omega,H3⟩
      case measure=>simp[intOf];omega
  ·go_wp2
   go_ret
   refine ⟨ret_bool ?_,rfl⟩
   rw[hs.out,List.drop_of_length_le (by rw[HN.out];omega)]
   rfl
end
section
open Go.RowKit
def upto {α:Type} (f:Nat→α) (k:Nat):List α:=(List.range k).map f
theorem upto_succ {α:Type} (f:Nat→α) (k:Nat):upto f (k+1)=upto f k++ [f k]:=by simp[upto,List.range_succ]
theorem upto_length {α:Type} (f:Nat→α) (k:Nat):(upto f k).length=k:=by simp[upto]
structure KeepB (n₀ Bs:Nat) (W W':World):Prop where
 below:Below n₀ W W'
 box:W'.heap[Bs]? =W.heap[Bs]?
theorem KeepB.refl (n₀ Bs:Nat) (W:World):KeepB n₀ Bs W W:=⟨Below.refl _ _,rfl⟩
theorem KeepB.trans {n₀ Bs:Nat} {A B C:World} (h:KeepB n₀ Bs A B) (k:KeepB n₀ Bs B C):KeepB n₀ Bs A C:=⟨h.below.trans k.below,k.box.trans h.box⟩
theorem KeepB.cell {n₀ Bs:Nat} {A B:World} (h:KeepB n₀ Bs A B) (i:Nat):B.cell? ⟨Bs,i,none⟩=A.cell? ⟨Bs,i,none⟩:=World.cell?_of_block h.box
theorem KeepB.putObj {n₀ Bs:Nat} {W0:World} (hn:n₀≤W0.heap.size) (hB:Bs<W0.heap.size):∀(W:World) (l:Nat) (o o':Obj),W0.heap.size≤l→W.heap[l]? =some o→o.isCells=false→o.isWalk=false→KeepB n₀ Bs W (W.putObj l o'):=
 fun W l o o' hl h1 h2 h3=>⟨belowK_b (w:=W0) hn W l o o' hl h1 h2 h3,World.putObj_heap_other (by omega)⟩
theorem KeepB.setCell {n₀ Bs:Nat} {A W:World} (h:KeepB n₀ Bs A W) {b i:Nat} (hn:n₀≤b) (hB:b≠Bs) (u:Value):KeepB n₀ Bs A (W.setCell ⟨b,i,none⟩ u):=
 ⟨h.below.setCell (p:=⟨b,i,none⟩) hn u,(Below.heap_setCell _ _ _ _ (fun e=>hB e.symm)).trans h.box⟩
theorem KeepB.drew {n₀ Bs:Nat} {A W:World} (h:KeepB n₀ Bs A W):KeepB n₀ Bs A W.drew:=⟨h.below.drew,h.box⟩
theorem KeepB.of_below {n₀ Bs B:Nat} {A W:World} (h:Below B A W) (h1:n₀≤B) (h2:Bs<B):KeepB n₀ Bs A W:=⟨h.mono h1,h.block Bs h2⟩
end
section
open Go
def noDefer (ops:Array Oper):Bool:=ops.all fun o=>match o.op with| .defer _=>false|_=>true
theorem noDefer_at {ops:Array Oper} (h:noDefer ops=true) {i:Nat} {o:Oper} (ho:ops[i]? =some o):∀c,o.op≠.defer c:=by
 intro c hc
 obtain ⟨hlt,hx⟩:=Array.getElem?_eq_some_iff.1 ho
 have:=(Array.all_eq_true.1 h) i hlt
 rw[hx,hc] at this
 cases this
theorem rows_wide {l n:Nat} {P:Program} {row:String} {args:Array Value} {w:World} {R:Value→World→Prop} (h:Rows P row args w R):RowsIn (Fence.wide.inRound l) n P row args w R:=by
 intro c cs _
 obtain ⟨v,w',r,s⟩:=h c cs
 exact ⟨v,w',r,stepsIn_wide.2 s⟩
theorem oper_inRound {P:Program} {l n:Nat} {o:Oper} {a:Act} {w:World} {K:Act→World→Prop} {Q:Exit→Act→World→Prop} (hd:∀c,o.op≠.defer c) (h:o.wp P a w K Q) :
  o.wpIn (Fence.wide.inRound l) n P a w K Q:=by
 refine ⟨fun _ _=>trivial,?_⟩
 have e:(o.semAt (Fence.wide.inRound l).round a.eval)=execOp a.eval o:=Oper.semAt_some l _ o hd
 rw[e]
 unfold Oper.wp at h
 generalize (execOp a.eval o).run P w=r at h ⊢
 cases r with
 |ok x w'=>
  cases x with
  |enter f args=>exact ⟨(fun hh=>by cases hh),CallsIn.inRound l (callsIn_wide.2 h)⟩
  |row row args=>exact ⟨(fun hh=>by cases hh),rows_wide h⟩
  |round l1 f tmps assign body=>exact h.elim
  |_=>exact h
 |halt x w'=>cases x <;> exact h
theorem wpAny_inRound {P:Program} {l n:Nat} {md:Region.Mode} {ops:Array Oper} {Q:Exit→Act→World→Prop} (hd:noDefer ops=true) (hQ:¬LetsOut Q) :
  ∀(fuel:Nat) (listed:Array Bool) (a:Act) (w:World),wpAny P md ops Q fuel listed a w→wpAnyIn (Fence.wide.inRound l) n P md ops Q fuel listed a w
 |0,_,_,_,h=>h
 |fuel+1,listed,a,w,h=>by
  refine ⟨h.1,fun i hi=>?_⟩
  have h1:=h.2 i hi
  unfold wpOp at h1
  unfold wpOpIn
  cases ho:ops[i]? with
  |none=>rw[ho] at h1;exact wpAny_inRound hd hQ fuel _ a w h1
  |some o=>
   rw[ho] at h1
   simp only at h1 ⊢
   split
   ·rename_i hw
    rw[if_pos hw] at h1
    exact oper_inRound (noDefer_at hd ho) (Oper.wp_mono (fun a w=>wpAny_inRound hd hQ fuel _ a w) (h1.resolve_right (fun hh=>hQ hh.2)))
   ·rename_i hw
    rw[if_neg hw] at h1
    exact ⟨fun _ _=>trivial,wpAny_inRound hd hQ fuel _ _ w h1⟩
theorem wpAny_still_tail {P:Program} {Q:Exit→Act→World→Prop} {a:Act} {w:World} {l:List Oper} (n:Nat) (hB:Region.lexTailB .any l.toArray n=true)
  (h:wpStill P l.toArray w (fun a'=>wpList P l.toArray Q (l.drop n) a' w) (l.take n) a):wpAny P .any l.toArray Q l.toArray.size (Array.replicate l.toArray.size false) a w:=by
 simp only[Region.lexTailB,Bool.and_eq_true,decide_eq_true_eq] at hB
 obtain ⟨⟨⟨⟨hsel,hn⟩,hs⟩,hc⟩,hlex⟩:=hB
 have hn':n<l.length:=by simpa using hn
 have htl:(l.take n).length=n:=by simp;omega
 have hdl:(l.drop n).length=l.toArray.size - n:=by simp
 have inv0:HeadInv .any l.toArray n (Array.replicate l.toArray.size false):=
  ⟨by simp,fun j oj _ hl=>(by rw[getD_replicate_false] at hl;cases hl),fun t _ ht=>getD_in (by simpa using ht) (getD_replicate_false _ _)⟩
 have H:=wpAnyL_lex (md:=.any) (g:=l.toArray.size - n) hsel hs hc hn (l.take n) 0 _ a (fun j hj=>by
  have hj':j<n:=by rw[htl] at hj;exact hj
  simp[hj']) (by simpa using htl) inv0 (by rw[htl];exact hlex) h
 have:=wpAny_of_head (Q':=Q) (g:=l.toArray.size - n) (fun listed a' hL=>by
  have:=wpAny_of_seq (md:=.any) (Q':=Q) (l.drop n) n listed a' w (fun j=>by simp[List.getElem?_drop]) (by rw[hdl];exact hL.1) hL.2
  rwa[hdl] at this) _ _ _ H
 rw[htl,show n+(l.toArray.size - n)=l.toArray.size by omega] at this
 exact this
theorem wpIn_region_still_tail {P:Program} {l0 m id:Nat} {Q:Exit→Act→World→Prop} {a:Act} {w:World} {l:List Oper} (n:Nat) (hm:P.follows .mixedOrders=true) (hd:noDefer l.toArray=true) (hQ:¬LetsOut Q) (hB:Region.lexTailB .any l.toArray n=true)
  (h:wpStill P l.toArray w.drew (fun a'=>wpList P l.toArray Q (l.drop n) a' w.drew) (l.take n) a):(Code.region id l.toArray true).wpIn (Fence.wide.inRound l0) m P Q a w:=
 wpIn_region_any hm (wpAny_inRound hd hQ _ _ _ _ (wpAny_still_tail n hB h))
end
section
open Go.RowKit Go.Shelf
attribute [local go_sem] Oper.semAt_some
structure Fld where
 at_:Nat
 mask:Nat
 hat:at_≤64
 hmask:mask<18446744073709551616
abbrev encF (x:Fld):Array Value:=#[.int .i64 (x.at_:Int),.int .u64 (x.mask:Int)]
theorem mask_lt (x:Int) (h:x≤64):maskOf x<18446744073709551616:=by
 unfold maskOf
 have:2 ^ x.toNat≤2 ^ 64:=Nat.pow_le_pow_right (by omega) (by omega)
 have:0<2 ^ x.toNat:=Nat.pow_pos (by omega)
 omega
theorem mask_nat:∀k:Fin 65,18446744073709551615 / 2 ^ (64 - k.val)=2 ^ k.val - 1:=by decide
theorem mask_int (x:Int) (h1:1≤x) (h2:x≤64):((maskOf x:Nat):Int)=18446744073709551615 / 2 ^ (64 - x).toNat:=by
 have h:=mask_nat ⟨x.toNat,by omega⟩
 have e:(64 - x).toNat=64 - x.toNat:=by omega
 rw[e,cast_two_pow]
 unfold maskOf
 rw[←h]
 rfl
def fldOf (ws:List Int) (k:Nat):Fld:=
 ⟨min (fldAt ws k) 64,min (maskOf (ws[k]?.getD 0)) 18446744073709551615,by omega,by omega⟩
theorem fields1_in (F:Fence) (n:Nat) (h35:F.fn 135) (hro:F.round=none) (hn:1≤n) (l Bs n₀:Nat) (A:Option Addr) (cap:Nat) (ws:List Int) (hok:okW 0 ws=true)
  (hlen:ws.length≤1000000) (J Jx:List Fld→World→Prop)
  (hY:∀pre x W,J pre W→pre.length<ws.length→YieldAt F (n - 1) Tryz.prog l (encF x) W fun e W'=>
   (e=.returned (.bool true)∧J (pre++ [x]) W'∧KeepB n₀ Bs W W')∨(e=.returned (.bool false)∧Jx (pre++ [x]) W'))
  (W:World) (hBs:W.cell? ⟨Bs,0,none⟩=some (.slice A ws.length cap))
  (hA:∀i,i<ws.length→∃b off,A=some ⟨b,off,none⟩∧b<n₀∧W.cell? ⟨b,off+i,none⟩=some (.int .i64 (ws[i]?.getD 0))) (h0:J [] W) :
  CallsIn F n Tryz.prog 135 #[.func (.yield l) #[] #[],.pointer (some ⟨Bs,0,none⟩)] W fun e W'=>(∃v,e=.returned v)∧
   ((∃ys,ys=upto (fldOf ws) ws.length∧J ys W')∨(∃pre,(∃k,k≤ws.length∧pre=upto (fldOf ws) k)∧Jx pre W')):=by
 obtain ⟨m,hm⟩ :∃m,ws.length=m:=⟨_,rfl⟩
 have HM:=Hi hm
 rw[hm] at hlen hBs hA hY ⊢
 clear hm
 have HA:=Hi hA
 have HOK:=Hi hok
 clear hA hok
 refine callsIn_of_wp Tryz.func135 rfl h35 ?_ hro
 simp only[Tryz.ntmps135,List.size_toArray,List.length_cons,List.length_nil,Nat.reduceAdd,Nat.reduceSub,Array.replicate_succ,Array.replicate_zero,List.push_toArray,List.append_toArray,List.nil_append,List.cons_append]
 gi_wp2
 gi_loopw [3,8] (fun s i wr=>∃(k:Nat) (t:Int),k≤m∧i=.int .i64 k∧s=.int .i64 t∧0≤t∧t≤64∧Hid (t=(ws.take k).sum)∧J (upto (fldOf ws) k) wr∧KeepB n₀ Bs W wr)
  (fun _ i _=>m - (intOf i).toNat)
 case atStart=>exact ⟨0,0,Nat.zero_le _,rfl,rfl,by omega,by omega,by show _=_;simp,h0,KeepB.refl _ _ _⟩
 case round=>
  obtain ⟨k,t,hk,rfl,rfl,ht0,ht1,hs,hJs,hnx⟩:=hrel
  by_cases hlt:k<m
  ·obtain ⟨b,off,rfl,hb,hc1⟩:=HA.out k hlt
   have hc2:=(hnx.below.cell (p:=⟨b,off+k,none⟩) hb).trans hc1
   have hx:=okW_at 0 ws k HOK.out (by rw[HM.out];exact hlt)
   have hts:=sum_take_succ ws k (by rw[HM.out];exact hlt)
   obtain ⟨x,ex⟩ :∃x,ws[k]?.getD 0=x:=⟨_,rfl⟩
   rw[←hs.out,ex] at hx
   rw[←hs.out,ex] at hts
   rw[ex] at hc2
   obtain ⟨fn,tmps,assign,body,hy,hR⟩:=hY _ (fldOf ws k) wr hJs (by rw[upto_length];exact hlt)
   have e1:((fldOf ws k).at_:Int)=t:=by
    show ((min (fldAt ws k) 64:Nat):Int)=t
    unfold fldAt
    rw[←hs.out]
    omega
   have e2:((fldOf ws k).mask:Int)=18446744073709551615 / 2 ^ (64 - x).toNat:=by
    rw[←mask_int x (by omega) (by omega)]
    show ((min (maskOf (ws[k]?.getD 0)) _:Nat):Int)=_
    rw[ex]
    have:=mask_lt x (by omega)
    omega
   have hy':_:=hy
   simp only[encF,e1,e2] at hy'
   clear hy ex hc1
   have HT:=Hi hts
   clear hts e1 e2
   gi_wp2
   refine hR.mono ?_
   rintro e W3 (⟨rfl,hJ3,hk3⟩| ⟨rfl,hJx3⟩)
   ·gi_wp2
    go_roundw
    case rel=>exact ⟨k+1,t+x,by omega,by simp,rfl,by omega,by omega,HT.out.symm,by rw[upto_succ];exact hJ3,hnx.trans hk3⟩
    case measure=>simp[intOf];omega
   ·gi_wp2
    refine bodyPost_ret (results_none rfl _ _ _) rfl ?_
    exact ⟨⟨_,rfl⟩,.inr ⟨_,⟨k+1,by omega,(upto_succ _ _).symm⟩,hJx3⟩⟩
  ·obtain rfl:k=m:=by omega
   gi_wp2
   go_end0
   exact ⟨⟨_,rfl⟩,.inl ⟨_,rfl,hJs⟩⟩
theorem fields_in (F:Fence) (n:Nat) (h31:F.fn 106) (hro:F.round=none) (a:Option Addr) (len cap:Nat) (w:World) :
  CallsIn F n Tryz.prog 106 #[.slice a len cap] w fun e w'=>e=.returned (.func (.func 135) #[] #[.pointer (some ⟨w.heap.size,0,none⟩)])∧w.alloc (.cells #[.slice a len cap] 22)=w':=by
 refine callsIn_of_wp Tryz.func106 rfl h31 ?_ hro
 simp only[Tryz.ntmps106,List.size_toArray,List.length_cons,List.length_nil,Nat.reduceAdd,Nat.reduceSub,Array.replicate_succ,Array.replicate_zero,List.push_toArray,List.append_toArray,List.nil_append,List.cons_append]
 gi_wp2
 go_ret
 exact ⟨rfl,rfl⟩
theorem fields_stops (F:Fence) (n:Nat) (h35:F.fn 135) (hro:F.round=none) (hn:1≤n) (Bs n₀:Nat) (A:Option Addr) (cap:Nat) (ws:List Int) (hok:okW 0 ws=true)
  (hlen:ws.length≤1000000) (w:World) (hBs:Bs<w.heap.size) (hn₀:n₀≤w.heap.size)
  (hc:w.cell? ⟨Bs,0,none⟩=some (.slice A ws.length cap))
  (hA:∀i,i<ws.length→∃b off,A=some ⟨b,off,none⟩∧b<n₀∧w.cell? ⟨b,off+i,none⟩=some (.int .i64 (ws[i]?.getD 0))) :
  SeqStopsK F n Tryz.prog 135 #[.pointer (some ⟨Bs,0,none⟩)] encF (KeepB n₀ Bs) (fun ys=>ys=upto (fldOf ws) ws.length)
   (fun pre=>∃k,k≤ws.length∧pre=upto (fldOf ws) k) ws.length w:=fun l J Jx W hW _ _ hY h0=>
 fields1_in F n h35 hro hn l Bs n₀ A cap ws hok hlen J Jx hY W ((hW.cell (p:=⟨Bs,0,none⟩) (by show Bs<_;omega)).trans hc) (fun i hi=>by
  obtain ⟨b,off,e,hb,h⟩:=hA i hi
  exact ⟨b,off,e,hb,(hW.cell (p:=⟨b,off+i,none⟩) (by show b<_;omega)).trans h⟩) h0
def fitsF (pre:List Fld) (vs:List Nat):Prop:=∀k,k<pre.length→∀f,pre[k]? =some f→vs[k]?.getD 0≤f.mask
def wordF:List Fld→List Nat→Nat
 | [],_=>0
 |f :: pre,vs=>(((vs[0]?.getD 0) <<< f.at_) % 18446744073709551616) ||| wordF pre vs.tail
theorem wordF_lt (pre:List Fld) (vs:List Nat):wordF pre vs<18446744073709551616:=by
 induction pre generalizing vs with
 |nil=>simp[wordF]
 |cons f pre ih=>exact or_lt (Nat.mod_lt _ (by omega)) (ih _)
theorem wordF_snoc (pre:List Fld) (x:Fld) (vs:List Nat):wordF (pre++ [x]) vs=wordF pre vs ||| (((vs[pre.length]?.getD 0) <<< x.at_) % 18446744073709551616):=by
 induction pre generalizing vs with
 |nil=>simp[wordF]
 |cons f pre ih=>
  have h:vs.tail[pre.length]?.getD 0=vs[pre.length+1]?.getD 0:=by simp
  simp only[List.cons_append,wordF,ih,List.length_cons,h,Nat.or_assoc]
theorem fitsF_snoc (pre:List Fld) (x:Fld) (vs:List Nat) (h:fitsF pre vs) (hx:vs[pre.length]?.getD 0≤x.mask):fitsF (pre++ [x]) vs:=by
 intro k hk f hf
 rcases Nat.lt_or_ge k pre.length with h1|h1
 ·rw[List.getElem?_append_left h1] at hf
  exact h k h1 f hf
 ·have:k=pre.length:=by simp at hk;omega
  subst this
  simp at hf
  subst hf
  exact hx
theorem fields_ok (A B:Option Addr) (c d:Nat) (ws:List Int) (vs:List Nat) (w:World) (hA:Reads w A (iv ws)) (hB:Reads w B (uv vs)) (hl:ws.length=vs.length) (hlen:ws.length≤1000000) (hok:okW 0 ws=true) (hw:W64 vs) :
  Calls Tryz.prog 108 #[.slice A ws.length c,.slice B vs.length d] w fun e w'=>Below w.heap.size w w'∧
   ((e=.returned (.tuple #[.int .u64 ((wordF (upto (fldOf ws) ws.length) vs:Nat):Int),.int .i64 0])∧fitsF (upto (fldOf ws) ws.length) vs)∨
    (e=.returned (.tuple #[.int .u64 0,.int .i64 1])∧¬fitsF (upto (fldOf ws) ws.length) vs)):=by
 refine (callsIn_wide (n:=6)).1 ?_
 obtain ⟨m,hm⟩ :∃m,ws.length=m:=⟨_,rfl⟩
 have Hd:=Hi (fun W hA=>divided_any A c ws W hA hlen)
 have hcv:∀i,i<m→∃b off,B=some ⟨b,off,none⟩∧b<w.heap.size∧w.cell? ⟨b,off+i,none⟩=some (.int .u64 ((vs[i]?.getD 0:Nat):Int)):=by
  intro i hi
  obtain ⟨b,off,e,hb,hc⟩:=hB.u (by omega)
  exact ⟨b,off,e,hb,hc i (by omega)⟩
 have hci:∀i,i<m→∃b off,A=some ⟨b,off,none⟩∧b<w.heap.size∧w.cell? ⟨b,off+i,none⟩=some (.int .i64 (ws[i]?.getD 0)):=by
  intro i hi
  obtain ⟨b,off,e,hb,hc⟩:=hA.i (by omega)
  exact ⟨b,off,e,hb,hc i (by omega)⟩
 rw[←hl,hm]
 rw[hm,hok] at Hd
 rw[hm] at hlen
 have HM:=Hi hm
 have HL:=Hi hl
 have HV:=Hi hcv
 have HI:=Hi hci
 have HOK:=Hi hok
 have HA:=Hi hA
 clear hm hl hcv hci hok hB hA
 refine callsIn_of_wp_marks Tryz.func108 rfl trivial ?_ rfl
 simp only[Tryz.ntmps108,List.size_toArray,List.length_cons,List.length_nil,Nat.reduceAdd,Nat.reduceSub,Array.replicate_succ,Array.replicate_zero,List.push_toArray,List.append_toArray,List.nil_append,List.cons_append]
 gi_wp2_with fail
 refine ⟨trivial,?_⟩
 refine (callsIn_wide.2 (Hd.out _ (HA.out.keep ((((Below.refl _ w).alloc (Nat.le_refl _) _).alloc (by simp) _).alloc (by simp;omega) _)))).mono ?_
 rintro e w' ⟨rfl,rfl⟩
 gi_wp2_with fail
 refine ⟨trivial,?_⟩
 refine (fields_in Fence.wide 5 trivial rfl _ _ _ _).mono ?_
 rintro e w' ⟨rfl,rfl⟩
 gi_wp2_with fail
 have b0:=((((((Boxed.new w 27 (.slice B m d)).alloc (.cells #[.int .u64 0] 39)).alloc (.cells #[.int .i64 0] 34)).alloc (.cells #[.int .u64 0] 39)).alloc (.cells #[.int .i64 0] 3)).alloc (.cells #[.slice A m c] 22))
 have b1:=(((((Boxed.new (w.alloc (.cells #[.slice B m d] 27)) 39 (.int .u64 0)).alloc (.cells #[.int .i64 0] 34)).alloc (.cells #[.int .u64 0] 39)).alloc (.cells #[.int .i64 0] 3)).alloc (.cells #[.slice A m c] 22))
 have b2:=((((Boxed.new ((w.alloc (.cells #[.slice B m d] 27)).alloc (.cells #[.int .u64 0] 39)) 34 (.int .i64 0)).alloc (.cells #[.int .u64 0] 39)).alloc (.cells #[.int .i64 0] 3)).alloc (.cells #[.slice A m c] 22))
 have b3:=(((Boxed.new (((w.alloc (.cells #[.slice B m d] 27)).alloc (.cells #[.int .u64 0] 39)).alloc (.cells #[.int .i64 0] 34)) 39 (.int .u64 0)).alloc (.cells #[.int .i64 0] 3)).alloc (.cells #[.slice A m c] 22))
 have b4:=((Boxed.new ((((w.alloc (.cells #[.slice B m d] 27)).alloc (.cells #[.int .u64 0] 39)).alloc (.cells #[.int .i64 0] 34)).alloc (.cells #[.int .u64 0] 39)) 3 (.int .i64 0)).alloc (.cells #[.slice A m c] 22))
 have b5:=(Boxed.new (((((w.alloc (.cells #[.slice B m d] 27)).alloc (.cells #[.int .u64 0] 39)).alloc (.cells #[.int .i64 0] 34)).alloc (.cells #[.int .u64 0] 39)).alloc (.cells #[.int .i64 0] 3)) 22 (.slice A m c))
 have hb:Below w.heap.size w ((((((w.alloc (.cells #[.slice B m d] 27)).alloc (.cells #[.int .u64 0] 39)).alloc (.cells #[.int .i64 0] 34)).alloc (.cells #[.int .u64 0] 39)).alloc (.cells #[.int .i64 0] 3)).alloc (.cells #[.slice A m c] 22)):=
  ((((((Below.refl _ w).alloc (Nat.le_refl _) _).alloc (by simp) _).alloc (by simp;omega) _).alloc (by simp;omega) _).alloc (by simp;omega) _).alloc (by simp;omega) _
 simp only[World.size_alloc] at b0 b1 b2 b3 b4 b5
 obtain ⟨W0,hW0⟩ :∃W0,((((((w.alloc (.cells #[.slice B m d] 27)).alloc (.cells #[.int .u64 0] 39)).alloc (.cells #[.int .i64 0] 34)).alloc (.cells #[.int .u64 0] 39)).alloc (.cells #[.int .i64 0] 3)).alloc (.cells #[.slice A m c] 22))=W0:=⟨_,rfl⟩
 have hsz:W0.heap.size=w.heap.size+1+1+1+1+1+1:=by rw[←hW0];simp
 rw[hW0] at b0 b1 b2 b3 b4 b5 hb ⊢
 clear hW0
 have HS:=Hi hsz
 refine wpIn_rangeFunc_ownG rfl (by omega) (gf:=135) (lb:=#[.pointer (some ⟨w.heap.size+1+1+1+1+1,0,none⟩)]) rfl trivial (enters_of Tryz.func135 (by kernel_rfl) rfl)
  (fields_stops Fence.wide 5 trivial rfl (by omega) (w.heap.size+1+1+1+1+1) w.heap.size A c ws HOK.out (by rw[HM.out];exact hlen) W0 (by omega) (by omega) (by rw[HM.out];exact b5.cell)
   (fun i hi=>by
    obtain ⟨b,off,e,hlt,h⟩:=HI.out i (by rw[←HM.out];exact hi)
    exact ⟨b,off,e,hlt,(hb.cell (p:=⟨b,off+i,none⟩) hlt).trans h⟩))
  KeepB.trans (KeepB.putObj (by omega) (by omega)) (Below.refl _ _) (fun _=>rfl)
  (fun pre W=>(fitsF pre vs∧Boxed W w.heap.size 27 (.slice B m d)∧Boxed W (w.heap.size+1) 39 (.int .u64 0)∧Boxed W (w.heap.size+1+1) 34 (.int .i64 0)∧
   Boxed W (w.heap.size+1+1+1) 39 (.int .u64 ((wordF pre vs:Nat):Int))∧Boxed W (w.heap.size+1+1+1+1) 3 (.int .i64 (pre.length:Int)))∧Below w.heap.size w W)
  (fun c pre W=>(c=.ret∧(∃(ini:List Fld) (last:Fld),pre=ini++ [last]∧last.mask<vs[ini.length]?.getD 0)∧Boxed W (w.heap.size+1) 39 (.int .u64 0)∧Boxed W (w.heap.size+1+1) 34 (.int .i64 1))∧Below w.heap.size w W)
  (OwnFrom.and (Own.from (fun s A B row hs hg hr=>⟨hs.1,boxed_own _ _ (fun _=>_) s A B row hs.2.1 hg hr,boxed_own _ _ (fun _=>_) s A B row hs.2.2.1 hg hr,boxed_own _ _ (fun _=>_) s A B row hs.2.2.2.1 hg hr,boxed_own _ _ (fun _=>_) s A B row hs.2.2.2.2.1 hg hr,boxed_own _ _ (fun _=>_) s A B row hs.2.2.2.2.2 hg hr⟩) _) (ownFrom_below (Nat.le_refl _) (by omega)))
  (fun c=>OwnFrom.and (Own.from (fun s A B row hs hg hr=>⟨hs.1,hs.2.1,boxed_own _ _ (fun _=>_) s A B row hs.2.2.1 hg hr,boxed_own _ _ (fun _=>_) s A B row hs.2.2.2 hg hr⟩) _) (ownFrom_below (Nat.le_refl _) (by omega)))
  ⟨⟨by intro k hk;simp at hk,b0,b1,b2,b3,b4⟩,hb⟩
  (fun x=>{ tmps:=#[.slice A m c,.slice B m d,undef,.pointer (some ⟨w.heap.size,0,none⟩),.pointer (some ⟨w.heap.size+1,0,none⟩),.pointer (some ⟨w.heap.size+1+1,0,none⟩),
   .pointer (some ⟨w.heap.size+1+1+1,0,none⟩),.pointer (some ⟨w.heap.size+1+1+1+1,0,none⟩),.int .i64 (x.at_:Int),.int .u64 (x.mask:Int),.slice A m c,.int .i64 m,.slice B m d,.int .i64 m,.bool false,.slice A m c,
   .bool true,.bool false,.slice A m c,.func (.func 135) #[] #[.pointer (some ⟨w.heap.size+1+1+1+1+1,0,none⟩)],
   .int .i64 (x.at_:Int),.int .u64 (x.mask:Int),undef,undef,undef,undef,undef,undef,undef,undef,undef,undef,undef,undef,undef,undef,undef,undef,undef],defers:=[] }) ?assign ?body ?done ?stop
 case assign=>
  intro l x W K hK
  gi_wp2
  exact hK
 case body=>
  rintro l pre x W ⟨⟨hf,c0,c1,c2,c3,c4⟩,hB⟩ hlt
  obtain ⟨b,off,hBe,hbl,hcv⟩:=HV.out pre.length (by rw[←HM.out];exact hlt)
  have hcv':=(hB.cell (p:=⟨b,off+pre.length,none⟩) hbl).trans hcv
  have hv:=hw.at pre.length
  obtain ⟨v,ev⟩ :∃v,vs[pre.length]?.getD 0=v:=⟨_,rfl⟩
  rw[ev] at hcv' hv
  have EV:=Hi ev
  have hlt':pre.length<m:=by rw[←HM.out];exact hlt
  have hat:=x.hat
  have hmask:=x.hmask
  have hwf:=wordF_lt pre vs
  have d0:=c0.cell
  have d1:=c1.cell
  have d1':=c1.frozen
  have d2:=c2.cell
  have d2':=c2.frozen
  have d3:=c3.cell
  have d3':=c3.frozen
  have d4:=c4.cell
  have d4':=c4.frozen
  subst hBe
  clear ev hcv hlt
  by_cases hm:x.mask<v
  ·gi_wp2
   refine ⟨((KeepsOthers.setCell _ _ _).trans (KeepsOthers.setCell _ _ _)).from _,⟨rfl,⟨pre,x,rfl,by rw[EV.out];exact hm⟩,(c1.set _).other (by omega) _,(c2.other (by omega) _).set _⟩,?_⟩
   exact (hB.setCell (p:=⟨w.heap.size+1,0,none⟩) (by show _≤_+1;omega) _).setCell (p:=⟨w.heap.size+1+1,0,none⟩) (by show _≤_+1+1;omega) _
  ·gi_wp2
   clear b0 b1 b2 b3 b4 b5 hb hsz HS HI HA HOK Hd hw
   have hmix:Tryz.prog.follows .mixedOrders=true:=by kernel_rfl
   refine wpIn_region_still_tail 8 hmix (by kernel_rfl) (by rintro ⟨_,_,h⟩;exact h) (by kernel_rfl) ?_
   simp only[List.take_succ_cons,List.take_zero,List.drop_succ_cons,List.drop_zero]
   repeat still_step
   refine wpStill_nil ?_
   go_wp2
   have hz:bits BinOp.or IntKind.u64 ((wordF pre vs:Nat):Int) (IntKind.u64.wrap ((v:Int) * 2 ^ x.at_))=((wordF (pre++ [x]) vs:Nat):Int):=by
    rw[wordF_snoc,EV.out,cast_two_pow,←Int.natCast_mul,wrap_nat,←Nat.shiftLeft_eq,u64_or_nat _ _ hwf (Nat.mod_lt _ (by omega))]
   rw[hz]
   have f0:=(c0.other (B':=w.heap.size+1+1+1) (by omega) (.int .u64 ((wordF (pre++ [x]) vs:Nat):Int)))
   have f1:=(c1.other (B':=w.heap.size+1+1+1) (by omega) (.int .u64 ((wordF (pre++ [x]) vs:Nat):Int)))
   have f2:=(c2.other (B':=w.heap.size+1+1+1) (by omega) (.int .u64 ((wordF (pre++ [x]) vs:Nat):Int)))
   have f3:=(c3.set (.int .u64 ((wordF (pre++ [x]) vs:Nat):Int)))
   have f4:=(c4.other (B':=w.heap.size+1+1+1) (by omega) (.int .u64 ((wordF (pre++ [x]) vs:Nat):Int)))
   have hk1:=((KeepB.refl w.heap.size (w.heap.size+1+1+1+1+1) W).setCell (b:=w.heap.size+1+1+1) (i:=0) (by omega) (by omega) (.int .u64 ((wordF (pre++ [x]) vs:Nat):Int))).drew
   have hko:=(KeepsOthers.setCell W ⟨w.heap.size+1+1+1,0,none⟩ (.int .u64 ((wordF (pre++ [x]) vs:Nat):Int))).trans (KeepsOthers.drew _)
   have hB1:=(hB.setCell (p:=⟨w.heap.size+1+1+1,0,none⟩) (by show _≤_+1+1+1;omega) (.int .u64 ((wordF (pre++ [x]) vs:Nat):Int))).drew
   have g4:(W.setCell ⟨w.heap.size+1+1+1,0,none⟩ (.int .u64 ((wordF (pre++ [x]) vs:Nat):Int))).drew.cell? ⟨w.heap.size+1+1+1+1,0,none⟩=_:=f4.cell
   have g4':(W.setCell ⟨w.heap.size+1+1+1,0,none⟩ (.int .u64 ((wordF (pre++ [x]) vs:Nat):Int))).drew.frozen? ⟨w.heap.size+1+1+1+1,0,none⟩=_:=f4.frozen
   change Boxed (W.setCell _ _).drew _ _ _ at f0 f1 f2 f3 f4
   clear d0 d1 d1' d2 d2' d3 d3' d4 d4' hz hcv' c0 c1 c2 c3 c4
   generalize (W.setCell _ _).drew=W2 at f0 f1 f2 f3 f4 hk1 hko hB1 g4 g4' ⊢
   gi_wp2
   refine ⟨(hko.trans (KeepsOthers.setCell _ _ _)).from _,hk1.setCell (by omega) (by omega) _,⟨fitsF_snoc _ _ _ hf (by rw[EV.out];omega),f0.other (by omega) _,f1.other (by omega) _,f2.other (by omega) _,f3.other (by omega) _,?_⟩,hB1.setCell (p:=⟨w.heap.size+1+1+1+1,0,none⟩) (by show _≤_+1+1+1+1;omega) _⟩
   have:=f4.set (.int .i64 ((pre.length:Int)+1))
   rw[show ((pre++ [x]).length:Int)=(pre.length:Int)+1 by simp]
   exact this
 case done=>
  rintro D ys W hD rfl ⟨⟨hf,c0,c1,c2,c3,c4⟩,hB⟩ hK
  have d1:=c1.cell
  have d1':=c1.frozen
  have d2:=c2.cell
  have d2':=c2.frozen
  have d3:=c3.cell
  gi_wp2
  have e1:=(c1.set (.int .u64 ((wordF (upto (fldOf ws) ws.length) vs:Nat):Int))).other (B':=w.heap.size+1+1) (by omega) (.int .i64 0)
  have e2:=(c2.other (B':=w.heap.size+1) (by omega) (.int .u64 ((wordF (upto (fldOf ws) ws.length) vs:Nat):Int))).set (.int .i64 0)
  have hK2:=((KeepsOthers.setCell W ⟨w.heap.size+1,0,none⟩ (.int .u64 ((wordF (upto (fldOf ws) ws.length) vs:Nat):Int))).trans (KeepsOthers.setCell _ ⟨w.heap.size+1+1,0,none⟩ (.int .i64 0))).same D _ hK rfl
  have hB2:=(hB.setCell (p:=⟨w.heap.size+1,0,none⟩) (by show _≤_+1;omega) (.int .u64 ((wordF (upto (fldOf ws) ws.length) vs:Nat):Int))).setCell (p:=⟨w.heap.size+1+1,0,none⟩) (by show _≤_+1+1;omega) (.int .i64 0)
  generalize ((W.setCell _ _).setCell _ _)=W2 at e1 e2 hK2 hB2 ⊢
  refine ⟨by simp,.inl ⟨_,_,rfl,run_takeDeferred hK2,?_⟩⟩
  have hc1:=(e1.kept (grownBy_putObj' W2 D (.deferred none)) (by simp;omega)).cell
  have hc2:=(e2.kept (grownBy_putObj' W2 D (.deferred none)) (by simp;omega)).cell
  refine ⟨.tuple #[.int .u64 ((wordF (upto (fldOf ws) ws.length) vs:Nat):Int),.int .i64 0],by simp[results,Tryz.f108,go_sem,hc1,hc2],hB2.trans (belowK_b (w:=w) (Nat.le_refl _) W2 D _ _ (by omega) hK2 rfl rfl),.inl ⟨by rw[HM.out],by rw[←HM.out];exact hf⟩⟩
 case stop=>
  rintro D c pre W hD ⟨k,hk,rfl⟩ ⟨⟨rfl,⟨ini,last,e1,e2⟩,c1,c2⟩,hB⟩ hK
  gi_wp2
  refine ⟨by simp,.inl ⟨_,_,rfl,run_takeDeferred hK,?_⟩⟩
  have hc1:=(c1.kept (grownBy_putObj' W D (.deferred none)) (by simp;omega)).cell
  have hc2:=(c2.kept (grownBy_putObj' W D (.deferred none)) (by simp;omega)).cell
  refine ⟨.tuple #[.int .u64 0,.int .i64 1],by simp[results,Tryz.f108,go_sem,hc1,hc2],hB.trans (belowK_b (w:=w) (Nat.le_refl _) W D _ _ (by omega) hK rfl rfl),.inr ⟨rfl,?_⟩⟩
  intro hfit
  obtain ⟨k',rfl⟩ :∃k',k=k'+1:=by
   cases k with
   |zero=>simp[upto] at e1
   |succ k'=>exact ⟨k',rfl⟩
  rw[upto_succ] at e1
  obtain ⟨rfl,e5⟩:=List.append_inj' e1 rfl
  obtain rfl:fldOf ws k'=last:=by simpa using e5
  rw[upto_length] at e2
  have hlt:k'<(upto (fldOf ws) m).length:=by rw[upto_length,←HM.out];omega
  have:=hfit k' hlt (fldOf ws k') (by simp[upto,←HM.out,show k'<ws.length by omega])
  omega
end
section
open Go
section
variable {P:Program} {md:Region.Mode} {ops:Array Oper} {Q:Exit→Act→World→Prop} {S:World→Prop} {n:Nat}
def wpAnyT (P:Program) (md:Region.Mode) (ops:Array Oper) (Q:Exit→Act→World→Prop) (S:World→Prop) (n:Nat):Nat→Array Bool→Act→World→Prop
 |0,listed,a,w=>Region.ready md ops listed= []∧Q .normal a w
 |f+1,listed,a,w=>(Region.ready md ops listed= []→Q .normal a w)∧
  ∀i∈Region.ready md ops listed,wpOp P ops Q i (fun a' w'=>(i<n→S w')∧wpAnyT P md ops Q S n f (listed.setIfInBounds i true) a' w') a w
theorem wpAny_of_T:∀(f:Nat) (listed:Array Bool) (a:Act) (w:World),wpAnyT P md ops Q S n f listed a w→wpAny P md ops Q f listed a w
 |0,_,_,_,h=>h
 |f+1,_,_,_,h=>⟨h.1,fun i hi=>wpOp_mono (fun a' w' h'=>wpAny_of_T f _ a' w' h'.2) (h.2 i hi)⟩
theorem wpAnyT_first {i:Nat} {oi:Oper} {v:Value} (hi:ops[i]? =some oi) (hsel:∀(j:Nat) (o:Oper) cs b,ops[j]? =some o→o.op≠.select cs b)
  (hs:Region.sinkB md ops n=true) (hc:Region.chainB md ops n=true) (hn:n<ops.size) (hin:i<n)
  (hQ:∀c a w,Q (.panic c) (a.put oi.dst v) w→Q (.panic c) a w) :
  ∀(f:Nat) (listed:Array Bool) (a:Act) (w:World),HeadInv md ops n listed→
   (∀j oj,ops[j]? =some oj→j≠i→listed.getD j true=false→(∀e∈oj.after,Region.binds md e=true→e.on≠i)→oi.apart ops oj=true)→
   i∈Region.ready md ops listed→YieldsIf P ops S oi v a→S w→
   wpAnyT P md ops Q S n f (listed.setIfInBounds i true) (a.put oi.dst v) w→wpAnyT P md ops Q S n (f+1) listed a w:=by
 intro f
 induction f with
 |zero=>
  intro listed a w inv _ hr hy hS H
  refine ⟨fun h=>(by rw[h] at hr;cases hr),fun j hj=>?_⟩
  by_cases hji:j=i
  ·subst hji;exact hy.wpOp hi hS ⟨fun _=>hS,H⟩
  ·have:=ready_mono hj hji
   rw[H.1] at this
   cases this
 |succ f ih=>
  intro listed a w inv hfree hr hy hS H
  have hun:=(mem_ready.1 hr).1
  refine ⟨fun h=>(by rw[h] at hr;cases hr),fun j hj=>?_⟩
  have hjn:j<n:=by
   rcases Nat.lt_or_ge j n with h|h
   ·exact h
   ·exact absurd hj (tail_waits hs hc hn inv _ i rfl hin hun j h)
  by_cases hji:j=i
  ·subst hji;exact hy.wpOp hi hS ⟨fun _=>hS,H⟩
  ·have h1:=H.2 j (ready_mono hj hji)
   obtain ⟨hjun,oj,hoj,hall⟩:=mem_ready.1 hj
   have hnot:∀e∈oj.after,Region.binds md e=true→e.on≠i:=fun e he hb heq=>by
    have h1:=hall e he hb
    rw[heq,getD_both hun] at h1
    cases h1
   have h2:=wpOp_putIf hoj (hfree j oj hoj hji hjun hnot) (fun cs b=>hsel i oi cs b hi) (fun cs b=>hsel j oj cs b hoj) hQ hy h1
   have hfree':∀k ok,ops[k]? =some ok→k≠i→(listed.setIfInBounds j true).getD k true=false→
     (∀e∈ok.after,Region.binds md e=true→e.on≠i)→oi.apart ops ok=true:=fun k ok hk hki hun hno=>by
    refine hfree k ok hk hki ?_ hno
    by_cases hjk:j=k
    ·subst hjk;exact hjun
    ·rw[getD_set_ne true hjk] at hun;exact hun
   refine wpOp_mono (fun a' w' h3=>⟨h3.2.1,ih (listed.setIfInBounds j true) a' w' (inv.set hj hjn) hfree' (ready_mono hr (Ne.symm hji)) h3.1 (h3.2.1 hjn) ?_⟩) h2
   rw[Array.setIfInBounds_comm _ _ hji]
   exact h3.2.2
def wpHeadS (P:Program) (ops:Array Oper) (Q:Exit→Act→World→Prop) (S:World→Prop) (T:Act→Prop):List Oper→Act→Prop
 | [],a=>T a
 |o :: l,a=>∃v,YieldsIf P ops S o v a∧(∀c a w,Q (.panic c) (a.put o.dst v) w→Q (.panic c) a w)∧wpHeadS P ops Q S T l (a.put o.dst v)
def wpSeqT (P:Program) (ops:Array Oper) (Q:Exit→Act→World→Prop) (S:World→Prop) (n:Nat):Nat→List Oper→Act→World→Prop
 |_,[],a,w=>Q .normal a w
 |k,o :: l,a,w=>if Region.wanted o (yielded ops a.tmps)=true then o.wp P a w (fun a' w'=>(k<n→S w')∧wpSeqT P ops Q S n (k+1) l a' w') Q∨(o.asks P a w∧LetsOut Q) else (k<n→S w)∧wpSeqT P ops Q S n (k+1) l (a.put o.dst undef) w
theorem wpSeqT_list:∀(l:List Oper) (k:Nat) (a:Act) (w:World),n≤k→wpList P ops Q l a w→wpSeqT P ops Q S n k l a w
 | [],_,_,_,_,h=>h
 |o :: l,k,a,w,hk,h=>by
  unfold wpSeqT
  unfold wpList at h
  split
  ·rename_i hw
   rw[if_pos hw] at h
   exact h.imp (Oper.wp_mono (fun a' w' h'=>⟨fun hh=>absurd hh (by omega),wpSeqT_list l (k+1) a' w' (by omega) h'⟩)) id
  ·rename_i hw
   rw[if_neg hw] at h
   exact ⟨fun hh=>absurd hh (by omega),wpSeqT_list l (k+1) _ w (by omega) h⟩
theorem wpSeqT_step {k:Nat} {o:Oper} {l:List Oper} {a:Act} {w:World}
  (h:∀K:Act→World→Prop,(∀a w,(k<n→S w)→wpSeqT P ops Q S n (k+1) l a w→K a w)→if Region.wanted o (yielded ops a.tmps)=true then o.wp P a w K Q else K (a.put o.dst undef) w):wpSeqT P ops Q S n k (o :: l) a w:=by
 have:=h (fun a w=>(k<n→S w)∧wpSeqT P ops Q S n (k+1) l a w) (fun a w h1 h2=>⟨h1,h2⟩)
 unfold wpSeqT
 split
 ·rename_i hw;rw[if_pos hw] at this;exact .inl this
 ·rename_i hw;rw[if_neg hw] at this;exact this
theorem wpAnyT_of_seq:∀(l:List Oper) (k:Nat) (listed:Array Bool) (a:Act) (w:World),(∀j,l[j]? =ops[k+j]?)→
  Region.seqB md ops l.length k listed=true→wpSeqT P ops Q S n k l a w→wpAnyT P md ops Q S n l.length listed a w
 | [],_,_,_,_,_,hB,h=>⟨by simpa[Region.seqB] using hB,h⟩
 |o :: l,k,listed,a,w,hl,hB,h=>by
  have h0:ops[k]? =some o:=by simpa using (hl 0).symm
  simp only[List.length_cons,Region.seqB,Bool.and_eq_true,decide_eq_true_eq] at hB
  refine ⟨fun h1=>(by rw[hB.1] at h1;cases h1),fun i hi=>?_⟩
  rw[hB.1] at hi
  have hik:i=k:=by simpa using hi
  subst hik
  unfold wpOp
  simp only[h0]
  unfold wpSeqT at h
  have next:∀a' w',wpSeqT P ops Q S n (i+1) l a' w'→wpAnyT P md ops Q S n l.length (listed.setIfInBounds i true) a' w':=fun a' w' h'=>
   wpAnyT_of_seq l (i+1) _ a' w' (fun j=>by have:=hl (j+1);simpa[Nat.add_assoc,Nat.add_comm 1 j] using this) hB.2 h'
  split
  ·rename_i hw
   rw[if_pos hw] at h
   exact h.imp (Oper.wp_mono (fun a' w' h'=>⟨h'.1,next a' w' h'.2⟩)) id
  ·rename_i hw
   rw[if_neg hw] at h
   exact ⟨h.1,next _ _ h.2⟩
theorem wpAnyT_lex {h g:Nat} {T:Act→Prop} {w:World} (hsel:Region.noSelect ops=true) (hs:Region.sinkB md ops n=true) (hc:Region.chainB md ops n=true) (hn:n<ops.size) (hh:h≤n) (hS:S w)
  (hT:∀listed a,Region.seqB md ops g h listed=true→T a→wpAnyT P md ops Q S n g listed a w) :
  ∀(l:List Oper) (k:Nat) (listed:Array Bool) (a:Act),(∀j,j<l.length→l[j]? =ops[k+j]?)→k+l.length=h→HeadInv md ops n listed→
  Region.lexHead md ops g l.length k listed=true→wpHeadS P ops Q S T l a→wpAnyT P md ops Q S n (l.length+g) listed a w
 | [],k,listed,a,_,hk,_,hB,hw=>by
  have:k=h:=by simpa using hk
  subst this
  simp only[List.length_nil,Nat.zero_add]
  exact hT listed a (by simpa[Region.lexHead] using hB) hw
 |o :: l,k,listed,a,hl,hk,inv,hB,hw=>by
  have h0:ops[k]? =some o:=by simpa using (hl 0 (by simp)).symm
  simp only[List.length_cons,Region.lexHead,Bool.and_eq_true] at hB
  obtain ⟨⟨hr,hf⟩,hB'⟩:=hB
  have hkn:k<n:=by simp only[List.length_cons] at hk;omega
  have hr':k∈Region.ready md ops listed:=by simpa using hr
  obtain ⟨v,hy,hQ,hK⟩:=hw
  have:=wpAnyT_first h0 (Region.noSelect_spec hsel) hs hc hn hkn hQ (l.length+g) listed a w inv (Region.free_spec h0 hf) hr' hy hS
   (wpAnyT_lex hsel hs hc hn hh hS hT l (k+1) _ _ (fun j hj=>by have:=hl (j+1) (by simp;omega);simpa[Nat.add_assoc,Nat.add_comm 1 j] using this) (by simp only[List.length_cons] at hk;omega) (inv.set hr' hkn) hB' hK)
  rw[List.length_cons,show l.length+1+g=l.length+g+1 by omega]
  exact this
def mixB (ops:Array Oper) (h n:Nat):Bool:=
 Region.noSelect ops && decide (n<ops.size) && decide (h≤n) && Region.sinkB .any ops n && Region.chainB .any ops n && Region.lexHead .any ops (ops.size - h) h 0 (Array.replicate ops.size false)
theorem wpAny_mix {a:Act} {w:World} {l:List Oper} (h n:Nat) (hB:mixB l.toArray h n=true) (S:World→Prop) (hS:S w)
  (hw:wpHeadS P l.toArray Q S (fun a'=>wpSeqT P l.toArray Q S n h (l.drop h) a' w) (l.take h) a):wpAny P .any l.toArray Q l.toArray.size (Array.replicate l.toArray.size false) a w:=by
 simp only[mixB,Bool.and_eq_true,decide_eq_true_eq] at hB
 obtain ⟨⟨⟨⟨⟨hsel,hn⟩,hh⟩,hs⟩,hc⟩,hlex⟩:=hB
 have hn':n<l.length:=by simpa using hn
 have htl:(l.take h).length=h:=by simp;omega
 have hdl:(l.drop h).length=l.toArray.size - h:=by simp
 have inv0:HeadInv .any l.toArray n (Array.replicate l.toArray.size false):=
  ⟨by simp,fun j oj _ hl=>(by rw[getD_replicate_false] at hl;cases hl),fun t _ ht=>getD_in (by simpa using ht) (getD_replicate_false _ _)⟩
 have H:=wpAnyT_lex (md:=.any) (g:=l.toArray.size - h) (n:=n) (T:=fun a'=>wpSeqT P l.toArray Q S n h (l.drop h) a' w) (w:=w) hsel hs hc hn hh hS
  (fun listed a' hq ht=>by
   have:=wpAnyT_of_seq (md:=.any) (l.drop h) h listed a' w (fun j=>by simp[List.getElem?_drop]) (by rw[hdl];exact hq) ht
   rwa[hdl] at this) (l.take h) 0 _ a (fun j hj=>by
  have hj':j<h:=by rw[htl] at hj;exact hj
  simp[hj']) (by simpa using htl) inv0 (by rw[htl];exact hlex) hw
 rw[htl,show h+(l.toArray.size - h)=l.toArray.size by simp;omega] at H
 exact wpAny_of_T _ _ _ _ H
theorem wpIn_region_mix {l0 m id:Nat} {a:Act} {w:World} {l:List Oper} (h n:Nat) (hm:P.follows .mixedOrders=true) (hd:noDefer l.toArray=true) (hQ:¬LetsOut Q) (hB:mixB l.toArray h n=true) (S:World→Prop) (hS:S w.drew)
  (hw:wpHeadS P l.toArray Q S (fun a'=>wpSeqT P l.toArray Q S n h (l.drop h) a' w.drew) (l.take h) a):(Code.region id l.toArray true).wpIn (Fence.wide.inRound l0) m P Q a w:=
 wpIn_region_any hm (wpAny_inRound hd hQ _ _ _ _ (wpAny_mix h n hB S hS hw))
theorem wp_region_mix {id:Nat} {a:Act} {w:World} {l:List Oper} (h n:Nat) (hm:P.follows .mixedOrders=true) (hB:mixB l.toArray h n=true) (S:World→Prop) (hS:S w.drew)
  (hw:wpHeadS P l.toArray Q S (fun a'=>wpSeqT P l.toArray Q S n h (l.drop h) a' w.drew) (l.take h) a):(Code.region id l.toArray true).wp P Q a w:=
 wp_region_any hm (wpAny_mix h n hB S hS hw)
end
end
end Go.Proofs.YtplhdjdkobddnaaGreat
