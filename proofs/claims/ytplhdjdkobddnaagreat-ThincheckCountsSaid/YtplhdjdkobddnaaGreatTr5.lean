/- NodeE NodeF NodeG -/
import Derived.Test.YtplhdjdkobddnaaGreatTr4
import Derived.BigRegion
set_option linter.unusedVariables false
set_option maxRecDepth 100000
set_option maxHeartbeats 40000000
namespace Go.Proofs.YtplhdjdkobddnaaGreat
section
open Go.RowKit
def ev (l:List (Int × Nat)):List Value:=l.flatMap fun p=>[.int .i64 p.1,.int .u64 (p.2:Int)]
def E64 (l:List (Int × Nat)):Prop:=∀p∈l,-9223372036854775808≤p.1∧p.1≤9223372036854775807∧p.2<18446744073709551616
theorem ev_length (l:List (Int × Nat)):(ev l).length=l.length * 2:=by
 induction l with
 |nil=>rfl
 |cons p r ih=>simp only[ev,List.flatMap_cons,List.length_append,List.length_cons,List.length_nil] at ih ⊢;omega
theorem ev_append (l m:List (Int × Nat)):ev (l++m)=ev l++ev m:=by simp[ev]
theorem ev_one (l:List (Int × Nat)):∀u∈ev l,u.oneCell'=true:=by
 intro u hu
 obtain ⟨x,_,h⟩:=List.mem_flatMap.1 hu
 simp only[List.mem_cons,List.not_mem_nil,or_false] at h
 rcases h with rfl|rfl <;> rfl
theorem ev_key (l:List (Int × Nat)) (i:Nat) (h:i<l.length):(ev l)[i * 2]? =some (.int .i64 (l[i]?.getD (0,0)).1):=by
 induction l generalizing i with
 |nil=>simp at h
 |cons p r ih=>
  cases i with
  |zero=>simp[ev]
  |succ i=>
   have:=ih i (by simpa using h)
   simp only[ev,List.flatMap_cons] at this ⊢
   rw[List.getElem?_append_right (by simp;omega)]
   simp only[List.length_cons,List.length_nil,List.getElem?_cons_succ]
   rw[←this];congr 1;omega
theorem ev_val (l:List (Int × Nat)) (i:Nat) (h:i<l.length):(ev l)[i * 2+1]? =some (.int .u64 ((l[i]?.getD (0,0)).2:Int)):=by
 induction l generalizing i with
 |nil=>simp at h
 |cons p r ih=>
  cases i with
  |zero=>simp[ev]
  |succ i=>
   have:=ih i (by simpa using h)
   simp only[ev,List.flatMap_cons] at this ⊢
   rw[List.getElem?_append_right (by simp;omega)]
   simp only[List.length_cons,List.length_nil,List.getElem?_cons_succ]
   rw[←this];congr 1;omega
theorem E64.at {l:List (Int × Nat)} (h:E64 l) (i:Nat): -9223372036854775808≤(l[i]?.getD (0,0)).1∧(l[i]?.getD (0,0)).1≤9223372036854775807∧(l[i]?.getD (0,0)).2<18446744073709551616:=by
 rcases Nat.lt_or_ge i l.length with hi|hi
 ·rw[List.getElem?_eq_getElem hi];exact h _ (List.getElem_mem hi)
 ·rw[List.getElem?_eq_none hi];decide
theorem Reads.e {w:World} {A:Option Addr} {l:List (Int × Nat)} (h:Reads w A (ev l)) (hl:l.length≠0) :
  ∃b off,A=some ⟨b,off,none⟩∧b<w.heap.size∧∀i,i<l.length→w.cell? ⟨b,off+i * 2,none⟩=some (.int .i64 (l[i]?.getD (0,0)).1)∧w.cell? ⟨b,off+i * 2+1,none⟩=some (.int .u64 ((l[i]?.getD (0,0)).2:Int)):=by
 obtain ⟨b,off,e,hb,hc⟩:=h (by rw[ev_length];omega)
 exact ⟨b,off,e,hb,fun i hi=>⟨hc _ _ (ev_key l i hi),hc _ _ (ev_val l i hi)⟩⟩
def ascF:Int→List (Int × Nat)→Bool
 |_,[]=>true
 |last,p :: r=>decide (last<p.1∧p.1≤16777215) && ascF p.1 r
theorem ascF_drop (last:Int) (l:List (Int × Nat)) (k:Nat) (hk:k<l.length) (x:Int) (hx:(l[k]?.getD (0,0)).1=x):ascF last (l.drop k)=(decide (last<x∧x≤16777215) && ascF x (l.drop (k+1))):=by
 rw[List.drop_eq_getElem_cons hk,ascF]
 have:(l[k]).1=x:=by rw[←hx,List.getElem?_eq_getElem hk];rfl
 rw[this]
def validN (lv sq:Int) (l:List (Int × Nat)):Int:=
 if lv<0∨8<lv∨sq<0∨16777215<sq then 1 else if 7<l.length then 4 else if ascF (-1) l=true then 0 else 2
theorem valid_any (lv sq:Int) (A:Option Addr) (c n:Nat) (l:List (Int × Nat)) (w:World) (hn:l.length=n) (hA:Reads w A (ev l)) (hl:E64 l) (hlen:n≤1000000) :
  Calls Tryz.prog 148 #[.agg #[.int .i64 lv,.int .i64 sq,.slice A n c]] w fun e w'=>e=.returned (.int .i64 (validN lv sq l))∧Below w.heap.size w w':=by
 by_cases hr:lv<0∨8<lv∨sq<0∨16777215<sq
 ·have HN:Hid (validN lv sq l=1):=by show _=_;unfold validN;rw[if_pos hr]
  clear hn
  by_cases h1:lv<0
  ·go_enter Tryz.func148,Tryz.ntmps148
   go_wp2_with fail
   go_ret
   exact ⟨ret_int HN.out.symm,(Below.refl _ _).alloc (Nat.le_refl _) _⟩
  ·by_cases h2:8<lv
   ·go_enter Tryz.func148,Tryz.ntmps148
    go_wp2_with fail
    go_ret
    exact ⟨ret_int HN.out.symm,(Below.refl _ _).alloc (Nat.le_refl _) _⟩
   ·by_cases h3:sq<0
    ·go_enter Tryz.func148,Tryz.ntmps148
     go_wp2_with fail
     go_ret
     exact ⟨ret_int HN.out.symm,(Below.refl _ _).alloc (Nat.le_refl _) _⟩
    ·have h4:16777215<sq:=by omega
     go_enter Tryz.func148,Tryz.ntmps148
     go_wp2_with fail
     go_ret
     exact ⟨ret_int HN.out.symm,(Below.refl _ _).alloc (Nat.le_refl _) _⟩
 ·have hr1:¬lv<0:=by omega
  have hr2:¬8<lv:=by omega
  have hr3:¬sq<0:=by omega
  have hr4:¬16777215<sq:=by omega
  by_cases h7:7<n
  ·have HN:Hid (validN lv sq l=4):=by show _=_;unfold validN;rw[if_neg hr,if_pos (by omega)]
   have h7':(7:Int)<(n:Int):=by omega
   clear hn hr
   go_enter Tryz.func148,Tryz.ntmps148
   go_wp2_with fail
   go_ret
   exact ⟨ret_int HN.out.symm,(Below.refl _ _).alloc (Nat.le_refl _) _⟩
  ·have HN:Hid (validN lv sq l=if ascF (-1) l=true then 0 else 2):=by show _=_;unfold validN;rw[if_neg hr,if_neg (by omega)]
   have h7':¬(7:Int)<(n:Int):=by omega
   have HL:=Hi hn
   clear hn hr
   go_enter Tryz.func148,Tryz.ntmps148
   go_wp2_with fail
   have hbx:Below w.heap.size w (w.alloc (.cells #[.int .i64 lv,.int .i64 sq,.slice A n c] 129)):=(Below.refl _ _).alloc (Nat.le_refl _) _
   generalize (w.alloc _)=w1 at hbx ⊢
   go_loopw [3,31] (fun t i wr=>∃(k:Nat) (la:Int),k≤n∧i=.int .i64 k∧t=.int .i64 la∧-1≤la∧la≤16777215∧Below w.heap.size w wr∧Hid (ascF (-1) l=ascF la (l.drop k))) (fun _ i _=>n - (intOf i).toNat)
   case atStart=>exact ⟨0,-1,Nat.zero_le _,rfl,rfl,by omega,by omega,hbx,rfl⟩
   case round=>
    obtain ⟨k,la,hk,rfl,rfl,hla,hla2,hb,hs⟩:=hrel
    by_cases hlt:k<n
    ·obtain ⟨b,off,rfl,hbl,hc⟩:=hA.e (by rw[HL.out];omega)
     obtain ⟨c1,c2⟩:=hc k (by rw[HL.out];omega)
     have d1:=(hb.cell (p:=⟨b,off+k * 2,none⟩) hbl).trans c1
     have d2:=(hb.cell (p:=⟨b,off+k * 2+1,none⟩) hbl).trans c2
     have hk64:=hl.at k
     have HD:=Hi (ascF_drop la l k (by rw[HL.out];omega) _ rfl)
     generalize (l[k]?.getD (0,0)).1=x at *
     generalize (l[k]?.getD (0,0)).2=y at *
     clear hc c1 c2
     by_cases hx:x≤la
     ·have HF:Hid (validN lv sq l=2):=by show _=_;rw[HN.out,hs.out,HD.out,if_neg (by simp;omega)]
      go_wp2_with fail
      go_ret
      exact ⟨ret_int HF.out.symm,hb.alloc hb.size _⟩
     ·by_cases hx2:16777215<x
      ·have HF:Hid (validN lv sq l=2):=by show _=_;rw[HN.out,hs.out,HD.out,if_neg (by simp;omega)]
       go_wp2_with fail
       go_ret
       exact ⟨ret_int HF.out.symm,hb.alloc hb.size _⟩
      ·have HF:Hid (ascF (-1) l=ascF x (l.drop (k+1))):=by
        show _=_
        rw[hs.out,HD.out,show decide (la<x∧x≤16777215)=true by simp;omega,Bool.true_and]
       go_wp2_with fail
       go_roundw
       case rel=>exact ⟨k+1,x,by omega,by go_num,rfl,by omega,by omega,hb.alloc hb.size _,HF⟩
       case measure=>simp[intOf];omega
    ·have HF:Hid (validN lv sq l=0):=by
      show _=_
      rw[HN.out,hs.out,List.drop_of_length_le (by rw[HL.out];omega),if_pos (show ascF la []=true from rfl)]
     go_wp2_with fail
     go_ret
     exact ⟨ret_int HF.out.symm,hb⟩
theorem refValid_any (lv sq:Int) (A:Option Addr) (c n:Nat) (l:List (Int × Nat)) (w:World) (hn:l.length=n) (hA:Reads w A (ev l)) (hl:E64 l) (hlen:n≤1000000) :
  Calls Tryz.prog 117 #[.agg #[.int .i64 lv,.int .i64 sq,.slice A n c]] w fun e w'=>e=.returned (.int .i64 (validN lv sq l))∧Below w.heap.size w w':=by
 by_cases hr:lv<0∨8<lv∨sq<0∨16777215<sq
 ·have HN:Hid (validN lv sq l=1):=by show _=_;unfold validN;rw[if_pos hr]
  clear hn
  by_cases h1:lv<0
  ·go_enter Tryz.func117,Tryz.ntmps117
   go_wp2_with fail
   go_ret
   exact ⟨ret_int HN.out.symm,(Below.refl _ _).alloc (Nat.le_refl _) _⟩
  ·by_cases h2:8<lv
   ·go_enter Tryz.func117,Tryz.ntmps117
    go_wp2_with fail
    go_ret
    exact ⟨ret_int HN.out.symm,(Below.refl _ _).alloc (Nat.le_refl _) _⟩
   ·by_cases h3:sq<0
    ·go_enter Tryz.func117,Tryz.ntmps117
     go_wp2_with fail
     go_ret
     exact ⟨ret_int HN.out.symm,(Below.refl _ _).alloc (Nat.le_refl _) _⟩
    ·have h4:16777215<sq:=by omega
     go_enter Tryz.func117,Tryz.ntmps117
     go_wp2_with fail
     go_ret
     exact ⟨ret_int HN.out.symm,(Below.refl _ _).alloc (Nat.le_refl _) _⟩
 ·have hr1:¬lv<0:=by omega
  have hr2:¬8<lv:=by omega
  have hr3:¬sq<0:=by omega
  have hr4:¬16777215<sq:=by omega
  by_cases h7:7<n
  ·have HN:Hid (validN lv sq l=4):=by show _=_;unfold validN;rw[if_neg hr,if_pos (by omega)]
   have h7':(7:Int)<(n:Int):=by omega
   clear hn hr
   go_enter Tryz.func117,Tryz.ntmps117
   go_wp2_with fail
   go_ret
   exact ⟨ret_int HN.out.symm,(Below.refl _ _).alloc (Nat.le_refl _) _⟩
  ·have HN:Hid (validN lv sq l=if ascF (-1) l=true then 0 else 2):=by show _=_;unfold validN;rw[if_neg hr,if_neg (by omega)]
   have h7':¬(7:Int)<(n:Int):=by omega
   have HL:=Hi hn
   clear hn hr
   have HA:=Hi hA
   clear hA
   go_enter Tryz.func117,Tryz.ntmps117
   go_wp2_with fail
   have hbx:Below w.heap.size w (w.alloc (.cells #[.int .i64 lv,.int .i64 sq,.slice A n c] 129)):=(Below.refl _ _).alloc (Nat.le_refl _) _
   have hc3:(w.alloc (.cells #[.int .i64 lv,.int .i64 sq,.slice A n c] 129)).cell? ⟨w.heap.size,2,none⟩=some (.slice A n c):=by rw[World.cell?_alloc_at _ _ _ _ rfl];rfl
   have hA:=HA.out.keep hbx
   generalize (w.alloc _)=w1 at hbx hc3 hA ⊢
   have hA1:=Hi hA
   clear hA HA
   go_loop [3] (fun i=>∃(k:Nat) (la:Int),k≤n∧i=.int .i64 k∧-1≤la∧la≤16777215∧Hid (k=0→la= -1)∧Hid (0<k→la=(l[k - 1]?.getD (0,0)).1)∧Hid (ascF (-1) l=ascF la (l.drop k))) (fun i=>n - (intOf i).toNat)
   case atStart=>exact ⟨0,-1,Nat.zero_le _,rfl,by omega,by omega,fun _=>rfl,(fun h=>absurd h (by omega)),rfl⟩
   case round=>
    obtain ⟨k,la,hk,rfl,hla,hla2,hz,hp,hs⟩:=hrel
    by_cases hlt:k<n
    ·obtain ⟨b,off,rfl,hbl,hc⟩:=hA1.out.e (by rw[HL.out];omega)
     obtain ⟨d1,d2⟩:=hc k (by rw[HL.out];omega)
     have hk64:=hl.at k
     have HD:=Hi (ascF_drop la l k (by rw[HL.out];omega) _ rfl)
     have HX:=Hi (show (l[k]?.getD (0,0)).1=(l[k]?.getD (0,0)).1 from rfl)
     generalize hx0:(l[k]?.getD (0,0)).1=x at d1 hk64 HD
     generalize (l[k]?.getD (0,0)).2=y at d2 hk64
     have HX0:=Hi hx0
     clear hx0 HX
     by_cases hx2:x<0∨16777215<x
     ·have HF:Hid (validN lv sq l=2):=by show _=_;rw[HN.out,hs.out,HD.out,if_neg (by simp;omega)]
      clear hc
      by_cases hx3:x<0
      ·go_wp2_with fail
       go_ret
       exact ⟨ret_int HF.out.symm,hbx⟩
      ·have hx4:16777215<x:=by omega
       go_wp2_with fail
       go_ret
       exact ⟨ret_int HF.out.symm,hbx⟩
     ·have hx3:¬x<0:=by omega
      have hx4:¬16777215<x:=by omega
      by_cases hk0:k=0
      ·have hle:=hz.out hk0
       have HF:Hid (ascF (-1) l=ascF x (l.drop (k+1))):=by
        show _=_
        rw[hs.out,HD.out,show decide (la<x∧x≤16777215)=true by simp;omega,Bool.true_and]
       have hk1:¬(0:Int)<(k:Int):=by omega
       have hk2:k<1:=by omega
       clear hc hle hk0
       go_wp2_with fail
       go_round
       case rel=>exact ⟨k+1,x,by omega,by go_num,by omega,by omega,(fun h=>absurd h (by omega)),fun _=>HX0.out.symm,HF⟩
       case measure=>simp[intOf];omega
      ·obtain ⟨d3,d4⟩:=hc (k - 1) (by rw[HL.out];omega)
       have hla3:=hp.out (by omega)
       rw[←hla3] at d3
       have e1:((k:Int) - 1).toNat=k - 1:=by omega
       clear hc hla3
       by_cases hxl:x≤la
       ·have HF:Hid (validN lv sq l=2):=by show _=_;rw[HN.out,hs.out,HD.out,if_neg (by simp;omega)]
        go_wp2_with fail
        go_ret
        exact ⟨ret_int HF.out.symm,hbx⟩
       ·have HF:Hid (ascF (-1) l=ascF x (l.drop (k+1))):=by
         show _=_
         rw[hs.out,HD.out,show decide (la<x∧x≤16777215)=true by simp;omega,Bool.true_and]
        go_wp2_with fail
        go_round
        case rel=>exact ⟨k+1,x,by omega,by go_num,by omega,by omega,(fun h=>absurd h (by omega)),fun _=>HX0.out.symm,HF⟩
        case measure=>simp[intOf];omega
    ·have HF:Hid (validN lv sq l=0):=by
      show _=_
      rw[HN.out,hs.out,List.drop_of_length_le (by rw[HL.out];omega),if_pos (show ascF la []=true from rfl)]
     go_wp2_with fail
     go_ret
     exact ⟨ret_int HF.out.symm,hbx⟩
end
section
open Go.RowKit
def encTo (h:Nat) (l:List (Int × Nat)):Nat→List Nat
 |0=>(List.replicate 16 0).set 0 h
 |k+1=>((encTo h l k).set (1+k) (l[k]?.getD (0,0)).1.toNat).set (8+k) (l[k]?.getD (0,0)).2
def encP (lv sq:Int) (l:List (Int × Nat)) (block:Int):List Nat:=(encTo (hdN 2 lv l.length block) l l.length).set 15 sq.toNat
def encN (lv sq:Int) (l:List (Int × Nat)) (block:Int):List Nat:=sealN (encP lv sq l block)
def encE (lv sq:Int) (l:List (Int × Nat)) (block:Int):Int:=if validN lv sq l≠0 then validN lv sq l else if block<0∨4096≤block then 1 else 0
theorem encTo_length (h:Nat) (l:List (Int × Nat)) (k:Nat):(encTo h l k).length=16:=by
 induction k with
 |zero=>rfl
 |succ k ih=>simp[encTo,ih]
theorem hdN_lt (k l c b:Int):hdN k l c b<18446744073709551616:=by unfold hdN;omega
theorem encTo_w (h:Nat) (l:List (Int × Nat)) (k:Nat) (hh:h<18446744073709551616) (hl:E64 l):W64 (encTo h l k):=by
 induction k with
 |zero=>
  refine W64.set ?_ 0 h hh
  intro x hx
  have:=List.eq_of_mem_replicate hx
  omega
 |succ k ih=>
  have:=hl.at k
  exact (ih.set _ _ (by omega)).set _ _ this.2.2
theorem ascF_at (last:Int) (l:List (Int × Nat)) (k:Nat) (h:ascF last l=true) (hk:k<l.length):last<(l[k]?.getD (0,0)).1∧(l[k]?.getD (0,0)).1≤16777215:=by
 induction l generalizing last k with
 |nil=>simp at hk
 |cons p r ih=>
  simp only[ascF,Bool.and_eq_true,decide_eq_true_eq] at h
  cases k with
  |zero=>simpa using h.1
  |succ k=>
   have:=ih p.1 k h.2 (by simpa using hk)
   simp at this ⊢
   omega
theorem valid_iff (lv sq:Int) (l:List (Int × Nat)):validN lv sq l=0↔(0≤lv∧lv≤8∧0≤sq∧sq≤16777215∧l.length≤7∧ascF (-1) l=true):=by
 unfold validN
 split
 ·constructor <;> intro h <;> omega
 ·split
  ·constructor <;> intro h <;> omega
  ·split
   ·rename_i h;simp only[h,and_true,true_iff];omega
   ·rename_i h;simp only[h];constructor
    ·intro h;cases h
    ·rintro ⟨_,_,_,_,_,h⟩;cases h
theorem own_lower {w:World} {base base':Nat} {e:TypeId} {size n:Nat} {v:Value} {xs:List Value} (h:w.ownsRow base e size v n xs) (hb:base'≤base):w.ownsRow base' e size v n xs:=
 ⟨h.1,h.2.imp id fun ⟨g,cap,cur,q1,q2,q3⟩=>⟨g,cap,cur,q1,by omega,q3⟩⟩
theorem box_cells {w:World} {lv sq:Int} {A:Option Addr} {n c:Nat}:(w.alloc (.cells #[.int .i64 lv,.int .i64 sq,.slice A n c] 129)).cell? ⟨w.heap.size,0,none⟩=some (.int .i64 lv)∧
  (w.alloc (.cells #[.int .i64 lv,.int .i64 sq,.slice A n c] 129)).cell? ⟨w.heap.size,1,none⟩=some (.int .i64 sq)∧(w.alloc (.cells #[.int .i64 lv,.int .i64 sq,.slice A n c] 129)).cell? ⟨w.heap.size,2,none⟩=some (.slice A n c):=by
 refine ⟨?_,?_,?_⟩ <;> (rw[World.cell?_alloc_at _ _ _ _ rfl];rfl)
end
section
open Go.RowKit
theorem refEncode_ok (lv sq block:Int) (A:Option Addr) (c n:Nat) (l:List (Int × Nat)) (w:World) (hn:l.length=n) (hA:Reads w A (ev l)) (hl:E64 l) (hv:validN lv sq l=0) (h1:0≤block) (h2:block<4096) :
  Calls Tryz.prog 79 #[.agg #[.int .i64 lv,.int .i64 sq,.slice A n c],.int .i64 block] w fun e w'=>∃g,e=.returned (.tuple #[.slice (some ⟨g,0,none⟩) 16 16,.int .i64 0])∧w'.ownsRow w.heap.size 39 1 (.slice (some ⟨g,0,none⟩) 16 16) 16 (uv (encN lv sq l block))∧Below w.heap.size w w':=by
 obtain ⟨i0,hi0,hz0,hz1,hz2⟩:=info_parts u64_info
 have hval:=(valid_iff lv sq l).1 hv
 have HV:=Hi (refValid_any lv sq A c n l (w.alloc (.cells #[.int .i64 lv,.int .i64 sq,.slice A n c] 129)) hn (hA.alloc _) hl (by omega))
 rw[hv] at HV
 obtain ⟨q1,q2,q3,q4,q5,hasc⟩:=hval
 rw[hn] at q5
 have HASC:=Hi hasc
 have HL:=Hi hn
 have hb0:Below w.heap.size w (w.alloc (.cells #[.int .i64 lv,.int .i64 sq,.slice A n c] 129)):=(Below.refl _ _).alloc (Nat.le_refl _) _
 obtain ⟨c0,c1,c2⟩:=box_cells (w:=w) (lv:=lv) (sq:=sq) (A:=A) (n:=n) (c:=c)
 have HH:Hid (hdN 2 lv l.length block=hdN 2 lv n block):=by show _=_;rw[hn]
 clear hv hn hasc
 go_enter Tryz.func79,Tryz.ntmps79
 go_wp2_with fail
 refine HV.out.mono ?_
 rintro e w1 ⟨rfl,hb1⟩
 have hz:w.heap.size<w1.heap.size:=by have:=hb1.size;simp at this;omega
 have d0:=(hb1.cell (p:=⟨w.heap.size,0,none⟩) (by simp)).trans c0
 have d1:=(hb1.cell (p:=⟨w.heap.size,1,none⟩) (by simp)).trans c1
 have d2:=(hb1.cell (p:=⟨w.heap.size,2,none⟩) (by simp)).trans c2
 have hbw1:=hb0.trans (hb1.mono hb0.size)
 have D1:=Hi d1
 have D2:=Hi d2
 clear c0 c1 c2 hb0 hb1 HV
 go_wp2_with (at_make;refine wpList_make_full _ rfl _ _ _ rfl w1.heap.size 39 i0 _ 1 Tryz.underlying27 hi0 hz0 hz1 .i64 .i64 _ _ 16 rfl rfl rfl rfl ?_ ?_ ?_ ?_)
 ·rw[hz2];omega
 ·simp only[maxLen];omega
 ·exact Nat.le_refl _
 intro w2 hown hg
 rw[replicate_uvB] at hown
 have hb2:Below w1.heap.size w1 w2:=(Below.refl _ w1).grown hg (Nat.le_refl _) (by intro k hk;cases hk)
 have c0:=(hb2.cell (p:=⟨w.heap.size,0,none⟩) hz).trans d0
 have c1:=(hb2.cell (p:=⟨w.heap.size,1,none⟩) hz).trans d1
 have c2:=(hb2.cell (p:=⟨w.heap.size,2,none⟩) hz).trans d2
 have hbw2:=hbw1.trans (hb2.mono hbw1.size)
 have hlt:w1.heap.size<w2.heap.size:=(hown.lt _ rfl).2
 have HO:=Hi hown
 clear d0 d1 d2 hown hg
 go_wp2_with fail
 refine (refHeader_any 2 lv n block w2).mono ?_
 rintro e w3 ⟨rfl,rfl⟩
 have hown3:=HO.out
 have hf:=hown3.frozenAt 0
 have hc:=hown3.cellAt 0 (by omega)
 rw[uv_at _ _ (by simp)] at hc
 have hst:=(hown3.stored 0 (.int .u64 ((hdN 2 lv n block:Nat):Int))).1
 rw[uv_set,←HH.out] at hst
 have hh:=hdN_lt 2 lv n block
 rw[←HH.out] at hh
 have HST:Hid ((w2.setCell ⟨w1.heap.size,0,none⟩ (.int .u64 ((hdN 2 lv l.length block:Nat):Int))).ownsRow w1.heap.size 39 1 (.slice (some ⟨w1.heap.size,0,none⟩) 16 16) 16 (uv (encTo (hdN 2 lv l.length block) l 0))):=hst
 have HEN:Hid (encP lv sq l block=(encTo (hdN 2 lv l.length block) l l.length).set 15 sq.toNat):=rfl
 rw[←HH.out]
 have hbs:=hb2.setCell (p:=⟨w1.heap.size,0,none⟩) (Nat.le_refl _) (.int .u64 ((hdN 2 lv l.length block:Nat):Int))
 generalize hdN 2 lv l.length block=h at *
 clear hst hown3 HO HH
 go_wp2_with fail
 generalize (w2.setCell _ _)=w4 at HST hbs ⊢
 clear hc hf c0 c1 c2
 go_loopw [8] (fun i wr=>∃k:Nat,k≤n∧i=.int .i64 k∧wr.ownsRow w1.heap.size 39 1 (.slice (some ⟨w1.heap.size,0,none⟩) 16 16) 16 (uv (encTo h l k))∧Below w1.heap.size w1 wr) (fun i _=>n - (intOf i).toNat)
 case atStart=>exact ⟨0,Nat.zero_le _,rfl,HST.out,hbs⟩
 case round=>
  obtain ⟨k,hk,rfl,hown,hbr⟩:=hrel
  have d2:=(hbr.cell (p:=⟨w.heap.size,2,none⟩) hz).trans D2.out
  by_cases hlt2:k<n
  ·obtain ⟨b,off,rfl,hbl,hc⟩:=hA.e (by rw[HL.out];omega)
   obtain ⟨g1,g2⟩:=hc k (by rw[HL.out];omega)
   have hbwr:=hbw1.trans (hbr.mono hbw1.size)
   have f1:=(hbwr.cell (p:=⟨b,off+k * 2,none⟩) hbl).trans g1
   have f2:=(hbwr.cell (p:=⟨b,off+k * 2+1,none⟩) hbl).trans g2
   have hkey:=ascF_at (-1) l k HASC.out (by rw[HL.out];omega)
   have HSET:Hid (encTo h l (k+1)=((encTo h l k).set (1+k) (l[k]?.getD (0,0)).1.toNat).set (8+k) (l[k]?.getD (0,0)).2):=rfl
   obtain ⟨x,ex⟩ :∃x,(l[k]?.getD (0,0)).1=x:=⟨_,rfl⟩
   obtain ⟨y,ey⟩ :∃y,(l[k]?.getD (0,0)).2=y:=⟨_,rfl⟩
   rw[ex] at f1 hkey HSET
   rw[ey] at f2 HSET
   clear ex ey
   obtain ⟨z,rfl⟩ :∃z:Nat,x=(z:Int):=⟨x.toNat,by omega⟩
   rw[Int.toNat_natCast] at HSET
   have x1:=hown.frozenAt (1+k)
   have x2:=hown.frozenAt (8+k)
   have y1:=hown.cellAt (1+k) (by omega)
   have y2:=hown.cellAt (8+k) (by omega)
   rw[uv_at _ _ (by rw[encTo_length];omega)] at y1 y2
   have hst1:=hown.stored (1+k) (.int .u64 (z:Int))
   have hst2:=(hst1.1.stored (8+k) (.int .u64 (y:Int))).1
   rw[uv_set,uv_set,←HSET.out] at hst2
   have HST2:=Hi hst2
   have hne:b≠w1.heap.size:=by omega
   have hne2:w.heap.size≠w1.heap.size:=by omega
   have hb6:=(hbr.setCell (p:=⟨w1.heap.size,1+k,none⟩) (Nat.le_refl _) (.int .u64 (z:Int))).setCell (p:=⟨w1.heap.size,8+k,none⟩) (Nat.le_refl _) (.int .u64 (y:Int))
   clear hst1 hst2 hc g1 g2 hown HSET
   go_wp2_with fail
   go_roundw
   case rel=>exact ⟨k+1,by omega,by go_num,HST2.out,hb6⟩
   case measure=>simp[intOf];omega
  ·have hke:k=n:=by omega
   have HLL:Hid (k=l.length):=by show _=_;rw[HL.out];exact hke
   have hbwr:=hbw1.trans (hbr.mono hbw1.size)
   obtain ⟨sq',rfl⟩ :∃s:Nat,sq=(s:Int):=⟨sq.toNat,by omega⟩
   have d1:=(hbr.cell (p:=⟨w.heap.size,1,none⟩) hz).trans D1.out
   have hf:=hown.frozenAt 15
   have hc:=hown.cellAt 15 (by omega)
   rw[uv_at _ _ (by rw[encTo_length];omega)] at hc
   have hst:=(hown.stored 15 (.int .u64 (sq':Int))).1
   have ep:(encTo h l k).set 15 sq'=encP lv (sq':Int) l block:=by rw[HEN.out,←HLL.out];rfl
   rw[uv_set,ep] at hst
   have hbs:=hbr.setCell (p:=⟨w1.heap.size,15,none⟩) (Nat.le_refl _) (.int .u64 (sq':Int))
   have hbws:=hbwr.setCell (p:=⟨w1.heap.size,15,none⟩) (Nat.le_of_lt hz) (.int .u64 (sq':Int))
   have hpl:(encP lv (sq':Int) l block).length=16:=by rw[HEN.out,List.length_set,encTo_length]
   have hpw:W64 (encP lv (sq':Int) l block):=by rw[HEN.out];exact (encTo_w _ _ _ hh hl).set _ _ (by omega)
   have HR:=Hi (Reads.of_own hst)
   have HPL:=Hi hpl
   clear hst ep hke hown hpl
   go_wp2_with fail
   refine (refSeal_any _ 16 16 (encP lv (sq':Int) l block) _ HPL.out HR.out hpw (by omega)).mono ?_
   rintro e w7 ⟨g,rfl,hown7,hb7⟩
   have HO7:=Hi hown7
   have hsz:=hbws.size
   clear hown7 hc hf d1
   go_wp2_with fail
   go_ret2
   exact ⟨g,rfl,own_lower HO7.out hsz,hbws.trans (hb7.mono hsz)⟩
def encR (lv sq:Int) (l:List (Int × Nat)) (block:Int):List Nat:=if encE lv sq l block=0 then encN lv sq l block else []
theorem encE_zero {lv sq:Int} {l:List (Int × Nat)} {block:Int} (h:encE lv sq l block=0):validN lv sq l=0∧0≤block∧block<4096:=by
 unfold encE at h
 by_cases hv:validN lv sq l=0
 ·rw[if_neg (by omega)] at h
  by_cases hb:block<0∨4096≤block
  ·rw[if_pos hb] at h;omega
  ·exact ⟨hv,by omega,by omega⟩
 ·rw[if_pos hv] at h;exact absurd h hv
theorem sealN_length (l:List Nat) (h:l.length≤16):(sealN l).length=16:=by rw[sealN,List.length_set,padN_length l h]
theorem encP_length (lv sq:Int) (l:List (Int × Nat)) (block:Int):(encP lv sq l block).length=16:=by rw[encP,List.length_set,encTo_length]
theorem encN_length (lv sq:Int) (l:List (Int × Nat)) (block:Int):(encN lv sq l block).length=16:=sealN_length _ (by rw[encP_length];omega)
theorem sealW_lt (x s:Nat) (hx:x<18446744073709551616) (hs:s<65536):sealW x s<18446744073709551616:=by
 refine or_lt (clearS_lt x hx) ?_
 rw[Nat.shiftLeft_eq];omega
theorem padN_w (l:List Nat) (hl:W64 l):W64 (padN l):=by
 intro x hx
 rcases List.mem_append.1 hx with h|h
 ·exact hl x h
 ·have:=List.eq_of_mem_replicate h;omega
theorem sealN_w (l:List Nat) (hl:W64 l):W64 (sealN l):=(padN_w l hl).set _ _ (sealW_lt _ _ ((padN_w l hl).at 0) (sumN_lt _))
theorem encP_w (lv sq:Int) (l:List (Int × Nat)) (block:Int) (hl:E64 l) (h:sq≤16777215):W64 (encP lv sq l block):=(encTo_w _ _ _ (hdN_lt _ _ _ _) hl).set _ _ (by omega)
theorem encN_w (lv sq:Int) (l:List (Int × Nat)) (block:Int) (hl:E64 l) (h:sq≤16777215):W64 (encN lv sq l block):=sealN_w _ (encP_w lv sq l block hl h)
theorem encR_w (lv sq:Int) (l:List (Int × Nat)) (block:Int) (hl:E64 l):W64 (encR lv sq l block):=by
 unfold encR
 split
 ·rename_i h
  have:=(valid_iff _ _ _).1 (encE_zero h).1
  exact encN_w _ _ _ _ hl (by omega)
 ·intro x hx;cases hx
end
end Go.Proofs.YtplhdjdkobddnaaGreat
