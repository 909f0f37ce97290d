/- A thread's unfolding: the document's. -/
import Derived.Test.YteobailpkkljpaaGreatDoorK
import Derived.Test.YteobailpkkljpaaGreatDoorI
set_option linter.unusedSimpArgs false
set_option linter.unusedVariables false
namespace Go.Jq
variable {G:Nat→SFunc} {h h0 h1:AH} {R:Value→AH→Prop}
theorem nrm_pc{th:List Ins}(l:Lcl):l.pc≤(nrm th l).pc:=by
 generalize hm:th.length-l.pc=m
 induction m using Nat.strongRecOn generalizing l with
 | _ m ih=>
  rw[nrm]
  split
  ·rename_i hl
   split
   ·exact Nat.le_trans (by show l.pc≤l.pc+1;omega) (ih _ (by show th.length-(l.pc+1)<m;omega) _ rfl)
   ·split
    ·split
     ·exact Nat.le_trans (by show l.pc≤l.pc+1+1;omega) (ih _ (by show th.length-(l.pc+1+1)<m;omega) _ rfl)
     ·exact Nat.le_trans (by show l.pc≤l.pc+1;omega) (ih _ (by show th.length-(l.pc+1)<m;omega) _ rfl)
    ·exact Nat.le_refl _
  ·exact Nat.le_refl _
theorem aft_pc{th:List Ins}{l:Lcl}{i:Ins}{x:Int}(h:nextM th l=some i):l.pc<(aftM th l x).pc:=by
 unfold aftM
 rw[h]
 have:=nrm_pc (th:=th) { (if i.kind=2∨i.kind=4 then l.set i.reg x else l)with pc:=l.pc+1 }
 simp at this ⊢;omega
def e6(t:Int)(n:Nat)(e:Evt):Ev6:=⟨t,n,e.kind,e.loc,e.r,e.w⟩
def unfM(th:List Ins)(t:Int)(reads:List Int)(l:Lcl)(n:Nat):List Ev6×Lcl×Bool:=
 match hq:nextM th l with
 | none=>([],l,false)
 | some i=>
  if i.kind=2∨i.kind=4 then
   match reads with
   | []=>([],l,true)
   | v::rs=>(e6 t n (evtM i l v)::(unfM th t rs (aftM th l v) (n+1)).1,(unfM th t rs (aftM th l v) (n+1)).2)
  else(e6 t n (evtM i l 0)::(unfM th t reads (aftM th l 0) (n+1)).1,(unfM th t reads (aftM th l 0) (n+1)).2)
termination_by th.length-l.pc
decreasing_by
 all_goals
  have h1:=(nextM_mem hq).2.1
  first
   | (have h2:=aft_pc (x:=v) hq;omega)
   | (have h2:=aft_pc (x:=0) hq;omega)
theorem unf_none{th:List Ins}{t:Int}{reads:List Int}{l:Lcl}{n:Nat}(h:nextM th l=none):unfM th t reads l n=([],l,false):=by
 rw[unfM];split
 ·rfl
 ·rename_i i q;rw[h]at q;simp at q
theorem unf_stop{th:List Ins}{t:Int}{l:Lcl}{n:Nat}{i:Ins}(h:nextM th l=some i)(hk:i.kind=2∨i.kind=4):unfM th t [] l n=([],l,true):=by
 rw[unfM];split
 ·rename_i q;rw[h]at q;simp at q
 ·rename_i j q
  rw[h]at q;obtain rfl:=Option.some.inj q
  rw[if_pos hk]
theorem unf_read{th:List Ins}{t:Int}{l:Lcl}{n:Nat}{i:Ins}{v:Int}{rs:List Int}(h:nextM th l=some i)(hk:i.kind=2∨i.kind=4):unfM th t (v::rs) l n=(e6 t n (evtM i l v)::(unfM th t rs (aftM th l v) (n+1)).1,(unfM th t rs (aftM th l v) (n+1)).2):=by
 rw[unfM];split
 ·rename_i q;rw[h]at q;simp at q
 ·rename_i j q
  rw[h]at q;obtain rfl:=Option.some.inj q
  rw[if_pos hk]
theorem unf_on{th:List Ins}{t:Int}{l:Lcl}{n:Nat}{i:Ins}{rs:List Int}(h:nextM th l=some i)(hk:¬(i.kind=2∨i.kind=4)):unfM th t rs l n=(e6 t n (evtM i l 0)::(unfM th t rs (aftM th l 0) (n+1)).1,(unfM th t rs (aftM th l 0) (n+1)).2):=by
 rw[unfM];split
 ·rename_i q;rw[h]at q;simp at q
 ·rename_i j q
  rw[h]at q;obtain rfl:=Option.some.inj q
  rw[if_neg hk]
theorem unf_len{th:List Ins}{t:Int}:∀(m:Nat) (reads:List Int) (l:Lcl) (n:Nat),th.length-l.pc≤m→(unfM th t reads l n).1.length≤m:=by
 intro m
 induction m with
 | zero=>
  intro reads l n hm
  have:nextM th l=none:=by unfold nextM;rw[dif_neg (by omega)]
  rw[unf_none this];simp
 | succ m ih=>
  intro reads l n hm
  cases e:nextM th l with
  | none=>rw[unf_none e];simp
  | some i=>
   have hl:=(nextM_mem e).2.1
   by_cases hk:i.kind=2∨i.kind=4
   ·cases reads with
    | nil=>rw[unf_stop e hk];simp
    | cons v rs=>
     rw[unf_read e hk]
     have:=ih rs (aftM th l v) (n+1) (by have:=aft_pc (x:=v) e;omega)
     simp;omega
   ·rw[unf_on e hk]
    have:=ih reads (aftM th l 0) (n+1) (by have:=aft_pc (x:=0) e;omega)
    simp;omega
@[simp] theorem Clean_lcl {n:Nat} {l:Lcl}:Clean n l.v=True:=eq_true (by simp[Lcl.v,Lcl.c])
@[simp] theorem Clean_ins {n:Nat} {i:Ins}:Clean n i.v=True:=eq_true (by simp[Ins.v,Ins.c])
@[simp] theorem Clean_evt {n:Nat} {e:Evt}:Clean n e.v=True:=eq_true (by simp[Evt.v])
@[simp] theorem Clean_next {n:Nat} {th:List Ins} {l:Lcl}:Clean n (nextV th l)=True:=eq_true (by unfold nextV;split<;>simp[Ins.v,Ins.c])
end Go.Jq
namespace Go.Jq
variable {G:Nat→SFunc} {h h0 h1:AH} {R:Value→AH→Prop}
theorem Nest.xt{α:Type}{f:α→List Value}{k:Nat}{ths:List (List α)}{v:Value}(n:Nest f k h ths v)(x:Xt h h1):Nest f k h1 ths v:=by
 obtain⟨tvs,h1,h2⟩:=n
 exact⟨tvs,h1.xt x,h2.imp fun _ _ _ _ s=>s.xt x⟩
theorem PrgV.xt{p:Prg}{lv iv tv:Value}(v:PrgV h p lv iv tv)(x:Xt h h1):PrgV h1 p lv iv tv:=⟨v.locs.xt x,v.init.xt x,v.ths.xt x⟩
def Kl(h:AH)(vs:List Value):AH:=⟨h.next,fun b=>if ∃v∈vs,blkOf v=some b then .dead else h.get b⟩
section
variable {vs vs1:List Value}
@[simp] theorem Kl.next:(Kl h vs).next=h.next:=rfl
theorem Kl.xt:Xt (Kl h vs) h:=⟨Nat.le_refl _,fun b c g ro _ e=>by
 simp only[Kl]at e
 split at e
 ·simp at e
 ·exact e⟩
theorem Kl.get{b:Nat}(h1:∀v∈vs,blkOf v≠some b):(Kl h vs).get b=h.get b:=if_neg fun⟨v,m,e⟩=>h1 v m e
theorem Kl.up{b:Nat}{c:List Value}{g ro:Bool}(e:(Kl h vs).get b=.cells c g ro):(∀v∈vs,blkOf v≠some b)∧h.get b=.cells c g ro:=by
 simp only[Kl]at e
 split at e
 ·simp at e
 ·rename_i q;exact⟨fun v m x=>q ⟨v,m,x⟩,e⟩
theorem Kl.ext(x:Ext h h1):Xt (Kl h vs) (Kl h1 vs):=⟨x.next,fun b c g ro hb e=>by
 obtain⟨q1,q2⟩:=Kl.up e
 rw[Kl.get q1,x.get b hb];exact q2⟩
theorem Kl.chg(hn:h.next≤h1.next)(hg:∀b,b<h.next→(∀v∈vs,blkOf v≠some b)→h1.get b=h.get b)(hv:∀v1∈vs1,∀b,blkOf v1=some b→(∃v∈vs,blkOf v=some b)∨h.next≤b):Xt (Kl h vs) (Kl h1 vs1):=⟨hn,fun b c g ro hb e=>by
 obtain⟨q1,q2⟩:=Kl.up e
 have hb:b<h.next:=hb
 rw[Kl.get (fun v m e=>by
  rcases hv v m b e with⟨w,mw,ew⟩|q
  ·exact q1 w mw ew
  ·omega),hg b hb q1];exact q2⟩
theorem Kl.nil:Xt h (Kl h [.slice none 0 0]):=⟨Nat.le_refl _,fun b c g ro _ e=>by rw[Kl.get (by simp[blkOf])];exact e⟩
theorem SlX.kl{k n:Nat}{cs:List Value}{u:Value}(s:SlX k h n cs u)(hu:∀b,blkOf u=some b→∀v∈vs,blkOf v≠some b):SlX k (Kl h vs) n cs u:=by
 obtain⟨s1,s2⟩:=s
 refine⟨s1,?_⟩
 rcases s2 with s2|⟨b,o,sp,c,c0,g,ro,rfl,e6,e7,e2,e3,e4,e5⟩
 ·exact .inl s2
 ·exact .inr ⟨b,o,sp,c,c0,g,ro,rfl,e6,e7,e2,by rw[Kl.get (hu b rfl)];exact e3,e4,e5⟩
end
def NestO(lo:Nat)(h:AH)(L:List (List Ev6))(v:Value):Prop:=∃tvs,SlG 1 h lo L.length tvs v∧All2 (fun(l:List Ev6) u=>SlX 6 (Kl h [v]) l.length (l.flatMap Ev6.c) u∧∀b,blkOf u=some b→lo≤b) L tvs
section
variable {lo:Nat} {L:List (List Ev6)} {v:Value}
theorem NestO.nil:NestO lo h [] (.slice none 0 0):=⟨[],SlG.nil,.nil⟩
theorem NestO.ext(o:NestO lo h L v)(x:Ext h h1):NestO lo h1 L v:=by
 obtain⟨tvs,s,a⟩:=o
 exact⟨tvs,s.ext x,a.imp fun _ _ _ _ q=>⟨q.1.xt (Kl.ext x),q.2⟩⟩
theorem NestO.len(o:NestO lo h L v):∃a c,v=.slice a L.length c:=by
 obtain⟨tvs,s,a⟩:=o;exact s.len
theorem NestO.x(o:NestO lo h L v):NestX Ev6.c 6 h L v:=by
 obtain⟨tvs,s,a⟩:=o
 exact⟨tvs,s.x,a.imp fun _ _ _ _ q=>q.1.xt Kl.xt⟩
theorem NestO.same(o:NestO lo h L v)(hn:h.next≤h1.next)(hg:∀b,lo≤b→b<h.next→h1.get b=h.get b):NestO lo h1 L v:=by
 obtain⟨tvs,s,a⟩:=o
 refine⟨tvs,s.up hn hg,a.imp fun _ u _ _ q=>⟨?_,q.2⟩⟩
 refine q.1.same hn fun b e=>?_
 have hb:=q.1.lt e
 have hl:=q.2 b e
 simp only[Kl]
 rw[hg b hl hb]
end
structure ValV(h:AH)(values:List (List Int))(vws:List Value):Prop where
 len:vws.length=4
 lenU:values.length=4
 row:∀j (hu:j<values.length) (hv:j<vws.length),SlX 1 h values[j].length (values[j].flatMap intC) vws[j]
 small:∀l∈values,l.length≤1000000
theorem ValV.xt{values:List (List Int)}{vws:List Value}(U:ValV h values vws)(x:Xt h h1):ValV h1 values vws:=⟨U.len,U.lenU,fun t hu hv=>(U.row t hu hv).xt x,U.small⟩
end Go.Jq
namespace Go.Jq
variable {G:Nat→SFunc} {h h0 h1:AH} {R:Value→AH→Prop}
def iniE(p:Prg)(i:Nat):Ev6:=⟨-1,i,2,i,0,intA p.init i⟩
def initsM(p:Prg):List Ev6:=(List.range p.locs.length).map (iniE p)
def rdI(i:Ins):Bool:=decide (i.kind=2)||decide (i.kind=4)
def RowO(h:AH)(cs:List Int)(v:Value):Prop:=(cs=[]∧v=.slice none 0 0)∨∃b sp g,b<h.next∧h.get b=.cells (cs.flatMap intC) g false∧(sp=none∨sp=some 1)∧0<cs.length∧v=.slice (some ⟨b,0,sp⟩) cs.length cs.length
theorem fmI_len{cs:List Int}:(cs.flatMap intC).length=cs.length:=by induction cs with
 | nil=>rfl
 | cons a l ih=>simp[List.flatMap_cons,intC,ih]
theorem RowO.len{cs:List Int}{v:Value}(r:RowO h cs v):∃a c,v=.slice a cs.length c:=by
 rcases r with⟨rfl,rfl⟩|⟨b,sp,g,_,_,_,_,rfl⟩
 ·exact⟨_,_,rfl⟩
 ·exact⟨_,_,rfl⟩
theorem RowO.x{cs:List Int}{v:Value}(r:RowO h cs v):SlX 1 h cs.length (cs.flatMap intC) v:=by
 have e:(cs.flatMap intC).length=cs.length:=fmI_len
 rcases r with⟨rfl,rfl⟩|⟨b,sp,g,h1,h2,h3,h4,rfl⟩
 ·exact SlX.nil
 ·exact⟨by omega,.inr ⟨b,0,sp,_,_,g,false,rfl,h3,Nat.le_refl _,h1,h2,by omega,by rw[List.drop_zero,List.take_of_length_le (by omega)]⟩⟩
theorem RowO.xt{cs:List Int}{v:Value}(r:RowO h cs v)(x:Xt h h1):RowO h1 cs v:=by
 rcases r with r|⟨b,sp,g,h1,h2,h3,h4,rfl⟩
 ·exact .inl r
 ·exact .inr ⟨b,sp,g,Nat.lt_of_lt_of_le h1 x.next,x.get _ _ _ _ h1 h2,h3,h4,rfl⟩
theorem RowO.lt{cs:List Int}{v:Value}(r:RowO h cs v){b:Nat}(e:blkOf v=some b):b<h.next:=r.x.lt e
theorem RowO.app{cs:List Int}{v:Value}{w:Int}{K:Value→AH→Prop}(r:RowO h cs v)(hl:cs.length≤1000000)
  (k:∀h1 v1,h.next≤h1.next→(∀b,b<h.next→blkOf v≠some b→h1.get b=h.get b)→RowO h1 (cs++[w]) v1→(∀b,blkOf v1=some b→h.next≤b)→K v1 h1):
  getvh (sappend (h.lays [.cells [.int .i64 w] false false]) 1 8 v (.slice (some ⟨h.next,0,none⟩) 1 1)) K:=by
 have e:(cs.flatMap intC).length=cs.length:=fmI_len
 have hf:firstOf (h.lays [.cells [.int .i64 w] false false]) 1 1 (.slice (some ⟨h.next,0,none⟩) 1 1)=some [.int .i64 w]:=by
  show(h.lays [.cells [.int .i64 w] false false]).load h.next 0 (1*1)=_
  simp[AH.load]
 rcases r with⟨rfl,rfl⟩|⟨b,sp,g,hb,h2,h3,h4,rfl⟩
 ·have:sappend (h.lays [.cells [.int .i64 w] false false]) 1 8 (.slice none 0 0) (.slice (some ⟨h.next,0,none⟩) 1 1)=some (.slice (some ⟨h.next+1,0,some 1⟩) 1 1,(h.lays [.cells [.int .i64 w] false false]).alloc (.cells [.int .i64 w] true false)):=by
   unfold sappend
   simp only[lenOf,hf]
   simp
  rw[this,getvh_some]
  refine k _ _ (by simp) (fun b hb _=>by rw[AH.alloc_get,if_neg (by simp;omega),AH.lays_lt hb]) (.inr ⟨h.next+1,some 1,true,by simp,by simp[intC],.inr rfl,by simp,by simp⟩) (fun b hb=>by simp[blkOf]at hb;omega)
 ·have h2':(h.lays [.cells [.int .i64 w] false false]).get b=.cells (cs.flatMap intC) g false:=by rw[AH.lays_lt hb];exact h2
  have hld:(h.lays [.cells [.int .i64 w] false false]).load b (0:Nat) (cs.length*1)=some (cs.flatMap intC):=load_all h2' (by omega)
  have e2:(cs++[w]).flatMap intC=cs.flatMap intC++[.int .i64 w]:=by simp[intC]
  rcases h3 with rfl|rfl
  ·have:sappend (h.lays [.cells [.int .i64 w] false false]) 1 8 (.slice (some ⟨b,0,none⟩) cs.length cs.length) (.slice (some ⟨h.next,0,none⟩) 1 1)=some (.slice (some ⟨h.next+1,0,some 1⟩) (cs.length+1) (cs.length+1),(h.lays [.cells [.int .i64 w] false false]).alloc (.cells (cs.flatMap intC++[.int .i64 w]) true false)):=by
    unfold sappend
    simp only[lenOf,hf]
    rw[if_neg (by omega),if_neg (by omega),hld,h2']
    simp
   rw[this,getvh_some]
   refine k _ _ (by simp) (fun b hb _=>by rw[AH.alloc_get,if_neg (by simp;omega),AH.lays_lt hb]) (.inr ⟨h.next+1,some 1,true,by simp,by rw[AH.alloc_get,if_pos (by simp),e2],.inr rfl,by simp,by simp⟩) (fun b hb=>by simp[blkOf]at hb;omega)
  ·have:sappend (h.lays [.cells [.int .i64 w] false false]) 1 8 (.slice (some ⟨b,0,some 1⟩) cs.length cs.length) (.slice (some ⟨h.next,0,none⟩) 1 1)=some (.slice (some ⟨h.next+1,0,some 1⟩) (cs.length+1) (cs.length+1),((h.lays [.cells [.int .i64 w] false false]).put b .dead).alloc (.cells (cs.flatMap intC++[.int .i64 w]) true false)):=by
    unfold sappend
    simp only[lenOf,hf]
    rw[if_neg (by omega),if_neg (by omega),hld,h2']
    simp
   rw[this,getvh_some]
   refine k _ _ (by simp[AH.put_next]) (fun y hy hne=>by rw[AH.alloc_get,if_neg (by simp[AH.put_next];omega),AH.put_get,if_neg (fun e=>hne (by rw[e];rfl)),AH.lays_lt hy]) (.inr ⟨h.next+1,some 1,true,by simp[AH.put_next],by rw[AH.alloc_get,if_pos (by simp[AH.put_next]),e2],.inr rfl,by simp,by simp⟩) (fun b hb=>by simp[blkOf]at hb;omega)
end Go.Jq
namespace Go.Jq
variable {G:Nat→SFunc} {h h0 h1:AH} {R:Value→AH→Prop}
def valsN(p:Prg)(i:Nat):List (List Int):=(List.range 4).map fun j=>if j<i then [intA p.init j]else []
end Go.Jq
namespace Go.Jq
variable {G:Nat→SFunc} {h h0 h1:AH}
def uvA(uvs:List Value)(t:Nat):Value:=(uvs[t]?).getD (.slice none 0 0)
theorem Xt.put{b:Nat}{o:ABlk}(x:Xt h h1)(hb:h.next≤b):Xt h (h1.put b o):=⟨x.next,fun y c g ro hy e=>by rw[AH.put_get,if_neg (by omega)];exact x.get y c g ro hy e⟩
theorem RowO.put{cs:List Int}{v:Value}{b:Nat}{o:ABlk}(r:RowO h cs v)(hb:∀y,blkOf v=some y→y≠b):RowO (h.put b o) cs v:=by
 rcases r with r|⟨b',sp,g,h1,h2,h3,h4,rfl⟩
 ·exact .inl r
 ·exact .inr ⟨b',sp,g,h1,by rw[AH.put_get,if_neg (hb b' rfl)];exact h2,h3,h4,rfl⟩
structure VS(h hh:AH)(pc:List Value)(T:Nat)(vals:List (List Int))(vvs:List Value)(bu:Nat)(uvs:List Value):Prop where
 xt:Xt h hh
 gp:hh.get h.next=.cells pc false false
 gv:hh.get (h.next+1)=.cells vvs false false
 gu:hh.get bu=.cells uvs false false
 lu:h.next+2≤bu
 ul:bu<hh.next
 vl:vvs.length=4
 valL:vals.length=4
 row:∀j (a:j<vals.length) (b:j<vvs.length),RowO hh vals[j] vvs[j]
 dis:∀i j (a:i<vvs.length) (b:j<vvs.length),i≠j→∀y,blkOf vvs[i]=some y→blkOf vvs[j]≠some y
 own:∀v∈vvs,∀y,blkOf v=some y→h.next+2≤y∧y≠bu
 ul4:uvs.length=4
 tail:∀t,T≤t→uvA uvs t=.slice none 0 0
section
variable {hh:AH} {pc:List Value} {T bu:Nat} {vals:List (List Int)} {vvs uvs:List Value}
theorem VS.store {uvs' : List Value} (s : VS h hh pc T vals vvs bu uvs) (x : Xt hh h1) (hu : uvs'.length = 4) (ht : ∀ t, T ≤ t → uvA uvs' t = .slice none 0 0) : VS h (h1.put bu (.cells uvs' false false)) pc T vals vvs bu uvs' := by
  have n1 := s.ul
  have n2 := s.lu
  have nx := x.next
  exact { xt := (s.xt.trans x).put (by omega)
          gp := by rw [AH.put_get, if_neg (by omega)]; exact x.get _ _ _ _ (by omega) s.gp
          gv := by rw [AH.put_get, if_neg (by omega)]; exact x.get _ _ _ _ (by omega) s.gv
          gu := by rw [AH.put_get, if_pos rfl]
          lu := n2
          ul := by rw [AH.put_next]; omega
          vl := s.vl
          valL := s.valL
          row := fun j a b => ((s.row j a b).xt x).put fun y e => (s.own _ (List.getElem_mem b) y e).2
          dis := s.dis
          own := s.own
          ul4 := hu
          tail := ht }
end
theorem NestO.xt{lo:Nat}{L:List (List Ev6)}{v:Value}(o:NestO lo h L v)(x:Xt h h1):NestO lo h1 L v:=by
 obtain⟨tvs,s,a⟩:=o
 have km:Xt (Kl h [v]) (Kl h1 [v]):=⟨x.next,fun b c g ro hb e=>by
  obtain⟨q1,q2⟩:=Kl.up e
  rw[Kl.get q1];exact x.get _ _ _ _ hb q2⟩
 refine⟨tvs,?_,a.imp fun _ _ _ _ q=>⟨q.1.xt km,q.2⟩⟩
 obtain⟨s1,s2⟩:=s
 refine⟨s1,?_⟩
 rcases s2 with s2|⟨b,b1,b2,b3,b4⟩
 ·exact .inl s2
 ·exact .inr ⟨b,b1,Nat.lt_of_lt_of_le b2 x.next,x.get _ _ _ _ b2 b3,b4⟩
end Go.Jq
namespace Go.Jq
variable {G:Nat→SFunc} {h h0 h1:AH}
theorem RowO.same{cs:List Int}{v:Value}(r:RowO h cs v)(hn:h.next≤h1.next)(hg:∀b,blkOf v=some b→h1.get b=h.get b):RowO h1 cs v:=by
 rcases r with r|⟨b,sp,g,h1,h2,h3,h4,rfl⟩
 ·exact .inl r
 ·exact .inr ⟨b,sp,g,Nat.lt_of_lt_of_le h1 hn,by rw[hg b rfl];exact h2,h3,h4,rfl⟩
section
variable {hh:AH} {pc:List Value} {T bu:Nat} {vals:List (List Int)} {vvs uvs:List Value}
theorem VS.go (s : VS h hh pc T vals vvs bu uvs) (x : Xt hh h1) : VS h h1 pc T vals vvs bu uvs := by
  have n1 := s.ul
  have n2 := s.lu
  have nx := x.next
  exact { xt := s.xt.trans x
          gp := x.get _ _ _ _ (by omega) s.gp
          gv := x.get _ _ _ _ (by omega) s.gv
          gu := x.get _ _ _ _ (by omega) s.gu
          lu := n2
          ul := by omega
          vl := s.vl
          valL := s.valL
          row := fun j a b => (s.row j a b).xt x
          dis := s.dis
          own := s.own
          ul4 := s.ul4
          tail := s.tail }
theorem VS.upd {i : Nat} {cs : List Int} {v v1 : Value} (s : VS h hh pc T vals vvs bu uvs) (hi : i < vvs.length) (hv : vvs[i] = v) (hn : hh.next ≤ h1.next) (hg : ∀ b, b < hh.next → blkOf v ≠ some b → h1.get b = hh.get b) (r : RowO h1 cs v1)
    (hb : ∀ b, blkOf v1 = some b → blkOf v = some b ∨ hh.next ≤ b) : VS h (h1.put (h.next + 1) (.cells (vvs.set i v1) false false)) pc T (vals.set i cs) (vvs.set i v1) bu uvs := by
  have n1 := s.ul
  have n2 := s.lu
  subst hv
  have ow : ∀ y, blkOf vvs[i] = some y → h.next + 2 ≤ y ∧ y ≠ bu := s.own _ (List.getElem_mem hi)
  have ow1 : ∀ y, blkOf v1 = some y → h.next + 2 ≤ y ∧ y ≠ bu := fun y e => by
    rcases hb y e with q | q
    · exact ow y q
    · omega
  have low : ∀ b, b < h.next + 2 → h1.get b = hh.get b := fun b hb => hg b (by omega) fun e => by have := (ow b e).1; omega
  exact { xt := by
            refine Xt.put ⟨by have := s.xt.next; omega, fun b c g ro hb e => ?_⟩ (by omega)
            rw [low b (by omega)]; exact s.xt.get _ _ _ _ hb e
          gp := by rw [AH.put_get, if_neg (by omega), low _ (by omega)]; exact s.gp
          gv := by rw [AH.put_get, if_pos rfl]
          gu := by rw [AH.put_get, if_neg (by omega), hg _ n1 fun e => (ow _ e).2 rfl]; exact s.gu
          lu := n2
          ul := by rw [AH.put_next]; omega
          vl := by rw [List.length_set]; exact s.vl
          valL := by rw [List.length_set]; exact s.valL
          row := fun j a b => by
            by_cases e : i = j
            · subst e
              simp only [List.getElem_set_self]
              exact r.put fun y e => by have := (ow1 y e).1; omega
            · simp only [List.getElem_set_ne e]
              rw [List.length_set] at a b
              have rj := s.row j a b
              refine (rj.same hn fun y e2 => hg y (rj.lt e2) (s.dis j i b hi (fun x => e x.symm) y e2)).put fun y e2 => ?_
              have := (s.own _ (List.getElem_mem b) y e2).1
              omega
          dis := fun a b ha hb' hne y e => by
            rw [List.length_set] at ha hb'
            by_cases e1 : i = a
            · subst e1
              rw [List.getElem_set_self] at e
              rw [List.getElem_set_ne hne]
              rcases hb y e with q | q
              · exact s.dis _ _ hi hb' hne y q
              · exact fun e2 => by have := (s.row b (by rw [s.valL, ← s.vl]; exact hb') hb').lt e2; omega
            · rw [List.getElem_set_ne e1] at e
              by_cases e2 : i = b
              · subst e2
                rw [List.getElem_set_self]
                intro e3
                rcases hb y e3 with q | q
                · exact s.dis _ _ ha hi hne y e q
                · have := (s.row a (by rw [s.valL, ← s.vl]; exact ha) ha).lt e; omega
              · rw [List.getElem_set_ne e2]
                exact s.dis a b ha hb' hne y e
          own := fun v m y e => by
            rcases List.mem_or_eq_of_mem_set m with m | rfl
            · exact s.own v m y e
            · exact ow1 y e
          ul4 := s.ul4
          tail := s.tail }
end
structure VV(h hs hu hh:AH)(pc:List Value)(T:Nat)(vals:List (List Int))(vvs:List Value)(bu:Nat)(uvs:List Value):Prop where
 s:VS h hh pc T vals vvs bu uvs
 lo:bu<hs.next
 le1:hs.next≤hu.next
 le2:hu.next≤hh.next
 ag:∀b,hs.next≤b→b<hu.next→hh.get b=hu.get b
 sep:∀v∈vvs,∀y,blkOf v=some y→y<hs.next∨hu.next≤y
section
variable {hs hu hh:AH} {pc:List Value} {T bu:Nat} {vals:List (List Int)} {vvs uvs:List Value}
theorem VV.lays{L:List ABlk}(s:VV h hs hu hh pc T vals vvs bu uvs):VV h hs hu (hh.lays L) pc T vals vvs bu uvs:=
 ⟨s.s.go Ext.lays.xt,s.lo,s.le1,by simp;have:=s.le2;omega,fun b h1 h2=>by rw[AH.lays_lt (by have:=s.le2;omega)];exact s.ag b h1 h2,s.sep⟩
theorem VV.upd{i:Nat}{cs:List Int}{v v1:Value}(s:VV h hs hu hh pc T vals vvs bu uvs)(hi:i<vvs.length)(hv:vvs[i]=v)(hn:hh.next≤h1.next)(hg:∀b,b<hh.next→blkOf v≠some b→h1.get b=hh.get b)(r:RowO h1 cs v1)
  (hb:∀b,blkOf v1=some b→blkOf v=some b∨hh.next≤b):VV h hs hu (h1.put (h.next+1) (.cells (vvs.set i v1) false false)) pc T (vals.set i cs) (vvs.set i v1) bu uvs:=by
 have n1:=s.s.lu
 have n2:=s.lo
 have n3:=s.le2
 have sp:∀y,blkOf v=some y→y<hs.next∨hu.next≤y:=by subst hv;exact s.sep _ (List.getElem_mem hi)
 refine⟨s.s.upd hi hv hn hg r hb,n2,s.le1,by rw[AH.put_next];omega,fun b h1 h2=>?_,fun w m y e=>?_⟩
 ·rw[AH.put_get,if_neg (by omega),hg b (by omega) fun e=>by have:=sp b e;omega]
  exact s.ag b h1 h2
 ·rcases List.mem_or_eq_of_mem_set m with m|rfl
  ·exact s.sep w m y e
  ·rcases hb y e with q|q
   ·exact sp y q
   ·omega
end
end Go.Jq
namespace Go.Jq
variable {G:Nat→SFunc} {h h0 h1:AH}
def lenA(vals:List (List Int))(j:Nat):Nat:=((vals[j]?).getD []).length
section
variable {hh:AH} {pc:List Value} {T bu:Nat} {vals:List (List Int)} {vvs uvs:List Value}
theorem VS.at(s:VS h hh pc T vals vvs bu uvs){j:Nat}(hj:j<4):∃a c,vvs[j]?=some (.slice a (lenA vals j) c):=by
 have a:j<vals.length:=by rw[s.valL];exact hj
 have b:j<vvs.length:=by rw[s.vl];exact hj
 obtain⟨x,y,e⟩:=(s.row j a b).len
 refine⟨x,y,?_⟩
 rw[List.getElem?_eq_getElem b,e]
 unfold lenA
 rw[List.getElem?_eq_getElem a];rfl
end
end Go.Jq
namespace Go.Jq
variable {G:Nat→SFunc} {h h0 h1:AH} {R:Value→AH→Prop}
def OutS(h:AH)(L:List Exe)(v:Value):Prop:=(∀x∈L,Sm x)∧∃ws,SlG 3 h 0 L.length (ws.flatMap c3) v∧All2 (ExW h) L ws
theorem OutS.nil:OutS h [] (.slice none 0 0):=⟨by simp,[],SlG.nil,.nil⟩
theorem ExW.xt{x:Exe}{w:Value×Value×Value}(e:ExW h x w)(y:Xt h h1):ExW h1 x w:=ExeV.xt e y
def vvI(b i:Nat):List Value:=(List.range 4).map fun j=>if j<i then .slice (some ⟨b+(j+2),0,none⟩) 1 1 else .slice none 0 0
def rwI(p:Prg)(i:Nat):List ABlk:=(List.range i).map fun j=>.cells [.int .i64 (intA p.init j)] false false
theorem vvI_len{b i:Nat}:(vvI b i).length=4:=by simp[vvI]
theorem vvI_get{b i j:Nat}(hj:j<(vvI b i).length):(vvI b i)[j]=if j<i then .slice (some ⟨b+(j+2),0,none⟩) 1 1 else .slice none 0 0:=by
 simp[vvI]
theorem valsN_get{p:Prg}{i j:Nat}(hj:j<(valsN p i).length):(valsN p i)[j]=if j<i then [intA p.init j]else []:=by
 simp[valsN]
theorem rwI_len{p:Prg}{i:Nat}:(rwI p i).length=i:=by simp[rwI]
theorem uvA0{t:Nat}:uvA [.slice none 0 0,.slice none 0 0,.slice none 0 0,.slice none 0 0] t=.slice none 0 0:=by
 unfold uvA
 match t with
 | 0=>rfl
 | 1=>rfl
 | 2=>rfl
 | 3=>rfl
 | n+4=>rfl
theorem vs0 {p : Prg} {hs : AH} {pc : List Value} {T : Nat} (hloc : p.locs.length ≤ 4) (e : hs = h.lays (.cells pc false false :: .cells (vvI h.next p.locs.length) false false :: (rwI p p.locs.length ++ [.cells [.slice none 0 0, .slice none 0 0, .slice none 0 0, .slice none 0 0] false false]))) :
    VS h hs pc T (valsN p p.locs.length) (vvI h.next p.locs.length) (h.next + (p.locs.length + 2)) [.slice none 0 0, .slice none 0 0, .slice none 0 0, .slice none 0 0] := by
  have hn : hs.next = h.next + (p.locs.length + 3) := by rw [e]; simp [rwI_len]
  have g0 : ∀ j, j < p.locs.length → hs.get (h.next + (j + 2)) = .cells [.int .i64 (intA p.init j)] false false := fun j hj => by
    rw [e, AH.lays_get]
    simp [rwI]
    rw [List.getElem?_append_left (by simpa using hj), List.getElem?_map, List.getElem?_range hj]; rfl
  have hx : Ext h hs := by rw [e]; exact .lays
  exact { xt := hx.xt
          gp := by rw [e]; simp
          gv := by rw [e]; simp
          gu := by
            rw [e, AH.lays_get]
            simp [rwI]
          lu := by omega
          ul := by omega
          vl := vvI_len
          valL := by simp [valsN]
          row := fun j a b => by
            rw [vvI_get b]
            rw [valsN_get a]
            by_cases hj : j < p.locs.length
            · rw [if_pos hj, if_pos hj]
              exact .inr ⟨_, none, false, by omega, by rw [g0 j hj]; rfl, .inl rfl, by simp, rfl⟩
            · rw [if_neg hj, if_neg hj]
              exact .inl ⟨rfl, rfl⟩
          dis := fun i j a b hne y => by
            rw [vvI_get a, vvI_get b]
            split
            · split
              · simp [blkOf]; omega
              · simp [blkOf]
            · simp [blkOf]
          own := fun v m y => by
            obtain ⟨j, hj, rfl⟩ := List.getElem_of_mem m
            rw [vvI_get hj]
            split
            · simp [blkOf]; omega
            · simp [blkOf]
          ul4 := rfl
          tail := fun t _ => uvA0 }
end Go.Jq
namespace Go.Jq
structure ShO(nl:Nat)(x:Exe):Prop where
 rf:x.rf.length=x.evs.length
 rfo:rfOk x.evs.length x.rf
 co:∀l∈x.co,∀i∈l,(0:Int)≤i∧i<x.evs.length
 ne:∀l∈x.co,0<l.length
 cn:x.co.length≤nl
 le:nl≤x.evs.length
structure Shp(nl:Nat)(x:Exe):Prop extends ShO nl x where
 all:x.co.length=nl
theorem Shp.sound{nl:Nat}{x:Exe}(s:Shp nl x)(m:Sm x):soundM x=true:=by
 unfold soundM
 simp only[Bool.and_eq_true,decide_eq_true_eq,Bool.not_eq_true',List.any_eq_false,badB,Bool.or_eq_true,not_or,Int.not_lt,Int.not_le,List.any_eq_true,not_exists,not_and]
 exact⟨by have:=m.evs;omega,s.rf,fun i hi=>s.rfo i hi,fun l hl i hi=>s.co l hl i hi⟩
theorem Sm.ok{x:Exe}(m:Sm x):ExeOk x:=⟨by have:=m.evs;omega,by have:=m.co;omega,fun l hl=>by have:=m.rows l hl;omega⟩
end Go.Jq
namespace Go.Jq
end Go.Jq
