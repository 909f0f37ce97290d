/- Decimal numerals; words with blanks between. -/
import Derived.Test.YtgilednciofkiaaGreatDoorM3
import Derived.Test.YtgilednciofkiaaGreatDoorC
import Derived.Test.YtgilednciofkiaaGreatDoorC1
import Derived.Test.YtgilednciofkiaaGreatDoorI
set_option linter.unusedSimpArgs false
set_option linter.unusedVariables false
namespace Go.Jq
theorem decF_fuel:∀ {f u:Nat},u < 10 ^ (f+1)→decF f u=decF (f+1) u:=by
  intro f
  induction f with
  | zero=>intro u h;simp at h;simp [decF,h]
  | succ f ih =>
    intro u h
    show (if u < 10 then [UInt8.ofNat (48+u)] else decF f (u / 10)++[UInt8.ofNat (48+u % 10)])=if u < 10 then [UInt8.ofNat (48+u)] else decF (f+1) (u / 10)++[UInt8.ofNat (48+u % 10)]
    split
    · rfl
    · rw [ih (by rw [Nat.pow_succ] at h;omega)]
def dec (u:Nat):List UInt8:=decF 20 u
theorem dec_small {u:Nat} (h:u < 10):dec u=[UInt8.ofNat (48+u)]:=by unfold dec decF;rw [if_pos h]
theorem dec_big {u:Nat} (h:¬ u < 10) (hu:u < 2 ^ 64):dec u=dec (u / 10)++[UInt8.ofNat (48+u % 10)]:=by
  show (if u < 10 then [UInt8.ofNat (48+u)] else decF 19 (u / 10)++[UInt8.ofNat (48+u % 10)])=_
  rw [if_neg h,decF_fuel (by omega)];rfl
theorem itoaF_eq {n:Int}:itoaF n=if n < 0 then 45::dec n.natAbs else dec n.toNat:=rfl
theorem decF_len:∀ {f u:Nat},(decF f u).length≤f+1:=by
  intro f
  induction f with
  | zero=>intro u;simp [decF]
  | succ f ih =>
    intro u
    unfold decF
    split
    · simp
    · have:=ih (u:=u / 10);simp;omega
theorem itoaF_len {n:Int}:(itoaF n).length≤22:=by
  unfold itoaF
  split
  · have:=decF_len (f:=20) (u:=n.natAbs);simp;omega
  · have:=decF_len (f:=20) (u:=n.toNat);omega
def valD (l:List UInt8):Nat:=l.foldl (fun a d=>a * 10+(d.toNat - 48)) 0
theorem valD_snoc {l:List UInt8} {d:UInt8}:valD (l++[d])=valD l * 10+(d.toNat - 48):=by simp [valD]
theorem dig_toNat {k:Nat} (h:k < 10):(UInt8.ofNat (48+k)).toNat=48+k:=by simp;omega
theorem valD_dec:∀ {u:Nat},u < 2 ^ 64→valD (dec u)=u:=by
  intro u
  induction u using Nat.strongRecOn with
  | _ u ih =>
    intro hu
    by_cases h:u < 10
    · rw [dec_small h]
      show 0 * 10+((UInt8.ofNat (48+u)).toNat - 48)=u
      rw [dig_toNat h];omega
    · rw [dec_big h hu,valD_snoc,ih (u / 10) (by omega) (by omega),dig_toNat (by omega)]
      omega
theorem dec_digit:∀ {u:Nat},u < 2 ^ 64→∀ d ∈ dec u,48≤d.toNat∧d.toNat≤57:=by
  intro u
  induction u using Nat.strongRecOn with
  | _ u ih =>
    intro hu d hd
    by_cases h:u < 10
    · rw [dec_small h] at hd
      simp only [List.mem_singleton] at hd
      subst hd
      rw [dig_toNat h];omega
    · rw [dec_big h hu,List.mem_append,List.mem_singleton] at hd
      rcases hd with hd | hd
      · exact ih (u / 10) (by omega) (by omega) d hd
      · subst hd
        rw [dig_toNat (by omega)];omega
theorem dec_ne {u:Nat} (hu:u < 2 ^ 64):dec u ≠ []:=by
  intro e
  by_cases h:u < 10
  · rw [dec_small h] at e;simp at e
  · rw [dec_big h hu] at e;simp at e
theorem dec_inj {u v:Nat} (hu:u < 2 ^ 64) (hv:v < 2 ^ 64) (e:dec u=dec v):u=v:=by
  rw [← valD_dec hu,← valD_dec hv,e]
def I64 (n:Int):Prop:=-9223372036854775808≤n∧n≤9223372036854775807
theorem itoaF_inj {a b:Int} (ha:I64 a) (hb:I64 b) (e:itoaF a=itoaF b):a=b:=by
  unfold I64 at ha hb
  rw [itoaF_eq,itoaF_eq] at e
  have mn:∀ {u:Nat} {l:List UInt8},u < 2 ^ 64→dec u ≠ 45::l:=fun {u l} hu e=>by
    have:=dec_digit hu 45 (by rw [e];simp)
    simp at this
  by_cases h1:a < 0
  · by_cases h2:b < 0
    · rw [if_pos h1,if_pos h2] at e
      have:=dec_inj (by omega) (by omega) (List.cons.inj e).2
      omega
    · rw [if_pos h1,if_neg h2] at e
      exact absurd e.symm (mn (by omega))
  · by_cases h2:b < 0
    · rw [if_neg h1,if_pos h2] at e
      exact absurd e (mn (by omega))
    · rw [if_neg h1,if_neg h2] at e
      have:=dec_inj (by omega) (by omega) e
      omega
def jn (ws:List (List UInt8)):List UInt8:=Lib.join ws [32]
theorem jn_cons {a b:List UInt8} {r:List (List UInt8)}:jn (a::b::r)=a++(32::jn (b::r)):=by
  unfold jn
  rw [Lib.join_cons,Lib.join_cons]
  simp [Lib.joinTail]
theorem jn_ne {ws:List (List UInt8)} (h:ws ≠ []) (hw:∀ w ∈ ws,w ≠ []):jn ws ≠ []:=by
  match ws,h with
  | [a],_=>simpa [jn,Lib.join_one] using hw a (by simp)
  | a::b::r,_=>rw [jn_cons];simp
end Go.Jq
namespace Go.Jq
variable {G:Nat→SFunc} {h:AH} {R:Value→AH→Prop}
theorem sstr_l {a b:List UInt8} (h:a.length+b.length≤9223372036854775807):sstr .add ⟨a.toArray⟩ ⟨b.toArray⟩=some (.string ⟨(a++b).toArray⟩):=by
  have e:((⟨a.toArray⟩:ByteArray)++⟨b.toArray⟩)=⟨(a++b).toArray⟩:=by
    apply ByteArray.ext
    simp
  have s:∀ l:List UInt8,(⟨l.toArray⟩:ByteArray).size=l.length:=fun l=>by simp [ByteArray.size]
  unfold sstr
  simp only [s]
  rw [if_neg (by omega),e]
end Go.Jq
namespace Go.Jq
variable {G:Nat→SFunc} {h:AH} {R:Value→AH→Prop}
def endC (A:List Int):List Value:=A.map (Value.int .i64)
def atI (A:List Int) (i:Nat):Int:=A[i]?.getD 0
def strC (w:List UInt8):List Value:=[.string ⟨w.toArray⟩]
structure EndOk (A:List Int):Prop where
  len:A.length=20
  i64:∀ x ∈ A,I64 x
theorem EndOk.at {A:List Int} (o:EndOk A) (i:Nat):I64 (atI A i):=by
  unfold atI
  by_cases h:i < A.length
  · rw [List.getElem?_eq_getElem h];exact o.i64 _ (List.getElem_mem h)
  · rw [List.getElem?_eq_none (by omega)];exact ⟨by simp,by simp⟩
theorem I64.small {n:Nat} (h:n≤1000):I64 (n:Int):=⟨by omega,by omega⟩
theorem str_words {ws:List (List UInt8)}:strsOf (ws.flatMap strC)=some (ws.map fun w=>⟨w.toArray⟩):=by
  induction ws with
  | nil=>rfl
  | cons w ws ih =>
    rw [List.flatMap_cons]
    show strsOf (.string ⟨w.toArray⟩::ws.flatMap strC)=_
    simp only [strsOf,ih,List.map_cons]
structure PrgT (p:Prg):Prop where
  ths:1≤p.ths.length∧p.ths.length≤4
  locs:p.locs.length≤4
  chr:∀ c ∈ p.locs,0 < c∧c < 128∧c ≠ 32
theorem PrgT.at {p:Prg} (o:PrgT p) {i:Nat} (hi:i < p.locs.length):0 < atI p.locs i∧atI p.locs i < 128∧atI p.locs i ≠ 32:=by
  unfold atI
  rw [List.getElem?_eq_getElem hi]
  exact o.chr _ (List.getElem_mem hi)
structure PrgL (h:AH) (p:Prg) (lv tv:Value):Prop where
  locs:SlV 1 h p.locs.length (p.locs.flatMap bytC) lv
  ths:∃ a c,tv=.slice a p.ths.length c
theorem PrgV.l {p:Prg} {lv iv tv:Value} (P:PrgV h p lv iv tv):PrgL h p lv tv:=⟨P.locs,P.ths.len⟩
theorem PrgL.ext {h1:AH} {p:Prg} {lv tv:Value} (P:PrgL h p lv tv) (x:Ext h h1):PrgL h1 p lv tv:=⟨P.locs.ext x,P.ths⟩
theorem PrgL.put {p:Prg} {lv tv:Value} {A:List Int} {b:Nat} {g ro:Bool} {o:ABlk} (P:PrgL h p lv tv) (hb:h.get b=.cells (endC A) g ro):PrgL (h.put b o) p lv tv:=by
  refine ⟨?_,P.ths⟩
  obtain ⟨s1,s2⟩:=P.locs
  refine ⟨s1,?_⟩
  rcases s2 with s2 | ⟨b',o',sp,c,c0,g',ro',e1,e2,e3,e4,e5⟩
  · exact .inl s2
  · by_cases hz:p.locs.length=0
    · rw [hz] at e1
      exact .inl ⟨hz,_,_,e1⟩
    · refine .inr ⟨b',o',sp,c,c0,g',ro',e1,by simpa using e2,?_,e4,e5⟩
      rw [AH.put_get,if_neg]
      · exact e3
      · rintro rfl
        rw [hb] at e3
        simp only [ABlk.cells.injEq] at e3
        obtain ⟨rfl,_⟩:=e3
        match hl:p.locs,hz with
        | x :: r, _ =>
          rw [hl] at e5
          have hm:Value.int .u8 x ∈ endC A:=List.mem_of_mem_drop (List.mem_of_mem_take (by rw [e5];simp [bytC]))
          unfold endC at hm
          obtain ⟨y,_,hy⟩:=List.mem_map.1 hm
          simp at hy
end Go.Jq
