/- strings.IndexByte. -/
import Derived.Test.YtmlpmdccfmmpoaaGreatDoorFds
import Derived.Lib.Builder
import Derived.Lib.Walk
import Derived.Lib.Bytealg
import Derived.Laws.StandIn
import Derived.Shelf.RegionOpenPlain
import Derived.WalkKit
section
set_option linter.unusedSimpArgs false
set_option linter.unusedVariables false
set_option maxHeartbeats 2000000
set_option maxRecDepth 100000
namespace Go.Proofs.YtmlpmdccfmmpoaaGreatDoor
open E Go.RowKit

theorem A6w (s:ByteArray) (c:Int) (w:World) :
  Calls Tryz.prog 223 #[.string s,.int .u8 c] w fun e w'=>e=.returned (.int .i64 (Lib.indexByte s.data.toList c.toNat.toUInt8))∧w'=w:=by
 have hX : ∀(args:Array Value) (w:World),(callFunc 226 args).run Tryz.prog w=((Extern.BytealgIndexByte.indexByte args).run Tryz.prog w).andThen fun v w'=>.ok (.value v) w':=
  fun args w=>run_callFunc_indexByte Tryz.func226 (by kernel_rfl) (by kernel_rfl) (by kernel_rfl) (by kernel_rfl) args w
 have hY : ∀W:World,(Extern.BytealgIndexByte.indexByte #[.string s,.int .u8 c]).run Tryz.prog W=.ok (.int .i64 (Lib.indexByte s.data.toList c.toNat.toUInt8)) W:=fun W=>Lib.run_indexByteString s c W
 have hZ : ∀W:World,(callFunc 226 #[.string s,.int .u8 c]).run Tryz.prog W=.ok (.value (.int .i64 (Lib.indexByte s.data.toList c.toNat.toUInt8))) W:=fun W=>by rw [hX,hY];rfl
 go_enter Tryz.func223,Tryz.ntmps223
 go_wp2
 go_ret
 exact⟨rfl,rfl⟩

theorem A4h {us:Array Value} (h:us.size=2):us = #[us.getD 0 undef,us.getD 1 undef]:=by
 apply Array.ext
 ·simp [h]
 ·intro i h1 h2
  rcases (by omega:i=0∨i=1) with rfl|rfl<;>simp [Array.getD,h]
theorem A6x (s:List UInt8) (c:Int):A7 Tryz.prog 223 [vS s,vY c] (vI (Lib.indexByte s c.toNat.toUInt8)):=by
 refine⟨Tryz.call223,fun g w us hI hus hrel=>?_⟩
 have hr0:=hrel 0 (by simp)
 have hr1:=hrel 1 (by simp)
 simp only [List.getD_cons_zero,List.getD_cons_succ] at hr0 hr1
 rw [A4h hus]
 generalize us.getD 0 undef=u0 at hr0
 generalize us.getD 1 undef=u1 at hr1
 cases hr0 with
 | t _ _ h0=>
 cases hr1 with
 | t _ _ h1=>
 cases h0
 cases h1
 refine (A6w _ _ w).mono ?_
 rintro e w' ⟨rfl,rfl⟩
 exact⟨_,g,rfl,.t _ _ (.int _ _),Mv.refl hI⟩
theorem A4i (s:List UInt8) (c:Int):A7 Tryz.prog 206 [vS s,vY c] (vI (Lib.indexByte s c.toNat.toUInt8)):=by
 have h:=A6x s c
 generalize Lib.indexByte s c.toNat.toUInt8=r at *
 (refine A7.of_code mix Tryz.call206 k_206 (by simp) (fun hB=>?_);(try simp at hB);(try simp -implicitDefEqProofs))
 ((try simp at h);(try simp -implicitDefEqProofs);repeat' first|(with_reducible apply A0<;>first|(simp only [eras,era,A1];first|with_reducible assumption)|(simp -implicitDefEqProofs)))
end Go.Proofs.YtmlpmdccfmmpoaaGreatDoor
end

/- Chapter 31: token.next, token.Value. -/
section
set_option linter.unusedSimpArgs false
set_option linter.unusedVariables false
set_option maxHeartbeats 2000000
set_option maxRecDepth 8000
namespace Go.Proofs.YtmlpmdccfmmpoaaGreatDoor
open E

abbrev vSL (l:List (List UInt8)):V:=.t (.sl (l.map fun x=>[T.str x]))
theorem A6y (l:List (List UInt8)) (s:List UInt8):A7 Tryz.prog 220 [vSL l,vS s] (vI (Hr (fun y=>decide (s=y)) l)):=by
 (refine A7.of_code mix Tryz.call220 k_220 (by simp) (fun hB=>?_);(try simp at hB);(try simp -implicitDefEqProofs))
 refine Ac (X:=Nat) (fun k=>k≤l.length∧∀y∈l.take k,decide (s=y)=false) (fun k=>[(0,vSL l),(1,vS s),(7,vI l.length),(8,vI k)]) (fun _=>St0) (fun k=>l.length-k) 0 ⟨by simp,by simp⟩ (by simp) ?_
 rintro k ⟨hk,hn⟩ hbd
 rcases Nat.lt_or_ge k l.length with hlt|hge
 ·have hx:l[k]?=some l[k]:=by simp [hlt]
  have e3:IntKind.i64.wrap ((k:Int)+1)=(k:Int)+1:=wrap64 (by omega) (by simp [maxLen] at hB;omega)
  by_cases hq:s=l[k]
  ·have hR:=H1 hx hn (q:=fun y=>decide (s=y)) (by simpa using hq)
   rw [hR]
   have hq':(s==l[k])=true:=by simpa using hq
   (try simp -implicitDefEqProofs [hlt,hq',e3])
  ·have hq':(s==l[k])=false:=by simpa using hq
   (try simp -implicitDefEqProofs [hlt,hq',e3])
   refine⟨k+1,⟨by omega,fun y hy=>?_⟩,by omega,by push_cast;rfl⟩
   rw [Ag hx] at hy
   rcases List.mem_append.1 hy with h1|h1
   ·simpa using hn y h1
   ·simp at h1;subst h1;simpa using hq
 ·have:k=l.length:=by omega
  subst this
  rw [List.take_length] at hn
  rw [F7 hn]
  (try simp -implicitDefEqProofs)
theorem A4j (l:List (List UInt8)) (s:List UInt8):A7 Tryz.prog 204 [vSL l,vS s] (vB (l.any fun y=>decide (s=y))):=by
 have hi:=A6y l s
 rw [←F8]
 generalize Hr (fun y=>decide (s=y)) l=r at *
 (refine A7.of_code mix Tryz.call204 k_204 (by simp) (fun hB=>?_);(try simp at hB);(try simp -implicitDefEqProofs))
 ((try simp at hi);(try simp -implicitDefEqProofs);repeat' first|(with_reducible apply A0<;>first|(simp only [eras,era,A1];first|with_reducible assumption)|(simp -implicitDefEqProofs)))

def A1i:List UInt8:=[123,125,40,41,44,59,61,43,45,42,60,62]
def Dt:List UInt8→Int | []=>0|c::_=>(c.toNat:Int)
def Du (s:List UInt8):Int×Nat:=
 if Lv (Dt s)=true then (1,Ec Mq s) else
 if G7 (Dt s)=true then (2,Ec G7 s) else
 if (decide (1<s.length)&&A1h.any (fun y=>decide (s.take 2=y)))=true then (3,2) else
 if decide (0≤Lib.indexByte A1i (Dt s).toNat.toUInt8)=true then (3,1) else (0,0)
theorem Lw (s:List UInt8) (h:s≠[]):(Du s).2≤s.length:=by
 have h1:=Kw Mq s
 have h2:=Kw G7 s
 have h3:1≤s.length:=by rcases s with _|⟨c,s⟩;exact absurd rfl h;simp
 unfold Du
 split
 ·exact h1
 split
 ·exact h2
 split
 ·rename_i h;simp at h;simp;omega
 split<;>simp<;>omega
theorem Je (s:List UInt8) (h:s≠[]) (hk:(Du s).1≠0):1≤(Du s).2:=by
 rcases s with _|⟨c,s⟩
 ·exact absurd rfl h
 unfold Du at *
 by_cases h1:Lv (Dt (c::s))=true
 ·rw [if_pos h1]
  simp only [Dt] at h1
  simp only [Ec];rw [if_pos (by simp [Mq,h1])];omega
 rw [if_neg h1] at hk ⊢
 by_cases h2:G7 (Dt (c::s))=true
 ·rw [if_pos h2]
  simp only [Dt] at h2
  simp only [Ec];rw [if_pos h2];omega
 rw [if_neg h2] at hk ⊢
 split
 ·simp
 rename_i h3
 rw [if_neg h3] at hk
 split
 ·simp
 ·rename_i h4
  rw [if_neg h4] at hk
  simp at hk
theorem A4k (S:List UInt8) (hne:0<S.length) (hs:S.length≤1000000):A7 Tryz.prog 168 [vS S] (.tup [vI (Du S).1,vI (Du S).2]):=by
 have hb:An S 0=Dt S:=by rcases S with _|⟨c,S⟩;simp at hne;rfl
 have hc0:0≤Dt S:=by unfold Dt;split<;>omega
 have h1:=Qd (Dt S)
 have h2:=Kv (Dt S)
 have h3:=Yl Mq _ A6v S (by simpa using hs)
 have h4:=Yl G7 _ Kv S (by simpa using hs)
 have h5:=Yo
 have h6:=A4j A1h (S.take 2)
 have h7:=A4i A1i (Dt S)
 unfold Du
 unfold A4f at h5
 have hsg:A1i=[123,125,40,41,44,59,61,43,45,42,60,62]:=rfl
 have ht:((S.take 2).drop 0)=S.take 2:=by simp
 generalize hq:S.take 2=q at *
 generalize Dt S=c at *
 generalize Lv c=a at *
 generalize G7 c=b at *
 generalize Ec Mq S=r1 at *
 generalize Ec G7 S=r2 at *
 generalize (A1h.any fun y=>decide (q=y))=d at *
 generalize Lib.indexByte A1i c.toNat.toUInt8=g at *
 rw [hsg] at h7
 (refine A7.of_code mix Tryz.call168 k_168 (by simp) (fun hB=>?_);(try simp at hB);(try simp -implicitDefEqProofs))
 cases a
 ·cases b
  ·by_cases hlen:1<S.length
   ·have hl1:decide (1<(S.length:Int))=true:=by simp;omega
    have hl2:(2:Int)≤S.length:=by omega
    cases d
    ·by_cases hg:0≤g
     ·((try simp at h1 h2 h3 h4 h5 h6 h7);(try simp -implicitDefEqProofs [hb,hne,hlen,hl1,hl2,hg,hq]);repeat' first|(with_reducible apply A0<;>first|(simp only [eras,era,A1];first|with_reducible assumption)|(simp -implicitDefEqProofs [hb,hne,hlen,hl1,hl2,hg,hq])))
     ·((try simp at h1 h2 h3 h4 h5 h6 h7);(try simp -implicitDefEqProofs [hb,hne,hlen,hl1,hl2,hg,hq]);repeat' first|(with_reducible apply A0<;>first|(simp only [eras,era,A1];first|with_reducible assumption)|(simp -implicitDefEqProofs [hb,hne,hlen,hl1,hl2,hg,hq])))
    ·((try simp at h1 h2 h3 h4 h5 h6 h7);(try simp -implicitDefEqProofs [hb,hne,hlen,hl1,hl2,hq]);repeat' first|(with_reducible apply A0<;>first|(simp only [eras,era,A1];first|with_reducible assumption)|(simp -implicitDefEqProofs [hb,hne,hlen,hl1,hl2,hq])))
   ·have hl1:decide (1<(S.length:Int))=false:=by simp;omega
    by_cases hg:0≤g
    ·((try simp at h1 h2 h3 h4 h5 h6 h7);(try simp -implicitDefEqProofs [hb,hne,hlen,hl1,hg,hq]);repeat' first|(with_reducible apply A0<;>first|(simp only [eras,era,A1];first|with_reducible assumption)|(simp -implicitDefEqProofs [hb,hne,hlen,hl1,hg,hq])))
    ·((try simp at h1 h2 h3 h4 h5 h6 h7);(try simp -implicitDefEqProofs [hb,hne,hlen,hl1,hg,hq]);repeat' first|(with_reducible apply A0<;>first|(simp only [eras,era,A1];first|with_reducible assumption)|(simp -implicitDefEqProofs [hb,hne,hlen,hl1,hg,hq])))
  ·((try simp at h1 h2 h3 h4 h5 h6 h7);(try simp -implicitDefEqProofs [hb,hne]);repeat' first|(with_reducible apply A0<;>first|(simp only [eras,era,A1];first|with_reducible assumption)|(simp -implicitDefEqProofs [hb,hne])))
 ·((try simp at h1 h2 h3 h4 h5 h6 h7);(try simp -implicitDefEqProofs [hb,hne]);repeat' first|(with_reducible apply A0<;>first|(simp only [eras,era,A1];first|with_reducible assumption)|(simp -implicitDefEqProofs [hb,hne])))
end Go.Proofs.YtmlpmdccfmmpoaaGreatDoor
end

/- Chapter 31: token.Value. -/
section
set_option linter.unusedSimpArgs false
set_option linter.unusedVariables false
set_option maxHeartbeats 2000000
set_option maxRecDepth 8000
namespace Go.Proofs.YtmlpmdccfmmpoaaGreatDoor
open E

def Tb:Nat→List UInt8→Option Nat
 | n,[]=>some n
 | n,c::s=>if 1000000000000<10*n+(c.toNat-48) then none else Tb (10*n+(c.toNat-48)) s
def Tc (k:Int) (s:List UInt8):Int×Bool:=
 if k=2∧s≠[]∧Ec G7 s=s.length then (match Tb 0 s with|some n=>((n:Int),true)|none=>(0,false)) else (0,false)
theorem Qe (p:Int→Bool) : ∀(s:List UInt8),Ec p s=s.length→∀j:Nat,j<s.length→p (s.getD j 0).toNat=true
 | [],_,j,hj=>by simp at hj
 | c::s,h,0,_=>by
  simp only [Ec] at h
  split at h
  ·simpa
  ·simp at h
 | c::s,h,j+1,hj=>by
  simp only [Ec] at h
  split at h
  ·have:=Qe p s (by simp only [List.length_cons] at h;omega) j (by simpa using hj)
   simpa using this
  ·simp at h
theorem A1j (k:Int) (s:List UInt8) (fr:Int) (hs:s.length≤1000000):A7 Tryz.prog 169 [.agg [vI k,vS s,vI fr]] (.tup [vI (Tc k s).1,vB (Tc k s).2]):=by
 have hrun:=Yl G7 _ Kv s hs
 have hrl:=Kw G7 s
 have hall:=Qe G7 s
 have hR:=rfl (a:=Tc k s)
 conv at hR=>lhs;unfold Tc
 generalize Tc k s=R at *
 by_cases hk:k=2
 ·by_cases hn:s=[]
  ·subst hn
   rw [if_neg (by simp)] at hR
   subst hR
   subst hk
   (refine A7.of_code mix Tryz.call169 k_169 (by simp) (fun hB=>?_);(try simp at hB);(try simp -implicitDefEqProofs))
   ((try simp at hrun);(try simp -implicitDefEqProofs);repeat' first|(with_reducible apply A0<;>first|(simp only [eras,era,A1];first|with_reducible assumption)|(simp -implicitDefEqProofs)))
  ·have hn':s.isEmpty=false:=by simpa using hn
   by_cases hr:Ec G7 s=s.length
   ·rw [if_pos ⟨hk,hn,hr⟩] at hR
    have hd:=hall hr
    rw [hr] at hrun
    subst hk
    (refine A7.of_code mix Tryz.call169 k_169 (by simp) (fun hB=>?_);(try simp at hB);(try simp -implicitDefEqProofs))
    ((try simp at hrun);(try simp -implicitDefEqProofs [hn,hn']);repeat' first|(with_reducible apply A0<;>first|(simp only [eras,era,A1];first|with_reducible assumption)|(simp -implicitDefEqProofs [hn,hn'])))
    refine Ac (X:=Nat×Nat) (fun X=>X.1≤s.length∧X.2≤1000000000000∧Tb X.2 (s.drop X.1)=Tb 0 s) (fun X=>[(1,.ptr 0 0),(4,vI X.2),(26,.ptr 1 0)]) (fun X=>⟨[.cells [vI 2,vS s,vI fr],.itr s X.1],[]⟩) (fun X=>s.length-X.1) (0,0) ⟨by omega,by omega,by simp⟩ (by simp) ?_
    rintro ⟨p,n⟩ ⟨hp,hnm,hnum⟩ hbd
    simp only [] at hp hnm hnum
    clear hbd
    rcases Nat.lt_or_ge p s.length with h|h
    ·have hx:s.drop p=s.getD p 0::s.drop (p+1):=by
      rw [List.drop_eq_getElem_cons h]
      simp [List.getD_eq_getElem?_getD,h]
     have hdp:=hd p h
     simp only [G7,Bool.and_eq_true,decide_eq_true_eq] at hdp
     obtain⟨d1,d2⟩:=Nb (l:=s) (p:=p) (by omega)
     rw [hx,Tb] at hnum
     generalize (s.getD p 0).toNat=c at *
     have e1:IntKind.i64.wrap (10*(n:Int))=10*(n:Int):=wrap64 (by omega) (by omega)
     have e2:IntKind.i32.wrap ((c:Int)-48)=(c:Int)-48:=by
      unfold IntKind.wrap;simp [IntKind.signed,IntKind.bits];omega
     have e3:IntKind.i64.wrap ((c:Int)-48)=(c:Int)-48:=wrap64 (by omega) (by omega)
     have e4:IntKind.i64.wrap (10*(n:Int)+((c:Int)-48))=10*(n:Int)+((c:Int)-48):=wrap64 (by omega) (by omega)
     by_cases hb:1000000000000<10*n+(c-48)
     ·rw [if_pos hb] at hnum
      rw [←hnum] at hR
      subst hR
      have hb':decide ((1000000000000:Int)<10*(n:Int)+((c:Int)-48))=true:=by simp;omega
      (try simp -implicitDefEqProofs [h,d1,d2,e1,e2,e3,e4,hb'])
     ·rw [if_neg hb] at hnum
      have hb':decide ((1000000000000:Int)<10*(n:Int)+((c:Int)-48))=false:=by simp;omega
      (try simp -implicitDefEqProofs [h,d1,d2,e1,e2,e3,e4,hb'])
      exact⟨p+1,10*n+(c-48),⟨by omega,by omega,hnum⟩,by omega,rfl,by omega⟩
    ·have:p=s.length:=by omega
     subst this
     have:Tb n (s.drop s.length)=some n:=by simp [Tb]
     rw [this] at hnum
     rw [←hnum] at hR
     subst hR
     (try simp -implicitDefEqProofs)
   ·rw [if_neg (fun h=>hr h.2.2)] at hR
    subst hR
    have hr2:decide (Ec G7 s<s.length)=true:=by simp;omega
    subst hk
    (refine A7.of_code mix Tryz.call169 k_169 (by simp) (fun hB=>?_);(try simp at hB);(try simp -implicitDefEqProofs))
    ((try simp at hrun);(try simp -implicitDefEqProofs [hn,hn',hr2]);repeat' first|(with_reducible apply A0<;>first|(simp only [eras,era,A1];first|with_reducible assumption)|(simp -implicitDefEqProofs [hn,hn',hr2])))
 ·rw [if_neg (fun h=>hk h.1)] at hR
  subst hR
  have hk':(k != 2)=true:=by simpa using hk
  (refine A7.of_code mix Tryz.call169 k_169 (by simp) (fun hB=>?_);(try simp at hB);(try simp -implicitDefEqProofs))
  ((try simp at hrun);(try simp -implicitDefEqProofs [hk,hk']);repeat' first|(with_reducible apply A0<;>first|(simp only [eras,era,A1];first|with_reducible assumption)|(simp -implicitDefEqProofs [hk,hk'])))
end Go.Proofs.YtmlpmdccfmmpoaaGreatDoor
end
