/- strings.IndexByte. -/
import Derived.Test.YtmlpmdccfmmpoaaGreatDoorFds
import Derived.Lib.Builder
import Derived.Lib.Walk
import Derived.Lib.Bytealg
import Derived.Laws.StandIn
import Derived.Shelf.RegionOpenPlain
import Derived.WalkKit
section
set_option linter.unusedSimpArgs false
set_option linter.unusedVariables false
set_option maxHeartbeats 2000000
set_option maxRecDepth 100000
namespace Go.Proofs.YtmlpmdccfmmpoaaGreatDoor
open E Go.RowKit

theorem A7a (s:ByteArray) (c:Int) (w:World) :
  Calls Tryz.prog 223 #[.string s,.int .u8 c] w fun e w'=>e=.returned (.int .i64 (Lib.indexByte s.data.toList c.toNat.toUInt8))∧w'=w:=by
 have hX : ∀(args:Array Value) (w:World),(callFunc 226 args).run Tryz.prog w=((Extern.BytealgIndexByte.indexByte args).run Tryz.prog w).andThen fun v w'=>.ok (.value v) w':=
  fun args w=>run_callFunc_indexByte Tryz.func226 (by kernel_rfl) (by kernel_rfl) (by kernel_rfl) (by kernel_rfl) args w
 have hY : ∀W:World,(Extern.BytealgIndexByte.indexByte #[.string s,.int .u8 c]).run Tryz.prog W=.ok (.int .i64 (Lib.indexByte s.data.toList c.toNat.toUInt8)) W:=fun W=>Lib.run_indexByteString s c W
 have hZ : ∀W:World,(callFunc 226 #[.string s,.int .u8 c]).run Tryz.prog W=.ok (.value (.int .i64 (Lib.indexByte s.data.toList c.toNat.toUInt8))) W:=fun W=>by rw [hX,hY];rfl
 go_enter Tryz.func223,Tryz.ntmps223
 go_wp2
 go_ret
 exact⟨rfl,rfl⟩

theorem A4v {us:Array Value} (h:us.size=2):us = #[us.getD 0 undef,us.getD 1 undef]:=by
 apply Array.ext
 ·simp [h]
 ·intro i h1 h2
  rcases (by omega:i=0∨i=1) with rfl|rfl<;>simp [Array.getD,h]
theorem A7b (s:List UInt8) (c:Int):A8 Tryz.prog 223 [vS s,vY c] (vI (Lib.indexByte s c.toNat.toUInt8)):=by
 refine⟨Tryz.call223,fun g w us hI hus hrel=>?_⟩
 have hr0:=hrel 0 (by simp)
 have hr1:=hrel 1 (by simp)
 simp only [List.getD_cons_zero,List.getD_cons_succ] at hr0 hr1
 rw [A4v hus]
 generalize us.getD 0 undef=u0 at hr0
 generalize us.getD 1 undef=u1 at hr1
 cases hr0 with
 | t _ _ h0=>
 cases hr1 with
 | t _ _ h1=>
 cases h0
 cases h1
 refine (A7a _ _ w).mono ?_
 rintro e w' ⟨rfl,rfl⟩
 exact⟨_,g,rfl,.t _ _ (.int _ _),Mv.refl hI⟩
theorem A4w (s:List UInt8) (c:Int):A8 Tryz.prog 206 [vS s,vY c] (vI (Lib.indexByte s c.toNat.toUInt8)):=by
 have h:=A7b s c
 generalize Lib.indexByte s c.toNat.toUInt8=r at *
 (refine A8.of_code mix Tryz.call206 k_206 (by simp) (fun hB=>?_);(try simp at hB);(try simp -implicitDefEqProofs))
 ((try simp at h);(try simp -implicitDefEqProofs);repeat' first|(with_reducible apply A0<;>first|(simp only [eras,era,A1];first|with_reducible assumption)|(simp -implicitDefEqProofs)))
end Go.Proofs.YtmlpmdccfmmpoaaGreatDoor
end

/- Chapter 31: token.next, token.Value. -/
section
set_option linter.unusedSimpArgs false
set_option linter.unusedVariables false
set_option maxHeartbeats 2000000
set_option maxRecDepth 8000
namespace Go.Proofs.YtmlpmdccfmmpoaaGreatDoor
open E

abbrev vSL (l:List (List UInt8)):V:=.t (.sl (l.map fun x=>[T.str x]))
theorem A7c (l:List (List UInt8)) (s:List UInt8):A8 Tryz.prog 220 [vSL l,vS s] (vI (Ix (fun y=>decide (s=y)) l)):=by
 (refine A8.of_code mix Tryz.call220 k_220 (by simp) (fun hB=>?_);(try simp at hB);(try simp -implicitDefEqProofs))
 refine A7 (X:=Nat) (fun k=>k≤l.length∧∀y∈l.take k,decide (s=y)=false) (fun k=>[(0,vSL l),(1,vS s),(7,vI l.length),(8,vI k)]) (fun _=>St0) (fun k=>l.length-k) 0 ⟨by simp,by simp⟩ (by simp) ?_
 rintro k ⟨hk,hn⟩ hbd
 rcases Nat.lt_or_ge k l.length with hlt|hge
 ·have hx:l[k]?=some l[k]:=by simp [hlt]
  have e3:IntKind.i64.wrap ((k:Int)+1)=(k:Int)+1:=wrap64 (by omega) (by simp [maxLen] at hB;omega)
  by_cases hq:s=l[k]
  ·have hR:=Iy hx hn (q:=fun y=>decide (s=y)) (by simpa using hq)
   rw [hR]
   have hq':(s==l[k])=true:=by simpa using hq
   (try simp -implicitDefEqProofs [hlt,hq',e3])
  ·have hq':(s==l[k])=false:=by simpa using hq
   (try simp -implicitDefEqProofs [hlt,hq',e3])
   refine⟨k+1,⟨by omega,fun y hy=>?_⟩,by omega,by push_cast;rfl⟩
   rw [Ag hx] at hy
   rcases List.mem_append.1 hy with h1|h1
   ·simpa using hn y h1
   ·simp at h1;subst h1;simpa using hq
 ·have:k=l.length:=by omega
  subst this
  rw [List.take_length] at hn
  rw [Gv hn]
  (try simp -implicitDefEqProofs)
theorem A4x (l:List (List UInt8)) (s:List UInt8):A8 Tryz.prog 204 [vSL l,vS s] (vB (l.any fun y=>decide (s=y))):=by
 have hi:=A7c l s
 rw [←Gw]
 generalize Ix (fun y=>decide (s=y)) l=r at *
 (refine A8.of_code mix Tryz.call204 k_204 (by simp) (fun hB=>?_);(try simp at hB);(try simp -implicitDefEqProofs))
 ((try simp at hi);(try simp -implicitDefEqProofs);repeat' first|(with_reducible apply A0<;>first|(simp only [eras,era,A1];first|with_reducible assumption)|(simp -implicitDefEqProofs)))

def A1x:List UInt8:=[123,125,40,41,44,59,61,43,45,42,60,62]
def Ds:List UInt8→Int | []=>0|c::_=>(c.toNat:Int)
def Dt (s:List UInt8):Int×Nat:=
 if M3 (Ds s)=true then (1,Eh N8 s) else
 if Gf (Ds s)=true then (2,Eh Gf s) else
 if (decide (1<s.length)&&A1w.any (fun y=>decide (s.take 2=y)))=true then (3,2) else
 if decide (0≤Lib.indexByte A1x (Ds s).toNat.toUInt8)=true then (3,1) else (0,0)
theorem M4 (s:List UInt8) (h:s≠[]):(Dt s).2≤s.length:=by
 have h1:=L5 N8 s
 have h2:=L5 Gf s
 have h3:1≤s.length:=by rcases s with _|⟨c,s⟩;exact absurd rfl h;simp
 unfold Dt
 split
 ·exact h1
 split
 ·exact h2
 split
 ·rename_i h;simp at h;simp;omega
 split<;>simp<;>omega
theorem Jk (s:List UInt8) (h:s≠[]) (hk:(Dt s).1≠0):1≤(Dt s).2:=by
 rcases s with _|⟨c,s⟩
 ·exact absurd rfl h
 unfold Dt at *
 by_cases h1:M3 (Ds (c::s))=true
 ·rw [if_pos h1]
  simp only [Ds] at h1
  simp only [Eh];rw [if_pos (by simp [N8,h1])];omega
 rw [if_neg h1] at hk ⊢
 by_cases h2:Gf (Ds (c::s))=true
 ·rw [if_pos h2]
  simp only [Ds] at h2
  simp only [Eh];rw [if_pos h2];omega
 rw [if_neg h2] at hk ⊢
 split
 ·simp
 rename_i h3
 rw [if_neg h3] at hk
 split
 ·simp
 ·rename_i h4
  rw [if_neg h4] at hk
  simp at hk
theorem A4y (S:List UInt8) (hne:0<S.length) (hs:S.length≤1000000):A8 Tryz.prog 168 [vS S] (.tup [vI (Dt S).1,vI (Dt S).2]):=by
 have hb:Am S 0=Ds S:=by rcases S with _|⟨c,S⟩;simp at hne;rfl
 have hc0:0≤Ds S:=by unfold Ds;split<;>omega
 have h1:=Qt (Ds S)
 have h2:=L4 (Ds S)
 have h3:=Z3 N8 _ A79 S (by simpa using hs)
 have h4:=Z3 Gf _ L4 S (by simpa using hs)
 have h5:=Z6
 have h6:=A4x A1w (S.take 2)
 have h7:=A4w A1x (Ds S)
 unfold Dt
 unfold A4t at h5
 have hsg:A1x=[123,125,40,41,44,59,61,43,45,42,60,62]:=rfl
 have ht:((S.take 2).drop 0)=S.take 2:=by simp
 generalize hq:S.take 2=q at *
 generalize Ds S=c at *
 generalize M3 c=a at *
 generalize Gf c=b at *
 generalize Eh N8 S=r1 at *
 generalize Eh Gf S=r2 at *
 generalize (A1w.any fun y=>decide (q=y))=d at *
 generalize Lib.indexByte A1x c.toNat.toUInt8=g at *
 rw [hsg] at h7
 (refine A8.of_code mix Tryz.call168 k_168 (by simp) (fun hB=>?_);(try simp at hB);(try simp -implicitDefEqProofs))
 cases a
 ·cases b
  ·by_cases hlen:1<S.length
   ·have hl1:decide (1<(S.length:Int))=true:=by simp;omega
    have hl2:(2:Int)≤S.length:=by omega
    cases d
    ·by_cases hg:0≤g
     ·((try simp at h1 h2 h3 h4 h5 h6 h7);(try simp -implicitDefEqProofs [hb,hne,hlen,hl1,hl2,hg,hq]);repeat' first|(with_reducible apply A0<;>first|(simp only [eras,era,A1];first|with_reducible assumption)|(simp -implicitDefEqProofs [hb,hne,hlen,hl1,hl2,hg,hq])))
     ·((try simp at h1 h2 h3 h4 h5 h6 h7);(try simp -implicitDefEqProofs [hb,hne,hlen,hl1,hl2,hg,hq]);repeat' first|(with_reducible apply A0<;>first|(simp only [eras,era,A1];first|with_reducible assumption)|(simp -implicitDefEqProofs [hb,hne,hlen,hl1,hl2,hg,hq])))
    ·((try simp at h1 h2 h3 h4 h5 h6 h7);(try simp -implicitDefEqProofs [hb,hne,hlen,hl1,hl2,hq]);repeat' first|(with_reducible apply A0<;>first|(simp only [eras,era,A1];first|with_reducible assumption)|(simp -implicitDefEqProofs [hb,hne,hlen,hl1,hl2,hq])))
   ·have hl1:decide (1<(S.length:Int))=false:=by simp;omega
    by_cases hg:0≤g
    ·((try simp at h1 h2 h3 h4 h5 h6 h7);(try simp -implicitDefEqProofs [hb,hne,hlen,hl1,hg,hq]);repeat' first|(with_reducible apply A0<;>first|(simp only [eras,era,A1];first|with_reducible assumption)|(simp -implicitDefEqProofs [hb,hne,hlen,hl1,hg,hq])))
    ·((try simp at h1 h2 h3 h4 h5 h6 h7);(try simp -implicitDefEqProofs [hb,hne,hlen,hl1,hg,hq]);repeat' first|(with_reducible apply A0<;>first|(simp only [eras,era,A1];first|with_reducible assumption)|(simp -implicitDefEqProofs [hb,hne,hlen,hl1,hg,hq])))
  ·((try simp at h1 h2 h3 h4 h5 h6 h7);(try simp -implicitDefEqProofs [hb,hne]);repeat' first|(with_reducible apply A0<;>first|(simp only [eras,era,A1];first|with_reducible assumption)|(simp -implicitDefEqProofs [hb,hne])))
 ·((try simp at h1 h2 h3 h4 h5 h6 h7);(try simp -implicitDefEqProofs [hb,hne]);repeat' first|(with_reducible apply A0<;>first|(simp only [eras,era,A1];first|with_reducible assumption)|(simp -implicitDefEqProofs [hb,hne])))
end Go.Proofs.YtmlpmdccfmmpoaaGreatDoor
end

/- Chapter 31: token.Value. -/
section
set_option linter.unusedSimpArgs false
set_option linter.unusedVariables false
set_option maxHeartbeats 2000000
set_option maxRecDepth 8000
namespace Go.Proofs.YtmlpmdccfmmpoaaGreatDoor
open E

def Tx:Nat→List UInt8→Option Nat
 | n,[]=>some n
 | n,c::s=>if 1000000000000<10*n+(c.toNat-48) then none else Tx (10*n+(c.toNat-48)) s
def Ty (k:Int) (s:List UInt8):Int×Bool:=
 if k=2∧s≠[]∧Eh Gf s=s.length then (match Tx 0 s with|some n=>((n:Int),true)|none=>(0,false)) else (0,false)
theorem Qu (p:Int→Bool) : ∀(s:List UInt8),Eh p s=s.length→∀j:Nat,j<s.length→p (s.getD j 0).toNat=true
 | [],_,j,hj=>by simp at hj
 | c::s,h,0,_=>by
  simp only [Eh] at h
  split at h
  ·simpa
  ·simp at h
 | c::s,h,j+1,hj=>by
  simp only [Eh] at h
  split at h
  ·have:=Qu p s (by simp only [List.length_cons] at h;omega) j (by simpa using hj)
   simpa using this
  ·simp at h
theorem A1y (k:Int) (s:List UInt8) (fr:Int) (hs:s.length≤1000000):A8 Tryz.prog 169 [.agg [vI k,vS s,vI fr]] (.tup [vI (Ty k s).1,vB (Ty k s).2]):=by
 have hrun:=Z3 Gf _ L4 s hs
 have hrl:=L5 Gf s
 have hall:=Qu Gf s
 have hR:=rfl (a:=Ty k s)
 conv at hR=>lhs;unfold Ty
 generalize Ty k s=R at *
 by_cases hk:k=2
 ·by_cases hn:s=[]
  ·subst hn
   rw [if_neg (by simp)] at hR
   subst hR
   subst hk
   (refine A8.of_code mix Tryz.call169 k_169 (by simp) (fun hB=>?_);(try simp at hB);(try simp -implicitDefEqProofs))
   ((try simp at hrun);(try simp -implicitDefEqProofs);repeat' first|(with_reducible apply A0<;>first|(simp only [eras,era,A1];first|with_reducible assumption)|(simp -implicitDefEqProofs)))
  ·have hn':s.isEmpty=false:=by simpa using hn
   by_cases hr:Eh Gf s=s.length
   ·rw [if_pos ⟨hk,hn,hr⟩] at hR
    have hd:=hall hr
    rw [hr] at hrun
    subst hk
    (refine A8.of_code mix Tryz.call169 k_169 (by simp) (fun hB=>?_);(try simp at hB);(try simp -implicitDefEqProofs))
    ((try simp at hrun);(try simp -implicitDefEqProofs [hn,hn']);repeat' first|(with_reducible apply A0<;>first|(simp only [eras,era,A1];first|with_reducible assumption)|(simp -implicitDefEqProofs [hn,hn'])))
    refine A7 (X:=Nat×Nat) (fun X=>X.1≤s.length∧X.2≤1000000000000∧Tx X.2 (s.drop X.1)=Tx 0 s) (fun X=>[(1,.ptr 0 0),(4,vI X.2),(26,.ptr 1 0)]) (fun X=>⟨[.cells [vI 2,vS s,vI fr],.itr s X.1],[]⟩) (fun X=>s.length-X.1) (0,0) ⟨by omega,by omega,by simp⟩ (by simp) ?_
    rintro ⟨p,n⟩ ⟨hp,hnm,hnum⟩ hbd
    simp only [] at hp hnm hnum
    clear hbd
    rcases Nat.lt_or_ge p s.length with h|h
    ·have hx:s.drop p=s.getD p 0::s.drop (p+1):=by
      rw [List.drop_eq_getElem_cons h]
      simp [List.getD_eq_getElem?_getD,h]
     have hdp:=hd p h
     simp only [Gf,Bool.and_eq_true,decide_eq_true_eq] at hdp
     obtain⟨d1,d2⟩:=Nv (l:=s) (p:=p) (by omega)
     rw [hx,Tx] at hnum
     generalize (s.getD p 0).toNat=c at *
     have e1:IntKind.i64.wrap (10*(n:Int))=10*(n:Int):=wrap64 (by omega) (by omega)
     have e2:IntKind.i32.wrap ((c:Int)-48)=(c:Int)-48:=by
      unfold IntKind.wrap;simp [IntKind.signed,IntKind.bits];omega
     have e3:IntKind.i64.wrap ((c:Int)-48)=(c:Int)-48:=wrap64 (by omega) (by omega)
     have e4:IntKind.i64.wrap (10*(n:Int)+((c:Int)-48))=10*(n:Int)+((c:Int)-48):=wrap64 (by omega) (by omega)
     by_cases hb:1000000000000<10*n+(c-48)
     ·rw [if_pos hb] at hnum
      rw [←hnum] at hR
      subst hR
      have hb':decide ((1000000000000:Int)<10*(n:Int)+((c:Int)-48))=true:=by simp;omega
      (try simp -implicitDefEqProofs [h,d1,d2,e1,e2,e3,e4,hb'])
     ·rw [if_neg hb] at hnum
      have hb':decide ((1000000000000:Int)<10*(n:Int)+((c:Int)-48))=false:=by simp;omega
      (try simp -implicitDefEqProofs [h,d1,d2,e1,e2,e3,e4,hb'])
      exact⟨p+1,10*n+(c-48),⟨by omega,by omega,hnum⟩,by omega,rfl,by omega⟩
    ·have:p=s.length:=by omega
     subst this
     have:Tx n (s.drop s.length)=some n:=by simp [Tx]
     rw [this] at hnum
     rw [←hnum] at hR
     subst hR
     (try simp -implicitDefEqProofs)
   ·rw [if_neg (fun h=>hr h.2.2)] at hR
    subst hR
    have hr2:decide (Eh Gf s<s.length)=true:=by simp;omega
    subst hk
    (refine A8.of_code mix Tryz.call169 k_169 (by simp) (fun hB=>?_);(try simp at hB);(try simp -implicitDefEqProofs))
    ((try simp at hrun);(try simp -implicitDefEqProofs [hn,hn',hr2]);repeat' first|(with_reducible apply A0<;>first|(simp only [eras,era,A1];first|with_reducible assumption)|(simp -implicitDefEqProofs [hn,hn',hr2])))
 ·rw [if_neg (fun h=>hk h.1)] at hR
  subst hR
  have hk':(k != 2)=true:=by simpa using hk
  (refine A8.of_code mix Tryz.call169 k_169 (by simp) (fun hB=>?_);(try simp at hB);(try simp -implicitDefEqProofs))
  ((try simp at hrun);(try simp -implicitDefEqProofs [hk,hk']);repeat' first|(with_reducible apply A0<;>first|(simp only [eras,era,A1];first|with_reducible assumption)|(simp -implicitDefEqProofs [hk,hk'])))
end Go.Proofs.YtmlpmdccfmmpoaaGreatDoor
end
