/- The engine: the code of a function as a list of marks, read off the translation. -/
import Derived.Test.YtmlpmdccfmmpoaaGreatDoorEd
set_option linter.unusedSimpArgs false
set_option linter.unusedVariables false
namespace Go.Proofs.YtmlpmdccfmmpoaaGreatDoor
namespace E

inductive Tok where
 | rg (l:List EO) (d:Bool)
 | sk
 | sq
 | al
 | cd (c:Opd)
 | bk (id:Nat)
 | lp
 | ex (id:Nat)
 | rt

def eoD (P:Program) (fl:Bool) (ops:Array Oper) (o:Oper):EO:=(eopOf P fl ops o).getD ⟨none,none,.mv,[]⟩
def tokR (wl:Bool) (es:List EO):Nat→Tok
 | 0=>.sk
 | 1=>.sq
 | 2=>.al
 | n+3=>match es[n]? with
  | some e=>.rg [e] (!(wl&&isCallE e))
  | none=>.sk
def tkR (wl:Bool) (es:List EO) (d:Bool):Option (List Nat)→List Tok→List Tok
 | none,k=>.rg es d::k
 | some [],k=>.rg es.dropLast true::.rg es.getLast?.toList false::.sq::k
 | some (a::t),k=>(a::t).map (tokR wl es)++k
def toks (P:Program) (fl wl:Bool) (h:List (Nat×List Nat)):Code→List Tok→List Tok
 | .region id ops d,k=>tkR wl (ops.toList.map (eoD P fl ops)) d (h.lookup id) k
 | .seq a b,k=>toks P fl wl h a (toks P fl wl h b (.sq::k))
 | .cond c a b,k=>toks P fl wl h a (toks P fl wl h b (.cd ((opd c).getD (.tmp 0))::k))
 | .block id b,k=>toks P fl wl h b (.bk id::k)
 | .loop b,k=>toks P fl wl h b (.lp::k)
 | .exit id,k=>.ex id::k
 | .ret,k=>.rt::k
 | .scope b,k=>toks P fl wl h b k
 | _,k=>.sk::k

def bld:List Tok→List EC→List EC→List EC
 | .rg l d::r,N,s=>bld r (N++[.rg l d]) (.rg l d::s)
 | .sk::r,N,s=>bld r N (.skip::s)
 | .ex n::r,N,s=>bld r N (.ex n::s)
 | .rt::r,N,s=>bld r N (.rt::s)
 | .lp::r,N,a::s=>bld r N (.lp a::s)
 | .bk n::r,N,a::s=>bld r (N++[.bk n a]) (.bk n a::s)
 | .sq::r,N,b::a::s=>bld r (N++[.sq a b]) (.sq a b::s)
 | .al::r,N,b::a::s=>bld r (N++[.al a b]) (.al a b::s)
 | .cd c::r,N,b::a::s=>bld r (N++[.cd c a b]) (.cd c a b::s)
 | _,N,_=>N
def eqs (X:Nat→EC):List Tok→Nat→List EC→Prop
 | .rg l d::r,i,s=>Rg (X i) l d∧eqs X r (i+1) (X i::s)
 | .sk::r,i,s=>eqs X r i (.skip::s)
 | .ex n::r,i,s=>eqs X r i (.ex n::s)
 | .rt::r,i,s=>eqs X r i (.rt::s)
 | .lp::r,i,a::s=>eqs X r i (.lp a::s)
 | .bk n::r,i,a::s=>Bk (X i) n a∧eqs X r (i+1) (X i::s)
 | .sq::r,i,b::a::s=>Sq (X i) a b∧eqs X r (i+1) (X i::s)
 | .al::r,i,b::a::s=>Al (X i) a b∧eqs X r (i+1) (X i::s)
 | .cd c::r,i,b::a::s=>Cd (X i) c a b∧eqs X r (i+1) (X i::s)
 | _,_,_=>True
theorem sqF {y z:EC} (x:EC) (h:x=.sq y z):Sq x y z:=by subst h;exact sqE y z
theorem A1t : ∀(r:List Tok) (N s:List EC),∃M,bld r N s=N++M:=by
 intro r
 induction r with
 | nil=>intro N s;exact⟨[],by simp [bld]⟩
 | cons t r ih=>
  have key : ∀(N:List EC) (c:EC) (s:List EC),∃M,bld r (N++[c]) s=N++M:=fun N c s=>by
   obtain⟨M,hM⟩:=ih (N++[c]) s
   exact⟨c::M,by rw [hM];simp⟩
  intro N s
  cases t<;>rcases s with _|⟨b,_|⟨a,s⟩⟩<;>simp only [bld]<;>first|exact key _ _ _|exact ih _ _|exact⟨[],by simp⟩
theorem A4o : ∀(r:List Tok) (N s:List EC) (X:Nat→EC),(∀i,X i=((bld r N s)[i]?).getD .skip)→eqs X r N.length s:=by
 intro r
 induction r with
 | nil=>intro N s X _;simp [eqs]
 | cons t r ih=>
  intro N s X hX
  have key : ∀(c:EC) (s':List EC),(∀i,X i=((bld r (N++[c]) (c::s'))[i]?).getD .skip)→X N.length=c∧eqs X r (N.length+1) (X N.length::s'):=fun c s' h=>by
   have h1:X N.length=c:=by
    obtain⟨M,hM⟩:=A1t r (N++[c]) (c::s')
    rw [h,hM];simp
   refine⟨h1,?_⟩
   have:=ih (N++[c]) (c::s') X h
   rw [h1];simpa using this
  cases t<;>rcases s with _|⟨b,_|⟨a,s⟩⟩<;>simp only [eqs]<;>simp only [bld] at hX<;>first
   | exact⟨rgF _ (key _ _ hX).1,(key _ _ hX).2⟩
   | exact⟨bkF _ (key _ _ hX).1,(key _ _ hX).2⟩
   | exact⟨sqF _ (key _ _ hX).1,(key _ _ hX).2⟩
   | exact⟨alF _ (key _ _ hX).1,(key _ _ hX).2⟩
   | exact⟨cdF _ (key _ _ hX).1,(key _ _ hX).2⟩
   | exact ih _ _ _ hX
   | trivial
def TK (fl wl:Bool) (h:List (Nat×List Nat)) (P:Program) (f:Nat):List Tok:=match P.funcs[f]? with
 | some fn=>match fn.body with
  | some c=>toks P fl wl h c []
  | none=>[]
 | none=>[]
def XG (t:List Tok) (i:Nat):EC:=((bld t [] [])[i]?).getD .skip
theorem A4p (t:List Tok):eqs (XG t) t 0 []:=A4o t [] [] _ fun _=>rfl
theorem exT (t:List Tok) : ∃X:Nat→EC,eqs X t 0 []∧∀i,X i=XG t i:=⟨XG t,A4p t,fun _=>rfl⟩
noncomputable def XC (t:List Tok):Nat→EC:=Classical.choose (exT t)
theorem Fe (t:List Tok):eqs (XC t) t 0 []:=(Classical.choose_spec (exT t)).1
theorem A78 (t:List Tok) (i:Nat):XC t i=XG t i:=(Classical.choose_spec (exT t)).2 i
theorem kC {a:Option (Nat×EC×List RV)} {N i:Nat} {rs:List RV} {X:Nat→EC} (t:List Tok) (hX:X=XC t) (h:a=some (N,XG t i,rs)):a=some (N,X i,rs):=by rw [hX,A78];exact h
theorem opd_t (t:Nat):opd (.tmp t)=some (.tmp t):=rfl
theorem opd_k (v:Value):opd (.const v)=(constV v).map .c:=rfl
theorem opd_f (f:Nat):opd (.func f)=some (.c (.fn (.func f) [])):=rfl
theorem nrm {p q:Prop} (h:p) (e:p=q):q:=e▸h
end E
end Go.Proofs.YtmlpmdccfmmpoaaGreatDoor
