/-
  A part of a proof: U6.
-/
import Derived.Test.YtkfjenbfbendhaaGreatDoorLk48
import Derived.LaidSub
set_option linter.unusedSimpArgs false
set_option linter.unusedVariables false
namespace Go.Proofs.YtkfjenbfbendhaaGreatDoor
open Go Go.ChangeShapes Go.WideShapes Go.RowKit Go.V
theorem uh {H:Type}{enc:TypeId×Value→H}{C:Checked}{os:Os}{f:FuncId}{fn:Func}{s:ChangeSpec}{conds:List PathCond}{apart:Bool}{X:World→Array Value→Prop}(w0:World)(args:Array Value)(fuel:Nat)(hos:w0.os=os)
  (hv:(w0.forCall (fun _ _=>0) ⟨#[],args,[]⟩).variablesRefB C.prog=true)
  (hr:((w0.forCall (fun _ _=>0) ⟨#[],args,[]⟩).heap.toList.drop C.prog.globals.size).take ((begin C.prog (fun _ _=>0) default).world.heap.size-C.prog.globals.size) =
   (begin C.prog (fun _ _=>0) default).world.heap.toList.drop C.prog.globals.size)
  (hok:Input.okWideB C.prog (w0.forCall (fun _ _=>0) ⟨#[],args,[]⟩) f ⟨#[],args,[]⟩=true)
  (hpre:s.preB enc C.prog fn conds apart (w0.forCall (fun _ _=>0) ⟨#[],args,[]⟩).memory args fuel=true)
  (hsz:s.sizedB enc C.prog fn apart (w0.forCall (fun _ _=>0) ⟨#[],args,[]⟩).memory args fuel=true)
  (hx:X (w0.forCall (fun _ _=>0) ⟨#[],args,[]⟩).memory args) :
  ∃(w:World) (tape:Tape) (i:Input),w.os=os∧(w.forCall tape i).Shaped C.prog∧i.vars=[]∧Input.okWide C.prog (w.forCall tape i) .any w.heap.size f i∧
   ((s.pre enc C.prog fn conds apart (w.forCall tape i).memory i.args∧X (w.forCall tape i).memory i.args)∧sizedMet enc C.prog fn (OpenSpec.ofChange s) apart (w.forCall tape i).memory i.args)∧({}:Assume).holds C.prog (lone (Frame.enter C.prog f i.args .normal) [] (w.forCall tape i)):=
 ⟨w0,fun _ _=>0,⟨#[],args,[]⟩,hos,World.shaped_of_RefB hv hr,(Input.okWide_of_okWideB (base:=0) hok).1,(Input.okWide_of_okWideB hok).2,⟨⟨ChangeSpec.pre_of_preB hpre,hx⟩,sizedMet_of_sizedB hsz⟩,by
  simp only[Assume.holds]
  exact⟨by simp,by simp,fun _=>Modest.zero,by simp,by simp⟩⟩
theorem tb {W:World}(h:laidMet Tryz.prog Rows.topLensRow.laid W):GOk (dF W) ΓT:=by
 intro g cs hg
 have h3:=h.filter (fun p=>p.1== "internal/strconv.uint64pow10")
 have e3:(Rows.topLensRow.laid.filter (fun p=>p.1== "internal/strconv.uint64pow10"))=[("internal/strconv.uint64pow10",Lib.tabData .u64 Lib.pow10Tab)]:=by kernel_rfl
 rw[e3] at h3
 have t1:Lib.TabIs Tryz.prog W "internal/strconv.uint64pow10" .u64 Lib.pow10Tab:=Lib.tabIs_of_head (g:=1) (t:=314) (e:=280) (n:=20) (by kernel_rfl) (by kernel_rfl) Tryz.underlying314 Tryz.underlying280 (by kernel_rfl) (by kernel_rfl) h3
 have h7:=h.filter (fun p=>p.1== "strings.asciiSpace")
 have e7:(Rows.topLensRow.laid.filter (fun p=>p.1== "strings.asciiSpace"))=[("strings.asciiSpace",Lib.tabData .u8 spaceTab)]:=by kernel_rfl
 rw[e7] at h7
 have t2:Lib.TabIs Tryz.prog W "strings.asciiSpace" .u8 spaceTab:=Lib.tabIs_of_head (g:=2) (t:=343) (e:=5) (n:=256) (by kernel_rfl) (by kernel_rfl) Tryz.underlying343 Tryz.underlying5 (by kernel_rfl) (by kernel_rfl) h7
 have key:∀(g:Nat) (name:String) (k:IntKind) (zs:List Int),Tryz.prog.globalNamed name=some g→Lib.TabIs Tryz.prog W name k zs→∃c,dF W g=some c∧RelL (dF W) (fun _=>none) (zs.map fun z=>Val.int k z) (c.toList.take (zs.map fun z=>Val.int k z).length)∧c.size=(zs.map fun z=>Val.int k z).length:=by
  intro g name k zs hn ht
  unfold Lib.TabIs World.var? at ht
  rw[hn] at ht
  simp only[Option.bind_some] at ht
  split at ht
  ·
   rename_i c e fr hb
   cases ht
   refine⟨(zs.map fun z=>Value.int k z).toArray,by simp[dF,hb],?_,by simp⟩
   rw[List.take_of_length_le (by simp)]
   simp only[List.toList_toArray]
   induction zs with
   |nil=>simp[RelL]
   |cons z zs ih=>
    simp only[List.map_cons,RelL,Rel]
    refine⟨_,_,rfl,rfl,?_⟩
    have gen:∀l:List Int,RelL (dF W) (fun _=>none) (l.map fun z=>Val.int k z) (l.map fun z=>Value.int k z):=by
     intro l
     induction l with
     |nil=>simp[RelL]
     |cons z l ih=>simp only[List.map_cons,RelL,Rel];exact⟨_,_,rfl,rfl,ih⟩
    exact gen zs
  ·
   cases ht
 have hg':tG g=some cs:=hg
 unfold tG at hg'
 split at hg'
 ·
  cases hg';exact key 1 _ _ _ (by kernel_rfl) t1
 ·
  cases hg';exact key 2 _ _ _ (by kernel_rfl) t2
 ·
  cases hg'
set_option maxRecDepth 100000 in
theorem CN (G:PureOk Tryz.prog ΓT 5 [] (.bool true))(os:Os)(started:os.Started)(H:Type)(enc:TypeId×Value→H) :
  ReturnsInHanded {} Tryz.checked os 3 .any (fun w args=>(Rows.topLensSpec.pre enc Tryz.prog Tryz.f3 Rows.topLensRow.domain false w args∧laidMet Tryz.prog Rows.topLensRow.laid w)∧sizedMet enc Tryz.prog Tryz.f3 (OpenSpec.ofChange Rows.topLensSpec) false w args)
   (Rows.topLensSpec.post enc Tryz.prog Tryz.f3 false true false false):=by
 refine returnsInHanded_of_change_and (C:=Tryz.checked) (X:=fun w _=>laidMet Tryz.prog Rows.topLensRow.laid w) (fun _ _ _ hh h=>h.of_heap hh) own started (by kernel_rfl) Tryz.func3
  (uh (enc:=enc) (C:=Tryz.checked) (os:=os) (X:=fun w _=>laidMet Tryz.prog Rows.topLensRow.laid w) (qz os) #[.agg #[.int .i64 0,.int .i64 0,.int .i64 0,.slice none 0 0,.slice none 0 0,.slice none 0 0],.slice none 0 0,.agg #[.int .i64 0,.int .i64 0,.string ⟨#[]⟩,.slice none 0 0,.slice none 0 0]] 8 rfl (by kernel_rfl) (by kernel_rfl) (by kernel_rfl) (by kernel_rfl) (by kernel_rfl) (qO os _)) ?_
 intro W base args ds gs before hval0 hW _ hwt hL _
 have hval:∀(j:Nat) t v,Tryz.f3.params[j]?=some t→args[j]?=some v→Value.okWide Tryz.prog W .any base t v:=hval0
 have hW':=hW
 obtain⟨p,q,hA0,hV,rfl,hfz,hnd⟩:=hW
 have hA:DataW.TrodAll enc Tryz.prog W 0 (fun _=>true) true Tryz.f3.params.toList args.toList ds p:=hA0
 rw[Tryz.params3] at hA hval hwt
 obtain⟨v0,vs0,d0,ds0,p0,q0,hargs,rfl,rfl,h0,r0⟩:=trodAll_cons hA
 obtain⟨v1,vs1,d1,ds1,p1,q1,rfl,rfl,rfl,h1,r1⟩:=trodAll_cons r0
 obtain⟨v2,vs2,d2,ds2,p2,q2,rfl,rfl,rfl,h2,r2⟩:=trodAll_cons r1
 obtain⟨rfl,rfl,rfl⟩:=trodAll_nil r2
 obtain rfl:args=#[v0,v1,v2]:=by cases args;simp_all
 obtain⟨rfl,rfl⟩:=trodVars_none hV
 have k0:=h0
 have lt0:∀x∈p0,x.block<W.heap.size:=by obtain⟨m,hm⟩:=k0;exact DataW.trod_lt m _ _ _ hm
 have k1:=h1
 have lt1:∀x∈p1,x.block<W.heap.size:=by obtain⟨m,hm⟩:=k1;exact DataW.trod_lt m _ _ _ hm
 have k2:=h2
 have lt2:∀x∈p2,x.block<W.heap.size:=by obtain⟨m,hm⟩:=k2;exact DataW.trod_lt m _ _ _ hm
 obtain⟨m0,e0⟩:=h0
 obtain⟨m1,e1⟩:=h1
 obtain⟨m2,e2⟩:=h2
 obtain⟨t,ht⟩:=Bg m0 _ _ e0
 obtain⟨d,hd⟩:=xz m2 _ _ e2
 have hw1:∀k∈d1.weights Tryz.prog 27,k≤reachBytes:=by
  intro k hk
  have:=List.all_eq_true.1 hwt k (by
   simp only[List.append_nil]
   exact gv (i:=1) (t:=27) (d:=d1) rfl rfl k hk)
  simpa using this
 obtain⟨l,hsh,hl⟩:=Aa m1 _ _ hw1 e1
 obtain⟨xs0,rfl⟩:∃cs,v0=.agg cs:=by
  have:=hval 0 26 v0 rfl rfl
  unfold Value.okWide at this
  rw[Tryz.underlying26] at this
  obtain⟨cs,h,_⟩:=this
  exact⟨cs,h⟩
 obtain⟨a1,len1,cap1,rfl⟩:=okWide_slice Tryz.underlying27 (hval 1 27 v1 rfl rfl)
 obtain⟨xs2,rfl⟩:∃cs,v2=.agg cs:=by
  have:=hval 2 30 v2 rfl rfl
  unfold Value.okWide at this
  rw[Tryz.underlying30] at this
  obtain⟨cs,h,_⟩:=this
  exact⟨cs,h⟩
 have hrel:RelL (dF W) (fun _=>none) [.ag (cTy t),sls aK l,.ag (aH d)] (#[Value.agg xs0,.slice a1 len1 cap1,.agg xs2]:Array Value).toList:=by
  refine .cons (by rw[Rel];exact⟨xs0,rfl,ht⟩) ?_
  refine .cons ?_ (.one (by rw[Rel];exact⟨xs2,rfl,hd⟩))
  simp only[RelL] at hl
  obtain⟨y,ys,e,hy,rfl⟩:=hl
  simp only[Value.cells] at e
  cases e
  exact hy
 clear hA0 hval0
 refine(f3 ΓT xok yT G t l d hsh (dF W) W _ (tb hL) (yK W) hrel).mono ?_
 rintro e W' ⟨F',x,rfl,_,_,_,hx,hfr⟩
 simp only[Rel] at hx
 subst hx
 have bel:=hfr.below
 exact⟨_,rfl,_,_,_,[],_,[],hW',trodAll_mk1 (shut_bool Tryz.underlying4 _),(trodAll_cons_mk (Below.trod sH (by kernel_rfl) (of_decide_eq_true (by kernel_rfl)) k0 bel lt0) (trodAll_cons_mk (Below.trod sH (by kernel_rfl) (of_decide_eq_true (by kernel_rfl)) k1 bel lt1) (trodAll_cons_mk (Below.trod sH (by kernel_rfl) (of_decide_eq_true (by kernel_rfl)) k2 bel lt2) trodAll_mk0))),rfl,bel.frame _,fun h=>by cases h⟩
end Go.Proofs.YtkfjenbfbendhaaGreatDoor
