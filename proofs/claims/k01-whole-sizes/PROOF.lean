import PyProof.Rows.All
import Wide.All
import OpenK.AllK
import Wide.FinOn
import HandS.ForMost
import HandS.Wide
import HandS.IsInst
import HandS.Conv
import HandS.EndBits
import HandS.Codes
import PySem.Challenge.RW_pyheap_k01_whole_sizes
set_option Elab.async false
set_option linter.all false
set_option maxRecDepth 100000
set_option maxHeartbeats 4000000
/-! ### a def of the module's top, as its callers see it -/
open L2
namespace L2
open PySem PySem.Spec PyProof.Rows
structure Fn (P : Program) (w : World) (K : PySem.W.Frag) (mg : Str → Option Value) (base : Heap) (CX : CXT) (k : Nat) (x : Str) (ps : List Str) (sp : Sp) : Prop where
  ex : ∃ f fd, mg x = some (.ref f) ∧ PySem.W.keepIn K (.ref f) = true ∧ Binds K fd ps [] ∧ FnOk P w K mg base CX k f fd ps sp
/-- a def's text where it stands -/
structure DefAt (K : PySem.W.Frag) (mg : Str → Option Value) (x : Str) (st : Stmt) (ps : List Str) : Prop where
  ex : ∃ f fd, mg x = some (.ref f) ∧ Fun K x x st f fd ∧ Binds K fd ps []
theorem DefAt.fn {P : Program} {w : World} {K : PySem.W.Frag} {mg : Str → Option Value} {base : Heap} {CX : CXT} {k : Nat} {x : Str} {st : Stmt} {ps : List Str} {sp : Sp} (D : DefAt K mg x st ps)
    (h : ∀ f fd, Fun K x x st f fd → FnOk P w K mg base CX k f fd ps sp) : Fn P w K mg base CX k x ps sp := by
  obtain ⟨f, fd, m, F, b⟩ := D.ex
  exact ⟨f, fd, m, F.kp, b, h f fd F⟩
section
variable {X : Cx}
theorem pe_fn {CX : CXT} {k : Nat} {x : Str} {ps : List Str} {sp : Sp} {E : XK} {e : Expr} {es : List Expr} {t : TA} {p pos : Pos} (F : Fn X.prog X.w X.K X.mg X.base CX k x ps sp) (hr : Room k X.A) (hx : Passes CX X E)
    (ha : PA X (e :: es) t) (hg : Gl X x := by rfl) (hdb : (x == ("__debug__" : Str)) = false := by decide) (he : starEach (e :: es) X.env = (false, eval e X.env) :: starEach es X.env := by rfl) (hpl : (backTo pos (starEach es X.env)).any (·.1) = false := by rfl) :
    PE X (.Call (.Name x p) (e :: es) [] pos) (tCall sp [] E t) := by
  obtain ⟨f, fd, m, kp, b, G⟩ := F.ex
  exact pe_call G hr hg m kp b .nil hx ha hdb he hpl
theorem pe_gi {x : Str} {n : Int} {pos : Pos} (h : ∃ t, X.mg x = some (.int n t)) (hg : Gl X x := by rfl) (hd : (x == ("__debug__" : Str)) = false := by decide) : PE X (.Name x pos) (tC (.int n)) := by
  obtain ⟨t, h⟩ := h
  exact pe_glob hg h ⟨_, rfl⟩ hd
theorem pe_bty {x : Str} {n : String} {pos : Pos} (hm : X.mg x = none) (hv : bootBuiltins x = some (.type n) := by decide +kernel) (hg : Gl X x := by rfl) (hn : x ≠ "__name__" := by decide) (hd : (x == ("__debug__" : Str)) = false := by decide) : PE X (.Name x pos) (tC (.ty n)) :=
  pe_bltn hg hm hv rfl hn hd
theorem pe_gs {x : Str} {n : Str} {pos : Pos} (h : ∃ t, X.mg x = some (.str n t)) (hg : Gl X x := by rfl) (hd : (x == ("__debug__" : Str)) = false := by decide) : PE X (.Name x pos) (tC (.str n)) := by
  obtain ⟨t, h⟩ := h
  exact pe_glob hg h ⟨_, rfl⟩ hd
end
/-! ### a sign for the reader to stop at -/
structure Hold (p : Prop) : Prop where
  out : p
theorem PS.hold {X : Cx} {st : Stmt} {t : TS} (h : PS X st t) : PS X st (fun D σ H => Hold (t D σ H)) := ⟨fun pins s σ H D I q => h.run pins s σ H D I q.out⟩
theorem PSs.hold {X : Cx} {st : List Stmt} {t : TS} (h : PSs X st t) : PSs X st (fun D σ H => Hold (t D σ H)) := ⟨fun pins s σ H D I q => h.run pins s σ H D I q.out⟩
theorem PE.hold {X : Cx} {e : Expr} {t : TE} (h : PE X e t) : PE X e (fun σ H Q => Hold (t σ H Q)) := ⟨fun pins s σ H Q I q => h.run pins s σ H Q I q.out⟩
theorem PI.hold {X : Cx} {tg iter : Expr} {wi : TI} (h : PI X tg iter wi) : PI X tg iter (fun σ H R => wi σ H fun J H1 => Hold (R J H1)) := ⟨fun pins s σ H R I q =>
  thn (h.run pins s σ H _ I q) fun _ _ h1 => thn h1 fun _ _ ⟨it, fp, tn, J, H', e, I', T, t0, f, r⟩ => ⟨it, fp, tn, J, H', e, I', T, t0, f, r.out⟩⟩
/-! ### heaps -/
theorem same_upd {H : Hp} {p : Addr} {o : HO} (hp : H p = none) : Same H (upd H p o) := fun b o' h => by
  rw [upd_ne (ne_of_none h hp)]
  exact h
theorem get_upd {H : Hp} {p b : Addr} {o o' : HO} (hp : H p = none) (h : H b = some o') : upd H p o b = some o' := same_upd hp b o' h
theorem ifF {c : Bool} {A B : Prop} (h : c = false) (hb : B) : if c = true then A else B := by
  subst h
  exact iteF hb
theorem ifT {c : Bool} {A B : Prop} (h : c = true) (ha : A) : if c = true then A else B := by
  subst h
  exact iteT ha
theorem same_step {H H' : Hp} {p : Addr} {o : HO} (s : Same H H') (hp : H' p = none) : Same H (L2.upd H' p o) := s.trans (same_upd hp)
theorem same_mut {H H' : Hp} {p : Addr} {o : HO} (s : Same H H') (hp : H p = none) : Same H (L2.upd H' p o) := fun b o' h => by
  rw [upd_ne (ne_of_none h hp)]
  exact s b o' h
theorem SqL.upd {K : PySem.W.Frag} {H : Hp} {p a : Addr} {o : HO} {xs : List V} (hp : H p = none) (h : SqL K H a xs) : SqL K (upd H p o) a xs := (same_upd hp).seq h
theorem sqL_new {K : PySem.W.Frag} {H : Hp} {p : Addr} {xs : List V} : SqL K (L2.upd H p (.lst xs)) p xs := SqL.of upd_same
/-! ### xs == [], xs != [] whatever the list holds -/
section
variable {X : Cx}
def rNil (K : PySem.W.Frag) (neg : Bool) : R2 := fun x y H Q => ∃ a b xs, x = .ref a ∧ y = .ref b ∧ SqL K H a xs ∧ SqL K H b [] ∧ Q (.bl (if neg then !xs.isEmpty else xs.isEmpty)) H
theorem op_eqNil (hu : X.A.units + 64 < cLine) : OpR X (compareOp .Eq) (rNil X.K false) := by
  intro pins s σ H x y v u Q I rx ry h
  obtain ⟨a, b, xs, rfl, rfl, ha, hb, q⟩ := h
  cases rx
  cases ry
  obtain ⟨its, r, pl, _⟩ := I.list ha
  obtain ⟨jts, r2, pl2, _⟩ := I.list hb
  cases r2
  cases r with
  | nil => exact SeqAt.eq_listAt (e := fun _ => true) pl.isList pl2.isList rfl (by omega) (fun j h1 _ => absurd h1 (by simp)) ⟨.bl _, H, I, rfl, q⟩
  | cons r1 r3 => exact SeqAt.eq_list_lengthsAt pl.isList pl2.isList (by simp) (by omega) ⟨.bl _, H, I, rfl, q⟩
theorem op_neNil (hu : X.A.units + 64 < cLine) : OpR X (compareOp .NotEq) (rNil X.K true) := by
  intro pins s σ H x y v u Q I rx ry h
  obtain ⟨a, b, xs, rfl, rfl, ha, hb, q⟩ := h
  cases rx
  cases ry
  obtain ⟨its, r, pl, _⟩ := I.list ha
  obtain ⟨jts, r2, pl2, _⟩ := I.list hb
  cases r2
  cases r with
  | nil => exact SeqAt.RcNeAt.lists (e := fun _ => true) pl.isList pl2.isList rfl (by omega) (fun j h1 _ => absurd h1 (by simp)) _ _ _ _ ⟨.bl _, H, I, rfl, q⟩
  | cons r1 r3 => exact SeqAt.RcNeAt.lists_lengths pl.isList pl2.isList (by simp) (by omega) _ _ _ _ ⟨.bl _, H, I, rfl, q⟩
end
section
variable {X : Cx}
theorem call_lenL : CallR X (.builtin "len") (fun xs H Q => ∃ p ys, xs = [.ref p] ∧ SqL X.K H p ys ∧ Q (.int (ys.length : Nat)) H) := fun pins s σ H vs us Q I r ⟨p, ys, e, h, q⟩ => call_len_seq pins s σ H vs us Q I r ⟨p, ys, e, .inl h, q⟩
theorem call_lenT : CallR X (.builtin "len") (fun xs H Q => ∃ p ys, xs = [.ref p] ∧ SqT X.K H p ys ∧ Q (.int (ys.length : Nat)) H) := fun pins s σ H vs us Q I r ⟨p, ys, e, h, q⟩ => call_len_seq pins s σ H vs us Q I r ⟨p, ys, e, .inr h, q⟩
end
theorem atI_int {ns : List Int} {i : Int} (h0 : 0 ≤ i) (h1 : i < (ns.length : Int)) : atI (ns.map V.int) i = some (V.int (ns.getD i.toNat 0)) := by
  unfold atI ixN
  rw [List.length_map, if_pos h0, if_pos h1]
  show (ns.map V.int)[i.toNat]? = _
  have h2 : i.toNat < ns.length := by omega
  rw [List.getElem?_map, List.getElem?_eq_getElem h2, List.getD_eq_getElem?_getD, List.getElem?_eq_getElem h2]
  rfl
/-! ### isinstance of plain values -/
theorem kit_ii {K : PySem.W.Frag} : PySem.W.kitOne K (.type "int") (.type "int") = some true := kit_ty (by decide +kernel)
theorem kit_ib {K : PySem.W.Frag} : PySem.W.kitOne K (.type "int") (.type "bool") = some false := kit_ty (by decide +kernel)
theorem kit_bi {K : PySem.W.Frag} : PySem.W.kitOne K (.type "bool") (.type "int") = some true := kit_ty (by decide +kernel)
theorem kit_bb {K : PySem.W.Frag} : PySem.W.kitOne K (.type "bool") (.type "bool") = some true := kit_ty (by decide +kernel)
theorem kit_nb {K : PySem.W.Frag} : PySem.W.kitOne K (.type "NoneType") (.type "bool") = some false := kit_ty (by decide +kernel)
theorem kit_ll {K : PySem.W.Frag} : PySem.W.kitOne K (.type "list") (.type "list") = some true := kit_ty (by decide +kernel)
theorem kit_tt {K : PySem.W.Frag} : PySem.W.kitOne K (.type "tuple") (.type "tuple") = some true := kit_ty (by decide +kernel)
theorem kit_tl {K : PySem.W.Frag} : PySem.W.kitOne K (.type "tuple") (.type "list") = some false := kit_ty (by decide +kernel)
end L2
/-! ### the reader: «rd» answers what a reading asks as far as it is known; «sm»: that all stands as it stood -/
local macro_rules | `(tactic| walk_at "sm") => `(tactic| repeat (first | assumption | exact Same.refl _ | (refine same_step ?_ (by assumption)) | (refine same_mut ?_ (by assumption))))
local macro_rules | `(tactic| walk_at "rd") => `(tactic| repeat (first | exact rfl | assumption | exact ClsV.ty _ | exact TyX.base (TyOf.int _) | exact TyX.base (TyOf.bl _) | exact TyX.base TyOf.non | exact kit_ii | exact kit_ib | exact kit_nb | exact kit_bi | exact kit_bb | exact upd_same | exact sqL_new | (apply SqL.upd; assumption) | (apply get_upd; assumption) | apply Exists.intro | apply And.intro | (refine fun (p : PySem.Addr) (hp : (_ : Option HO) = none) => ?_) | omega | (dsimp only; omega) | (unfold CMul; omega) | (simp only [PySem.sizeLine_eq, L2.rgV_length, List.length_map, List.length_append, List.length_cons, List.length_nil]; omega) | decide))
namespace My
open PySem L2
def topS (i : Nat) : Stmt := PySem.Challenge.pw_pyheap_k01_whole_sizes.main.body.getD i (.Pass ⟨0, 0, 0, 0⟩)
abbrev s_is_number : Stmt := topS 11
abbrev N_is_number : List Str := ["thing", "least", "most"]
abbrev P_is_number : List Str := ["thing", "least", "most"]
theorem nd_is_number : N_is_number.Nodup := by decide +kernel
theorem sc_is_number : FnScope N_is_number P_is_number (defScope s_is_number) := ⟨rfl, rfl, rfl, nd_is_number, rfl, by decide +kernel, by decide +kernel⟩
abbrev s_look_number : Stmt := topS 12
abbrev N_look_number : List Str := ["thing", "least", "most"]
abbrev P_look_number : List Str := ["thing", "least", "most"]
theorem nd_look_number : N_look_number.Nodup := by decide +kernel
theorem sc_look_number : FnScope N_look_number P_look_number (defScope s_look_number) := ⟨rfl, rfl, rfl, nd_look_number, rfl, by decide +kernel, by decide +kernel⟩
abbrev s_is_pool_size : Stmt := topS 13
abbrev N_is_pool_size : List Str := ["thing"]
abbrev P_is_pool_size : List Str := ["thing"]
theorem nd_is_pool_size : N_is_pool_size.Nodup := by decide +kernel
theorem sc_is_pool_size : FnScope N_is_pool_size P_is_pool_size (defScope s_is_pool_size) := ⟨rfl, rfl, rfl, nd_is_pool_size, rfl, by decide +kernel, by decide +kernel⟩
abbrev s_look_size : Stmt := topS 14
abbrev N_look_size : List Str := ["size"]
abbrev P_look_size : List Str := ["size"]
theorem nd_look_size : N_look_size.Nodup := by decide +kernel
theorem sc_look_size : FnScope N_look_size P_look_size (defScope s_look_size) := ⟨rfl, rfl, rfl, nd_look_size, rfl, by decide +kernel, by decide +kernel⟩
abbrev s_kind_in : Stmt := topS 15
abbrev N_kind_in : List Str := ["size"]
abbrev P_kind_in : List Str := ["size"]
theorem nd_kind_in : N_kind_in.Nodup := by decide +kernel
theorem sc_kind_in : FnScope N_kind_in P_kind_in (defScope s_kind_in) := ⟨rfl, rfl, rfl, nd_kind_in, rfl, by decide +kernel, by decide +kernel⟩
abbrev s_kind_of : Stmt := topS 16
abbrev N_kind_of : List Str := ["size"]
abbrev P_kind_of : List Str := ["size"]
theorem nd_kind_of : N_kind_of.Nodup := by decide +kernel
theorem sc_kind_of : FnScope N_kind_of P_kind_of (defScope s_kind_of) := ⟨rfl, rfl, rfl, nd_kind_of, rfl, by decide +kernel, by decide +kernel⟩
abbrev s_room_of : Stmt := topS 17
abbrev N_room_of : List Str := ["kind"]
abbrev P_room_of : List Str := ["kind"]
theorem nd_room_of : N_room_of.Nodup := by decide +kernel
theorem sc_room_of : FnScope N_room_of P_room_of (defScope s_room_of) := ⟨rfl, rfl, rfl, nd_room_of, rfl, by decide +kernel, by decide +kernel⟩
abbrev s_blocks_in : Stmt := topS 18
abbrev N_blocks_in : List Str := ["pool_size", "kind"]
abbrev P_blocks_in : List Str := ["pool_size", "kind"]
theorem nd_blocks_in : N_blocks_in.Nodup := by decide +kernel
theorem sc_blocks_in : FnScope N_blocks_in P_blocks_in (defScope s_blocks_in) := ⟨rfl, rfl, rfl, nd_blocks_in, rfl, by decide +kernel, by decide +kernel⟩
abbrev s__law_pick : Stmt := topS 20
abbrev N__law_pick : List Str := ["_law_script", "_law_k", "_law_many", "_law_cell", "_law_rest", "_law_turn", "_law_drawn"]
abbrev P__law_pick : List Str := ["_law_script", "_law_k", "_law_many"]
theorem nd__law_pick : N__law_pick.Nodup := by decide +kernel
theorem sc__law_pick : FnScope N__law_pick P__law_pick (defScope s__law_pick) := ⟨rfl, rfl, rfl, nd__law_pick, rfl, by decide +kernel, by decide +kernel⟩
abbrev s_law : Stmt := topS 21
abbrev N_law : List Str := ["_law_script", "_law_size", "_law_k", "_law_kind", "_law_room", "_law_page", "_law_many"]
abbrev P_law : List Str := ["_law_script"]
theorem nd_law : N_law.Nodup := by decide +kernel
theorem sc_law : FnScope N_law P_law (defScope s_law) := ⟨rfl, rfl, rfl, nd_law, rfl, by decide +kernel, by decide +kernel⟩
structure Txt (K : PySem.W.Frag) (mg : Str → Option Value) : Prop where
  b_bool : mg "bool" = none
  b_int : mg "int" = none
  b_isinstance : mg "isinstance" = none
  b_len : mg "len" = none
  b_list : mg "list" = none
  b_max : mg "max" = none
  b_range : mg "range" = none
  g_HEAD : ∃ t, mg "HEAD" = some (.int 48 t)
  g_LEAST_POOL : ∃ t, mg "LEAST_POOL" = some (.int 1072 t)
  g_MOST_POOL : ∃ t, mg "MOST_POOL" = some (.int 4096 t)
  g_MOST_SIZE : ∃ t, mg "MOST_SIZE" = some (.int 9999 t)
  g_MOST_SMALL : ∃ t, mg "MOST_SMALL" = some (.int 512 t)
  g_STEP : ∃ t, mg "STEP" = some (.int 16 t)
def sp_is_number : Sp := fun vs H Q _ => ∃ n lo hi : Int, vs = [.int n, .int lo, .int hi] ∧ Q (.bl (decide (lo ≤ n) && decide (n ≤ hi))) H
def sp_look_number : Sp := fun vs H Q _ => ∃ n lo hi : Int, vs = [.int n, .int lo, .int hi] ∧ lo ≤ n ∧ n ≤ hi ∧ Q .non H
def sp_is_pool_size : Sp := fun vs H Q _ => ∃ n : Int, vs = [.int n] ∧ 1072 ≤ n ∧ n ≤ 4096 ∧ n % 16 = 0 ∧ Q (.bl true) H
def sp_look_size : Sp := fun vs H Q _ => ∃ n : Int, vs = [.int n] ∧ 0 ≤ n ∧ n ≤ 9999 ∧ Q .non H
def kindV (n : Int) : V := if 512 < n then .non else .int (((if 1 > n then 1 else n) - 1) / 16)
def sp_kind_in : Sp := fun vs H Q _ => ∃ n : Int, vs = [.int n] ∧ Q (kindV n) H
def sp_kind_of : Sp := fun vs H Q _ => ∃ n : Int, vs = [.int n] ∧ 0 ≤ n ∧ n ≤ 9999 ∧ Q (kindV n) H
def sp_room_of : Sp := fun vs H Q _ => ∃ k : Int, vs = [.int k] ∧ 0 ≤ k ∧ k ≤ 31 ∧ Q (.int ((k + 1) * 16)) H
def sp_blocks_in : Sp := fun vs H Q _ => ∃ n k : Int, vs = [.int n, .int k] ∧ 1072 ≤ n ∧ n ≤ 4096 ∧ n % 16 = 0 ∧ 0 ≤ k ∧ k ≤ 31 ∧ Q (.int ((n - 48) / ((k + 1) * 16))) H

def pickLoop : Nat → Int → Int
  | 0, r => r
  | t + 1, r => if 0 < r then pickLoop t (r / 840) else r
def pickCell (ns : List Int) (k : Int) : Int := if ns = [] then 0 else ns.getD (k % (ns.length : Int)).toNat 0
def pick (ns : List Int) (k m : Int) : Int :=
  if 0 < pickLoop (k / (max ns.length 1 : Nat)).toNat (pickCell ns k / 10 ^ 18) then pickLoop (k / (max ns.length 1 : Nat)).toNat (pickCell ns k / 10 ^ 18) % 840 % m
  else (((pickCell ns k * 31 + 6151 * (k + 1)) * 40692 % 2147483399) * ((pickCell ns k * 31 + 6151 * (k + 1)) * 40692 % 2147483399) + ((pickCell ns k * 31 + 6151 * (k + 1)) * 40692 % 2147483399) / 31) % 2147483629 % m
def sp_pick (K : PySem.W.Frag) : Sp := fun vs H Q _ => ∃ (a : Addr) (ns : List Int) (k m : Int), vs = [.ref a, .int k, .int m] ∧ SqL K H a (ns.map V.int) ∧ ns.length ≤ 63 ∧ 0 ≤ k ∧ 0 < m ∧ ∀ H', Same H H' → Q (.int (pick ns k m)) H'
section
variable {P : Program} {w : World} {K : PySem.W.Frag} {mg : Str → Option Value} {base : Heap}
theorem ok_is_number (T : Txt K mg) (D : DefAt K mg "is_number" s_is_number P_is_number) : Fn P w K mg base CX0 1 "is_number" P_is_number sp_is_number := by
  refine D.fn fun f fd F => F.ok sc_is_number (fun vs H Q E h => ?_) (fun cdv A outer s H vs Q E hr h => ?_)
  · obtain ⟨n, lo, hi, rfl, _⟩ := h; rfl
  · obtain ⟨n, lo, hi, rfl, k⟩ := h
    refine ⟨_, (pss_one (ps_ret (pe_and (pe_callB call_isi (by rfl) T.b_isinstance (by decide +kernel) (pa_cons (pv 0) (pa_cons (pe_bty (n := "int") T.b_int) pa_nil))) (pe_and (pe_not (pe_callB call_isi (by rfl) T.b_isinstance (by decide +kernel) (pa_cons (pv 0) (pa_cons (pe_bty (n := "bool") T.b_bool) pa_nil)))) (pe_one (pe_chain op_le op_le (pv 1) (pv 0) (pv 2))))))), ?_⟩
    walk_at "rd"
    by_cases h1 : lo ≤ n
    · rw [decide_eq_true h1] at k ⊢
      exact ⟨_, rfl, _, _, rfl, rfl, k⟩
    · rw [decide_eq_false h1] at k ⊢
      exact k
theorem ok_look_number (T : Txt K mg) (D : DefAt K mg "look_number" s_look_number P_look_number) (c_is_number : Fn P w K mg base CX0 1 "is_number" P_is_number sp_is_number) : Fn P w K mg base CX0 2 "look_number" P_look_number sp_look_number := by
  refine D.fn fun f fd F => F.ok sc_look_number (fun vs H Q E h => ?_) (fun cdv A outer s H vs Q E hr h => ?_)
  · obtain ⟨n, lo, hi, rfl, _⟩ := h; rfl
  · obtain ⟨n, lo, hi, rfl, h1, h2, k⟩ := h
    refine ⟨_, (pss_one (ps_if (pt_not (pt_val (pe_fn c_is_number (hr.mono (by decide)) pass0 (pa_cons (pv 0) (pa_cons (pv 1) (pa_cons (pv 2) pa_nil)))))) (pss_one ps_never) pss_nil)), ?_⟩
    walk_at "rd"
    rw [decide_eq_true h1, decide_eq_true h2]
    exact k
theorem ok_is_pool_size (T : Txt K mg) (D : DefAt K mg "is_pool_size" s_is_pool_size P_is_pool_size) (c_is_number : Fn P w K mg base CX0 1 "is_number" P_is_number sp_is_number) : Fn P w K mg base CX0 2 "is_pool_size" P_is_pool_size sp_is_pool_size := by
  refine D.fn fun f fd F => F.ok sc_is_pool_size (fun vs H Q E h => ?_) (fun cdv A outer s H vs Q E hr h => ?_)
  · obtain ⟨n, rfl, _⟩ := h; rfl
  · obtain ⟨n, rfl, h1, h2, h3, k⟩ := h
    refine ⟨_, (pss_one (ps_ret (pe_and (pe_fn c_is_number (hr.mono (by decide)) pass0 (pa_cons (pv 0) (pa_cons (pe_gi T.g_LEAST_POOL) (pa_cons (pe_gi T.g_MOST_POOL) pa_nil)))) (pe_one (pe_cmpR op_eq (pe_op op_mod (pv 0) (pe_gi T.g_STEP)) pe_int (nomark _)))))), ?_⟩
    walk_at "rd"
    rw [decide_eq_true h1, decide_eq_true h2]
    walk_at "rd"
    show Q (V.bl (decide (V.int (n % 16) = V.int 0))) H
    rw [h3]
    exact k
theorem ok_look_size (T : Txt K mg) (D : DefAt K mg "look_size" s_look_size P_look_size) (c_is_number : Fn P w K mg base CX0 1 "is_number" P_is_number sp_is_number) : Fn P w K mg base CX0 2 "look_size" P_look_size sp_look_size := by
  refine D.fn fun f fd F => F.ok sc_look_size (fun vs H Q E h => ?_) (fun cdv A outer s H vs Q E hr h => ?_)
  · obtain ⟨n, rfl, _⟩ := h; rfl
  · obtain ⟨n, rfl, h1, h2, k⟩ := h
    refine ⟨_, (pss_one (ps_if (pt_not (pt_val (pe_fn c_is_number (hr.mono (by decide)) pass0 (pa_cons (pv 0) (pa_cons pe_int (pa_cons (pe_gi T.g_MOST_SIZE) pa_nil)))))) (pss_one ps_never) pss_nil)), ?_⟩
    walk_at "rd"
    rw [decide_eq_true h1, decide_eq_true h2]
    exact k
theorem ok_kind_in (T : Txt K mg) (D : DefAt K mg "kind_in" s_kind_in P_kind_in) : Fn P w K mg base CX0 1 "kind_in" P_kind_in sp_kind_in := by
  refine D.fn fun f fd F => F.ok sc_kind_in (fun vs H Q E h => ?_) (fun cdv A outer s H vs Q E hr h => ?_)
  · obtain ⟨n, rfl, _⟩ := h; rfl
  · obtain ⟨n, rfl, k⟩ := h
    refine ⟨_, (pss_cons (ps_if (pt_cmpR op_gt (pv 0) (pe_gi T.g_MOST_SMALL) (nomark _)) (pss_one (ps_ret pe_non)) pss_nil)
      (pss_one (ps_ret (pe_op op_fdiv (pe_op op_sub (pe_callB (call_max2 rfl) (by rfl) T.b_max (by decide +kernel) (pa_cons (pv 0) (pa_cons pe_int pa_nil))) pe_int) (pe_gi T.g_STEP))))), ?_⟩
    walk_at "rd"
    unfold kindV at k
    refine ite2 (fun h => ?_) (fun h => ?_)
    · rw [if_pos (of_decide_eq_true h)] at k
      exact k
    · rw [if_neg (fun z => h (decide_eq_true z))] at k
      walk_at "rd"
theorem ok_kind_of (T : Txt K mg) (D : DefAt K mg "kind_of" s_kind_of P_kind_of) (c_look_size : Fn P w K mg base CX0 2 "look_size" P_look_size sp_look_size) (c_kind_in : Fn P w K mg base CX0 1 "kind_in" P_kind_in sp_kind_in) : Fn P w K mg base CX0 3 "kind_of" P_kind_of sp_kind_of := by
  refine D.fn fun f fd F => F.ok sc_kind_of (fun vs H Q E h => ?_) (fun cdv A outer s H vs Q E hr h => ?_)
  · obtain ⟨n, rfl, _⟩ := h; rfl
  · obtain ⟨n, rfl, h1, h2, k⟩ := h
    refine ⟨_, (pss_cons (ps_expr (pe_fn c_look_size (hr.mono (by decide)) pass0 (pa_cons (pv 0) pa_nil)))
      (pss_one (ps_ret (pe_fn c_kind_in (hr.mono (by decide)) pass0 (pa_cons (pv 0) pa_nil))))), ?_⟩
    walk_at "rd"
theorem ok_room_of (T : Txt K mg) (D : DefAt K mg "room_of" s_room_of P_room_of) (c_look_number : Fn P w K mg base CX0 2 "look_number" P_look_number sp_look_number) : Fn P w K mg base CX0 3 "room_of" P_room_of sp_room_of := by
  refine D.fn fun f fd F => F.ok sc_room_of (fun vs H Q E h => ?_) (fun cdv A outer s H vs Q E hr h => ?_)
  · obtain ⟨n, rfl, _⟩ := h; rfl
  · obtain ⟨n, rfl, h1, h2, k⟩ := h
    refine ⟨_, (pss_cons (ps_expr (pe_fn c_look_number (hr.mono (by decide)) pass0 (pa_cons (pv 0) (pa_cons pe_int (pa_cons (pe_op op_sub (pe_op op_fdiv (pe_gi T.g_MOST_SMALL) (pe_gi T.g_STEP)) pe_int) pa_nil)))))
      (pss_one (ps_ret (pe_op op_mul (pe_op op_add (pv 0) pe_int) (pe_gi T.g_STEP))))), ?_⟩
    walk_at "rd"
theorem ok_blocks_in (T : Txt K mg) (D : DefAt K mg "blocks_in" s_blocks_in P_blocks_in) (c_is_pool_size : Fn P w K mg base CX0 2 "is_pool_size" P_is_pool_size sp_is_pool_size) (c_room_of : Fn P w K mg base CX0 3 "room_of" P_room_of sp_room_of) : Fn P w K mg base CX0 4 "blocks_in" P_blocks_in sp_blocks_in := by
  refine D.fn fun f fd F => F.ok sc_blocks_in (fun vs H Q E h => ?_) (fun cdv A outer s H vs Q E hr h => ?_)
  · obtain ⟨n, k, rfl, _⟩ := h; rfl
  · obtain ⟨n, k, rfl, h1, h2, h3, h4, h5, q⟩ := h
    refine ⟨_, (pss_cons (ps_if (pt_not (pt_val (pe_fn c_is_pool_size (hr.mono (by decide)) pass0 (pa_cons (pv 0) pa_nil)))) (pss_one ps_never) pss_nil)
      (pss_one (ps_ret (pe_op op_fdiv (pe_op op_sub (pv 0) (pe_gi T.g_HEAD)) (pe_fn c_room_of (hr.mono (by decide)) pass0 (pa_cons (pv 1) pa_nil)))))), ?_⟩
    walk_at "rd"

theorem ok__law_pick (T : Txt K mg) (D : DefAt K mg "_law_pick" s__law_pick P__law_pick) : Fn P w K mg base CX0 1 "_law_pick" P__law_pick (sp_pick K) := by
  refine D.fn fun f fd F => F.ok sc__law_pick (fun vs H Q E h => ?_) (fun cdv A outer s H vs Q E hr h => ?_)
  · obtain ⟨a, ns, k, m, rfl, _⟩ := h; rfl
  · obtain ⟨a, ns, k, m, rfl, hL, h1, h2, h3, q⟩ := h
    refine ⟨_, (PSs.hold (C8.pss_cut (ps_set (i := 3) nd__law_pick rfl (Or.inl rfl) (pe_ifExp (pt_cmpR (op_neNil hr.units) (pv 0) (pe_lst pa_nil) (nomark _)) (pe_ix ix_list (pv 0) (pe_op op_mod (pv 1) (pe_callB call_lenL (by rfl) T.b_len (by decide +kernel) (pa_cons (pv 0) pa_nil))) (fun _ _ => rfl)) pe_int))
      (pss_cons (ps_par (i := 4) (j := 5) (by rfl) nd__law_pick rfl rfl (by decide) rfl rfl (pa_cons (pe_op op_fdivW (pv 3) (pe_op op_pow pe_int pe_int)) (pa_cons (pe_op op_fdiv (pv 1) (pe_callB (call_max2 rfl) (by rfl) T.b_max (by decide +kernel) (pa_cons (pe_callB call_lenL (by rfl) T.b_len (by decide +kernel) (pa_cons (pv 0) pa_nil)) (pa_cons pe_int pa_nil)))) pa_nil)) (by rfl))
      (PSs.hold (C8.pss_cut (PS.hold (ps_while PassesOwn.never (PW.pt (pw_and (pt_cmpR op_gt (pv 4) pe_int (nomark _)) (pw_and1 (pt_cmpR op_gt (pv 5) pe_int (nomark _))))) (pss_one (ps_par (i := 4) (j := 5) (by rfl) nd__law_pick rfl rfl (by decide) rfl rfl (pa_cons (pe_op op_fdiv (pv 4) pe_int) (pa_cons (pe_op op_sub (pv 5) pe_int) pa_nil)) (by rfl)))))
      (pss_cons (ps_if (pt_cmpR op_gt (pv 4) pe_int (nomark _)) (pss_one (ps_ret (pe_op op_mod (pe_op op_mod (pv 4) pe_int) (pv 2)))) pss_nil)
      (pss_cons (ps_set (i := 6) nd__law_pick rfl (Or.inl rfl) (pe_op op_mod (pe_op op_mul (pe_op op_add (pe_op op_mul (pv 3) pe_int) (pe_op op_mul pe_int (pe_op op_add (pv 1) pe_int))) pe_int) pe_int))
      (pss_one (ps_ret (pe_op op_mod (pe_op op_mod (pe_op op_add (pe_op op_mul (pv 6) (pv 6)) (pe_op op_fdiv (pv 6) pe_int)) pe_int) (pv 2))))))))))), ?_⟩
    refine ⟨fun σ H' => Hold (σ = [some (.ref a), some (.int k), some (.int m), some (.int (pickCell ns k)), none, none, none] ∧ Same H H'), ?_, ?_⟩
    · walk_at "rd"
      rename_i p hp
      refine ite2 (fun h => ?_) (fun h => ?_)
      · have hn : ns ≠ [] := by intro z; subst z; cases h
        have hl : 0 < ns.length := List.length_pos_iff.mpr hn
        walk_at "rd"
        · show atI (List.map V.int ns) (k % ((List.map V.int ns).length : Int)) = _
          rw [List.length_map]
          exact atI_int (Int.emod_nonneg _ (by omega)) (Int.emod_lt_of_pos _ (by omega))
        · have e : pickCell ns k = ns.getD (k % (ns.length : Int)).toNat 0 := by
            unfold pickCell
            rw [if_neg hn]
          exact ⟨⟨by rw [e]; rfl, same_upd hp⟩⟩
      · have hn : ns = [] := by
          cases ns with
          | nil => rfl
          | cons x r => exact absurd rfl h
        subst hn
        exact ⟨⟨rfl, same_upd hp⟩⟩
    · rintro σ H1 ⟨rfl, s1⟩
      have hL1 := s1.seq hL
      walk_at "rd"
      rw [List.length_map]
      have em : (if (1 : Int) > (ns.length : Int) then (1 : Int) else (ns.length : Int)) = ((max ns.length 1 : Nat) : Int) := by
        split <;> omega
      rw [em]
      have h10 : (10 : Int) ^ (18 : Int).toNat = 10 ^ 18 := rfl
      have hk : 0 ≤ k / ((max ns.length 1 : Nat) : Int) := Int.ediv_nonneg h2 (by omega)
      refine Hold.mk ⟨fun σ H' => ∃ t : Int, σ = [some (.ref a), some (.int k), some (.int m), some (.int (pickCell ns k)), some (.int (pickLoop (k / (max ns.length 1 : Nat)).toNat (pickCell ns k / 10 ^ 18))), some (.int t), none] ∧ Same H H', ?_, ?_⟩
      · refine Hold.mk ⟨fun n σ H' => ∃ r t : Int, σ = [some (.ref a), some (.int k), some (.int m), some (.int (pickCell ns k)), some (.int r), some (.int t), none] ∧ Same H H' ∧ 0 ≤ t ∧ n = t.toNat ∧ pickLoop t.toNat r = pickLoop (k / (max ns.length 1 : Nat)).toNat (pickCell ns k / 10 ^ 18), ⟨_, _, _, rfl, s1, hk, rfl, rfl⟩, ?_⟩
        rintro n σ H2 ⟨r, t, rfl, s2, t0, rfl, e⟩
        walk_at "rd"
        refine ite2 (fun hr0 => ?_) (fun hr0 => ?_)
        · walk_at "rd"
          have hr1 : 0 < r := of_decide_eq_true hr0
          by_cases ht : 0 < t
          · rw [decide_eq_true ht]
            refine ⟨fun σ' H' => Hold (∃ m', m' < t.toNat ∧ ∃ r t : Int, σ' = [some (.ref a), some (.int k), some (.int m), some (.int (pickCell ns k)), some (.int r), some (.int t), none] ∧ Same H H' ∧ 0 ≤ t ∧ m' = t.toNat ∧ pickLoop t.toNat r = pickLoop (k / (max ns.length 1 : Nat)).toNat (pickCell ns k / 10 ^ 18)), fun _ _ z => z.out, ?_⟩
            walk_at "rd"
            refine Hold.mk ⟨(t - 1).toNat, by omega, _, _, rfl, s2, by show (0 : Int) ≤ t - 1; omega, rfl, ?_⟩
            rw [← e]
            have et : t.toNat = (t - 1).toNat + 1 := by omega
            rw [et]
            show _ = (if 0 < r then pickLoop (t - 1).toNat (r / 840) else r)
            rw [if_pos hr1]
          · rw [decide_eq_false ht]
            refine ⟨t, ?_, s2⟩
            have et : t.toNat = 0 := by omega
            rw [et] at e
            rw [← e]
            rfl
        · have hr1 : ¬ 0 < r := fun z => hr0 (decide_eq_true z)
          refine ⟨t, ?_, s2⟩
          have e2 : pickLoop t.toNat r = r := by
            cases t.toNat with
            | zero => rfl
            | succ n => show (if 0 < r then _ else r) = r; rw [if_neg hr1]
          rw [← e, e2]
      · rintro σ H2 ⟨t, rfl, s2⟩
        have q2 := q H2 s2
        unfold pick at q2
        walk_at "rd"
        refine ite2 (fun h => ?_) (fun h => ?_)
        · rw [if_pos (of_decide_eq_true h)] at q2
          walk_at "rd"
        · rw [if_neg (fun z => h (decide_eq_true z))] at q2
          walk_at "rd"
theorem pick_nn (ns : List Int) (k m : Int) (h : 0 < m) : 0 ≤ pick ns k m := by
  unfold pick
  split <;> exact Int.emod_nonneg _ (by omega)
theorem pick_lt (ns : List Int) (k m : Int) (h : 0 < m) : pick ns k m < m := by
  unfold pick
  split <;> exact Int.emod_lt_of_pos _ h
theorem blocks_fit (p k : Int) (p0 : 0 ≤ p) (p1 : p < 190) (k0 : 0 ≤ k) (k1 : k < 32) :
    48 + (1072 + 16 * p - 48) / ((k + 1) * 16) * ((k + 1) * 16) ≤ 1072 + 16 * p ∧ ¬ 48 + ((1072 + 16 * p - 48) / ((k + 1) * 16) + 1) * ((k + 1) * 16) ≤ 1072 + 16 * p ∧ ¬ (1072 + 16 * p - 48) / ((k + 1) * 16) < 2 := by
  have hr : 0 < (k + 1) * 16 := by omega
  have h1 := Int.ediv_mul_le (1072 + 16 * p - 48) (Int.ne_of_gt hr)
  have h2 := Int.lt_ediv_add_one_mul_self (1072 + 16 * p - 48) hr
  have h3 : 2 ≤ (1072 + 16 * p - 48) / ((k + 1) * 16) := (Int.le_ediv_iff_mul_le hr).mpr (by omega)
  omega
def sp_law (K : PySem.W.Frag) : Sp := fun vs H Q _ => ∃ (a : Addr) (ns : List Int), vs = [.ref a] ∧ SqL K H a (ns.map V.int) ∧ ns.length ≤ 63 ∧ ∀ H', Q (.bl true) H'
theorem ok_lawF (T : Txt K mg) {f : Addr} {fd : FuncData} (F : Fun K "law" "law" s_law f fd) (c_kind_of : Fn P w K mg base CX0 3 "kind_of" P_kind_of sp_kind_of) (c_room_of : Fn P w K mg base CX0 3 "room_of" P_room_of sp_room_of)
   (c_blocks_in : Fn P w K mg base CX0 4 "blocks_in" P_blocks_in sp_blocks_in) (c__law_pick : Fn P w K mg base CX0 1 "_law_pick" P__law_pick (sp_pick K)) : FnOk P w K mg base CX0 5 f fd P_law (sp_law K) := by
  refine F.ok sc_law (fun vs H Q E h => ?_) (fun cdv A outer s H vs Q E hr h => ?_)
  · obtain ⟨a, ns, rfl, _⟩ := h; rfl
  · obtain ⟨a, ns, rfl, hL, hlen, q⟩ := h
    refine ⟨_, (pss_cons (ps_for PassesOwn.never rfl (PI.hold (pi_list (pe_op op_cat (pe_op op_cat (pe_listRg rfl (by rfl) T.b_list (prg_1 (by rfl) T.b_range pe_int)) (pe_lc (own := [("_law_k", 2)]) (g := gName 2) (tt := tYes) rfl nd_law (PI.hold (pi_range1 (by rfl) T.b_range (pa_cons pe_int pa_nil))) (blkOk_by (own := [("_law_k", 2)]) (by kernel_rfl)) (fun _ _ _ _ _ => (pg_name (i := 2) nd_law rfl (Or.inl rfl))) (fun _ _ _ _ _ => pts_nil) (fun _ _ _ _ _ => (pe_op op_add pe_int (pe_fn c__law_pick (hr.mono (by decide)) pass0 (pa_cons (pv 0) (pa_cons (pv 2) (pa_cons pe_int pa_nil)))))))) (pe_lst (pa_cons pe_int pa_nil))))) (pg_name (i := 1) nd_law rfl (Or.inl rfl)) (pss_cons (ps_set (i := 3) nd_law rfl (Or.inl rfl) (pe_fn c_kind_of (hr.mono (by decide)) pass0 (pa_cons (pv 1) pa_nil)))
      (pss_cons (ps_if (PW.pt (pw_or (pt_cmpR op_ne (pe_cmpR op_isN (pv 3) pe_non (nomark _)) (pe_cmpR op_gt (pv 1) pe_int (nomark _)) (nomark _)) (pw_or1 (pt_val (pe_callB call_isi (by rfl) T.b_isinstance (by decide +kernel) (pa_cons (pv 3) (pa_cons (pe_bty (n := "bool") T.b_bool) pa_nil))))))) (pss_one (ps_ret pe_bl)) pss_nil)
      (pss_one (ps_if (pt_cmpR op_notN (pv 3) pe_non (nomark _)) (pss_cons (ps_set (i := 4) nd_law rfl (Or.inl rfl) (pe_fn c_room_of (hr.mono (by decide)) pass0 (pa_cons (pv 3) pa_nil)))
      (pss_one (ps_if (PW.pt (pw_or (pt_cmpR op_ne (pv 4) (pe_op op_mul pe_int (pe_op op_add (pv 3) pe_int)) (nomark _)) (pw_or (pt_not (pt_cmpR op_le (pe_callB (call_max2 rfl) (by rfl) T.b_max (by decide +kernel) (pa_cons (pv 1) (pa_cons pe_int pa_nil))) (pv 4) (nomark _))) (pw_or1 (pt_not (pt_cmpR op_lt (pe_op op_sub (pv 4) pe_int) (pe_callB (call_max2 rfl) (by rfl) T.b_max (by decide +kernel) (pa_cons (pv 1) (pa_cons pe_int pa_nil))) (nomark _))))))) (pss_one (ps_ret pe_bl)) pss_nil))) pss_nil)))))
      (pss_cons (ps_for PassesOwn.never rfl (PI.hold (pi_range1 (by rfl) T.b_range (pa_cons pe_int pa_nil))) (pg_name (i := 2) nd_law rfl (Or.inl rfl)) (pss_cons (ps_par (i := 5) (j := 3) (by rfl) nd_law rfl rfl (by decide) rfl rfl (pa_cons (pe_op op_add pe_int (pe_op op_mul pe_int (pe_fn c__law_pick (hr.mono (by decide)) pass0 (pa_cons (pv 0) (pa_cons (pe_op op_add pe_int (pv 2)) (pa_cons pe_int pa_nil)))))) (pa_cons (pe_fn c__law_pick (hr.mono (by decide)) pass0 (pa_cons (pv 0) (pa_cons (pe_op op_add pe_int (pv 2)) (pa_cons pe_int pa_nil)))) pa_nil)) (by rfl))
      (pss_cons (ps_set (i := 6) nd_law rfl (Or.inl rfl) (pe_fn c_blocks_in (hr.mono (by decide)) pass0 (pa_cons (pv 5) (pa_cons (pv 3) pa_nil))))
      (pss_one (ps_if (PW.pt (pw_or (pt_not (pt_cmpR op_le (pe_op op_add pe_int (pe_op op_mul (pv 6) (pe_fn c_room_of (hr.mono (by decide)) pass0 (pa_cons (pv 3) pa_nil)))) (pv 5) (nomark _))) (pw_or (pt_cmpR op_le (pe_op op_add pe_int (pe_op op_mul (pe_op op_add (pv 6) pe_int) (pe_fn c_room_of (hr.mono (by decide)) pass0 (pa_cons (pv 3) pa_nil)))) (pv 5) (nomark _)) (pw_or1 (pt_cmpR op_lt (pv 6) pe_int (nomark _)))))) (pss_one (ps_ret pe_bl)) pss_nil)))))
      (pss_one (ps_ret (pe_and (pe_cmpR op_eq (pe_fn c_blocks_in (hr.mono (by decide)) pass0 (pa_cons pe_int (pa_cons pe_int pa_nil))) pe_int (nomark _)) (pe_and (pe_cmpR op_eq (pe_fn c_blocks_in (hr.mono (by decide)) pass0 (pa_cons pe_int (pa_cons pe_int pa_nil))) pe_int (nomark _)) (pe_one (pe_cmpR op_eq (pe_fn c_kind_of (hr.mono (by decide)) pass0 (pa_cons pe_int pa_nil)) pe_int (nomark _))))))))), ?_⟩
    walk_at "rd"
    rename_i p1 hp1
    refine Hold.mk fun d hd => ?_
    refine lc_range (lo := 0) (n := 5) (fun i H' => Hold (∃ zs : List Int, H' d = some (.lst (zs.map V.int)) ∧ zs.length = i ∧ (∀ z ∈ zs, 0 ≤ z ∧ z ≤ 9999) ∧ Same (upd H p1 (.lst (rgV 0 531))) H')) ⟨[], upd_same, rfl, by simp, same_upd hd⟩ ?_ ?_
    · rintro i H1 hi ⟨zs, h1, h2, h3, s1⟩
      have hL1 : SqL K H1 a (ns.map V.int) := s1.seq (SqL.upd hp1 hL)
      walk_at "rd"
      intro H2 s2
      have g2 := s2 _ _ h1
      walk_at "rd"
      refine ⟨zs ++ [531 + pick ns (0 + i) 9469], by rw [upd_same, List.map_append]; rfl, by simp [h2], ?_, same_mut (s1.trans s2) hd⟩
      have e1 := pick_nn ns (0 + i) 9469 (by decide)
      have e2 := pick_lt ns (0 + i) 9469 (by decide)
      intro z hz
      rcases List.mem_append.mp hz with hz | hz
      · exact h3 z hz
      · rcases List.mem_singleton.mp hz with rfl
        omega
    · rintro H1 ⟨zs, h1, h2, h3, s1⟩
      have g1 : H1 p1 = some (.lst (rgV 0 531)) := s1 _ _ upd_same
      have hL1 : SqL K H1 a (ns.map V.int) := s1.seq (SqL.upd hp1 hL)
      walk_at "rd"
      rename_i p2 hp2 p3 hp3 p4 hp4
      have hit : ∀ x ∈ rgV 0 531 ++ zs.map V.int ++ [V.int 9999], ∃ n : Int, x = .int n ∧ 0 ≤ n ∧ n ≤ 9999 := by
        intro x hx
        rcases List.mem_append.mp hx with hx | hx
        · rcases List.mem_append.mp hx with hx | hx
          · unfold rgV at hx
            obtain ⟨i, hi, rfl⟩ := List.mem_map.mp hx
            have := List.mem_range.mp hi
            exact ⟨_, rfl, by omega, by omega⟩
          · obtain ⟨z, hz, rfl⟩ := List.mem_map.mp hx
            exact ⟨z, rfl, h3 z hz⟩
        · rcases List.mem_singleton.mp hx with rfl
          exact ⟨9999, rfl, by decide, by decide⟩
      generalize rgV 0 531 ++ zs.map V.int ++ [V.int 9999] = its at hit ⊢
      refine Hold.mk (for_list (K := K) (a := p4) (xs := its) (fun i σ H' => Hold (∃ o1 o2 o3 o4 o5 o6, σ = [some (.ref a), o1, o2, o3, o4, o5, o6] ∧ Same _ H')) ⟨_, _, _, _, _, _, rfl, Same.refl _⟩ ?_ ?_ ?_)
      · rintro i σ H2 hi ⟨o1, o2, o3, o4, o5, o6, rfl, s2⟩
        exact s2.seq sqL_new
      · rintro i x σ H2 hi ⟨o1, o2, o3, o4, o5, o6, rfl, s2⟩
        obtain ⟨n, rfl, n0, n1⟩ := hit x (List.mem_of_getElem? hi)
        walk_at "rd"
        unfold kindV
        by_cases h512 : 512 < n
        · rw [if_pos h512]
          walk_at "rd"
          refine ifF (by simp [h512]) ?_
          walk_at "rd"
          exact ⟨_, _, _, _, _, _, rfl, s2⟩
        · rw [if_neg h512]
          have hm : (if (1 : Int) > n then (1 : Int) else n) = max n 1 := by split <;> omega
          rw [hm]
          have hk0 : 0 ≤ (max n 1 - 1) / 16 := by omega
          have hk1 : (max n 1 - 1) / 16 ≤ 31 := by omega
          walk_at "rd"
          refine ifF (by simp [h512]) ?_
          walk_at "rd"
          refine ifF ?_ ?_
          · simp
            omega
          walk_at "rd"
          refine ifF ?_ ?_
          · rw [hm]
            simp
            omega
          walk_at "rd"
          refine ifF ?_ ?_
          · rw [hm]
            simp
            omega
          walk_at "rd"
          exact ⟨_, _, _, _, _, _, rfl, s2⟩
      · rintro σ H2 ⟨o1, o2, o3, o4, o5, o6, rfl, s2⟩
        have hL2 : SqL K H2 a (ns.map V.int) := s2.seq (SqL.upd hp4 (SqL.upd hp3 (SqL.upd hp2 hL1)))
        walk_at "rd"
        refine Hold.mk (for_range (lo := 0) (n := 6) (fun i σ H' => Hold (∃ o1 o2 o3 o4 o5 o6, σ = [some (.ref a), o1, o2, o3, o4, o5, o6] ∧ Same H2 H')) ⟨_, _, _, _, _, _, rfl, Same.refl _⟩ ?_ ?_)
        · rintro i σ H3 hi ⟨o1, o2, o3, o4, o5, o6, rfl, s3⟩
          have hL3 := s3.seq hL2
          walk_at "rd"
          intro H4 s4
          have hL4 := s4.seq hL3
          walk_at "rd"
          intro H5 s5
          have hL5 := s5.seq hL4
          have e1 := pick_nn ns (10 + (0 + i)) 190 (by decide)
          have e2 := pick_lt ns (10 + (0 + i)) 190 (by decide)
          have e3 := pick_nn ns (20 + (0 + i)) 32 (by decide)
          have e4 := pick_lt ns (20 + (0 + i)) 32 (by decide)
          obtain ⟨f1, f2, f3⟩ := blocks_fit (pick ns (10 + (0 + i)) 190) (pick ns (20 + (0 + i)) 32) e1 e2 e3 e4
          walk_at "rd"
          refine ifF (by simp only [decide_eq_true f1]; rfl) ?_
          walk_at "rd"
          refine ifF (decide_eq_false f2) ?_
          walk_at "rd"
          refine ifF (decide_eq_false f3) ?_
          exact ⟨_, _, _, _, _, _, rfl, s3.trans (s4.trans s5)⟩
        · rintro σ H3 ⟨o1, o2, o3, o4, o5, o6, rfl, s3⟩
          walk_at "rd"
          exact q _
end
/-! ### what the top has written, the head -/
theorem all_mk {P : Program} {w : World} {K : PySem.W.Frag} {h : Heap} {mg : Str → Option Value} {fa : Addr} (X : K.In h) (G : h.Ns mainGlobals mg) (hfa : mg "law" = some (.ref fa))
    {f0 : Addr} {od0 an0 : Option Addr} {sl0 : Array (Option Value)} {oc0 kV0 dc0 pm0 cd0 ct0 : Value}
    (a0 : PySem.W.nsIn K mainGlobals "is_number" = some (some (.ref f0))) (l0 : K.lookup f0 = some ⟨oc0, od0, .func (PySem.W.fnOf "is_number" "is_number" (defArgs s_is_number) (defBody s_is_number) (defScope s_is_number) .none kV0 dc0 pm0 an0 cd0 ct0), sl0⟩) (c0 : PySem.W.codeIn K cd0 "is_number" = true) (k0 : PySem.W.keepIn K (.ref f0) = true)
    {f1 : Addr} {od1 an1 : Option Addr} {sl1 : Array (Option Value)} {oc1 kV1 dc1 pm1 cd1 ct1 : Value}
    (a1 : PySem.W.nsIn K mainGlobals "look_number" = some (some (.ref f1))) (l1 : K.lookup f1 = some ⟨oc1, od1, .func (PySem.W.fnOf "look_number" "look_number" (defArgs s_look_number) (defBody s_look_number) (defScope s_look_number) .none kV1 dc1 pm1 an1 cd1 ct1), sl1⟩) (c1 : PySem.W.codeIn K cd1 "look_number" = true) (k1 : PySem.W.keepIn K (.ref f1) = true)
    {f2 : Addr} {od2 an2 : Option Addr} {sl2 : Array (Option Value)} {oc2 kV2 dc2 pm2 cd2 ct2 : Value}
    (a2 : PySem.W.nsIn K mainGlobals "is_pool_size" = some (some (.ref f2))) (l2 : K.lookup f2 = some ⟨oc2, od2, .func (PySem.W.fnOf "is_pool_size" "is_pool_size" (defArgs s_is_pool_size) (defBody s_is_pool_size) (defScope s_is_pool_size) .none kV2 dc2 pm2 an2 cd2 ct2), sl2⟩) (c2 : PySem.W.codeIn K cd2 "is_pool_size" = true) (k2 : PySem.W.keepIn K (.ref f2) = true)
    {f3 : Addr} {od3 an3 : Option Addr} {sl3 : Array (Option Value)} {oc3 kV3 dc3 pm3 cd3 ct3 : Value}
    (a3 : PySem.W.nsIn K mainGlobals "look_size" = some (some (.ref f3))) (l3 : K.lookup f3 = some ⟨oc3, od3, .func (PySem.W.fnOf "look_size" "look_size" (defArgs s_look_size) (defBody s_look_size) (defScope s_look_size) .none kV3 dc3 pm3 an3 cd3 ct3), sl3⟩) (c3 : PySem.W.codeIn K cd3 "look_size" = true) (k3 : PySem.W.keepIn K (.ref f3) = true)
    {f4 : Addr} {od4 an4 : Option Addr} {sl4 : Array (Option Value)} {oc4 kV4 dc4 pm4 cd4 ct4 : Value}
    (a4 : PySem.W.nsIn K mainGlobals "kind_in" = some (some (.ref f4))) (l4 : K.lookup f4 = some ⟨oc4, od4, .func (PySem.W.fnOf "kind_in" "kind_in" (defArgs s_kind_in) (defBody s_kind_in) (defScope s_kind_in) .none kV4 dc4 pm4 an4 cd4 ct4), sl4⟩) (c4 : PySem.W.codeIn K cd4 "kind_in" = true) (k4 : PySem.W.keepIn K (.ref f4) = true)
    {f5 : Addr} {od5 an5 : Option Addr} {sl5 : Array (Option Value)} {oc5 kV5 dc5 pm5 cd5 ct5 : Value}
    (a5 : PySem.W.nsIn K mainGlobals "kind_of" = some (some (.ref f5))) (l5 : K.lookup f5 = some ⟨oc5, od5, .func (PySem.W.fnOf "kind_of" "kind_of" (defArgs s_kind_of) (defBody s_kind_of) (defScope s_kind_of) .none kV5 dc5 pm5 an5 cd5 ct5), sl5⟩) (c5 : PySem.W.codeIn K cd5 "kind_of" = true) (k5 : PySem.W.keepIn K (.ref f5) = true)
    {f6 : Addr} {od6 an6 : Option Addr} {sl6 : Array (Option Value)} {oc6 kV6 dc6 pm6 cd6 ct6 : Value}
    (a6 : PySem.W.nsIn K mainGlobals "room_of" = some (some (.ref f6))) (l6 : K.lookup f6 = some ⟨oc6, od6, .func (PySem.W.fnOf "room_of" "room_of" (defArgs s_room_of) (defBody s_room_of) (defScope s_room_of) .none kV6 dc6 pm6 an6 cd6 ct6), sl6⟩) (c6 : PySem.W.codeIn K cd6 "room_of" = true) (k6 : PySem.W.keepIn K (.ref f6) = true)
    {f7 : Addr} {od7 an7 : Option Addr} {sl7 : Array (Option Value)} {oc7 kV7 dc7 pm7 cd7 ct7 : Value}
    (a7 : PySem.W.nsIn K mainGlobals "blocks_in" = some (some (.ref f7))) (l7 : K.lookup f7 = some ⟨oc7, od7, .func (PySem.W.fnOf "blocks_in" "blocks_in" (defArgs s_blocks_in) (defBody s_blocks_in) (defScope s_blocks_in) .none kV7 dc7 pm7 an7 cd7 ct7), sl7⟩) (c7 : PySem.W.codeIn K cd7 "blocks_in" = true) (k7 : PySem.W.keepIn K (.ref f7) = true)
    {f8 : Addr} {od8 an8 : Option Addr} {sl8 : Array (Option Value)} {oc8 kV8 dc8 pm8 cd8 ct8 : Value}
    (a8 : PySem.W.nsIn K mainGlobals "_law_pick" = some (some (.ref f8))) (l8 : K.lookup f8 = some ⟨oc8, od8, .func (PySem.W.fnOf "_law_pick" "_law_pick" (defArgs s__law_pick) (defBody s__law_pick) (defScope s__law_pick) .none kV8 dc8 pm8 an8 cd8 ct8), sl8⟩) (c8 : PySem.W.codeIn K cd8 "_law_pick" = true) (k8 : PySem.W.keepIn K (.ref f8) = true)
    {f9 : Addr} {od9 an9 : Option Addr} {sl9 : Array (Option Value)} {oc9 kV9 dc9 pm9 cd9 ct9 : Value}
    (a9 : PySem.W.nsIn K mainGlobals "law" = some (some (.ref f9))) (l9 : K.lookup f9 = some ⟨oc9, od9, .func (PySem.W.fnOf "law" "law" (defArgs s_law) (defBody s_law) (defScope s_law) .none kV9 dc9 pm9 an9 cd9 ct9), sl9⟩) (c9 : PySem.W.codeIn K cd9 "law" = true) (k9 : PySem.W.keepIn K (.ref f9) = true)
    (z_bool : PySem.W.nsIn K mainGlobals "bool" = some none)
    (z_int : PySem.W.nsIn K mainGlobals "int" = some none)
    (z_isinstance : PySem.W.nsIn K mainGlobals "isinstance" = some none)
    (z_len : PySem.W.nsIn K mainGlobals "len" = some none)
    (z_list : PySem.W.nsIn K mainGlobals "list" = some none)
    (z_max : PySem.W.nsIn K mainGlobals "max" = some none)
    (z_range : PySem.W.nsIn K mainGlobals "range" = some none)
    {t_HEAD : Tok} (g_HEAD : PySem.W.nsIn K mainGlobals "HEAD" = some (some (.int 48 t_HEAD)))
    {t_LEAST_POOL : Tok} (g_LEAST_POOL : PySem.W.nsIn K mainGlobals "LEAST_POOL" = some (some (.int 1072 t_LEAST_POOL)))
    {t_MOST_POOL : Tok} (g_MOST_POOL : PySem.W.nsIn K mainGlobals "MOST_POOL" = some (some (.int 4096 t_MOST_POOL)))
    {t_MOST_SIZE : Tok} (g_MOST_SIZE : PySem.W.nsIn K mainGlobals "MOST_SIZE" = some (some (.int 9999 t_MOST_SIZE)))
    {t_MOST_SMALL : Tok} (g_MOST_SMALL : PySem.W.nsIn K mainGlobals "MOST_SMALL" = some (some (.int 512 t_MOST_SMALL)))
    {t_STEP : Tok} (g_STEP : PySem.W.nsIn K mainGlobals "STEP" = some (some (.int 16 t_STEP)))
    : ∃ fd : FuncData, (∀ (s : Shared) (v : Value), BindsTo s fd ⟨[v], []⟩ [("_law_script", v)]) ∧ ∀ base : Heap, K.In base → base.Ns mainGlobals mg → FnOk P w K mg base CX0 5 fa fd P_law (sp_law K) := by
  have e := hfa.symm.trans (PySem.W.mg_of X G a9)
  cases e
  have T : Txt K mg := ⟨PySem.W.mg_none_of X G z_bool, PySem.W.mg_none_of X G z_int, PySem.W.mg_none_of X G z_isinstance, PySem.W.mg_none_of X G z_len, PySem.W.mg_none_of X G z_list, PySem.W.mg_none_of X G z_max, PySem.W.mg_none_of X G z_range, ⟨_, PySem.W.mg_of X G g_HEAD⟩, ⟨_, PySem.W.mg_of X G g_LEAST_POOL⟩, ⟨_, PySem.W.mg_of X G g_MOST_POOL⟩, ⟨_, PySem.W.mg_of X G g_MOST_SIZE⟩, ⟨_, PySem.W.mg_of X G g_MOST_SMALL⟩, ⟨_, PySem.W.mg_of X G g_STEP⟩⟩
  have D0 : DefAt K mg "is_number" s_is_number P_is_number := ⟨_, _, PySem.W.mg_of X G a0, fun_mk (st := s_is_number) l0 c0 k0, (fun_mk (st := s_is_number) l0 c0 k0).binds fun _ _ _ _ _ _ us hl => match us, hl with | [_, _, _], _ => rfl⟩
  have D1 : DefAt K mg "look_number" s_look_number P_look_number := ⟨_, _, PySem.W.mg_of X G a1, fun_mk (st := s_look_number) l1 c1 k1, (fun_mk (st := s_look_number) l1 c1 k1).binds fun _ _ _ _ _ _ us hl => match us, hl with | [_, _, _], _ => rfl⟩
  have D2 : DefAt K mg "is_pool_size" s_is_pool_size P_is_pool_size := ⟨_, _, PySem.W.mg_of X G a2, fun_mk (st := s_is_pool_size) l2 c2 k2, (fun_mk (st := s_is_pool_size) l2 c2 k2).binds fun _ _ _ _ _ _ us hl => match us, hl with | [_], _ => rfl⟩
  have D3 : DefAt K mg "look_size" s_look_size P_look_size := ⟨_, _, PySem.W.mg_of X G a3, fun_mk (st := s_look_size) l3 c3 k3, (fun_mk (st := s_look_size) l3 c3 k3).binds fun _ _ _ _ _ _ us hl => match us, hl with | [_], _ => rfl⟩
  have D4 : DefAt K mg "kind_in" s_kind_in P_kind_in := ⟨_, _, PySem.W.mg_of X G a4, fun_mk (st := s_kind_in) l4 c4 k4, (fun_mk (st := s_kind_in) l4 c4 k4).binds fun _ _ _ _ _ _ us hl => match us, hl with | [_], _ => rfl⟩
  have D5 : DefAt K mg "kind_of" s_kind_of P_kind_of := ⟨_, _, PySem.W.mg_of X G a5, fun_mk (st := s_kind_of) l5 c5 k5, (fun_mk (st := s_kind_of) l5 c5 k5).binds fun _ _ _ _ _ _ us hl => match us, hl with | [_], _ => rfl⟩
  have D6 : DefAt K mg "room_of" s_room_of P_room_of := ⟨_, _, PySem.W.mg_of X G a6, fun_mk (st := s_room_of) l6 c6 k6, (fun_mk (st := s_room_of) l6 c6 k6).binds fun _ _ _ _ _ _ us hl => match us, hl with | [_], _ => rfl⟩
  have D7 : DefAt K mg "blocks_in" s_blocks_in P_blocks_in := ⟨_, _, PySem.W.mg_of X G a7, fun_mk (st := s_blocks_in) l7 c7 k7, (fun_mk (st := s_blocks_in) l7 c7 k7).binds fun _ _ _ _ _ _ us hl => match us, hl with | [_, _], _ => rfl⟩
  have D8 : DefAt K mg "_law_pick" s__law_pick P__law_pick := ⟨_, _, PySem.W.mg_of X G a8, fun_mk (st := s__law_pick) l8 c8 k8, (fun_mk (st := s__law_pick) l8 c8 k8).binds fun _ _ _ _ _ _ us hl => match us, hl with | [_, _, _], _ => rfl⟩
  have D9 : DefAt K mg "law" s_law P_law := ⟨_, _, PySem.W.mg_of X G a9, fun_mk (st := s_law) l9 c9 k9, (fun_mk (st := s_law) l9 c9 k9).binds fun _ _ _ _ _ _ us hl => match us, hl with | [_], _ => rfl⟩
  refine ⟨PySem.W.fnOf "law" "law" (defArgs s_law) (defBody s_law) (defScope s_law) .none kV9 dc9 pm9 an9 cd9 ct9, fun s v => .of_eq rfl, fun base _ _ => ?_⟩
  have c_is_number := ok_is_number (P := P) (w := w) (base := base) T D0 
  have c_look_number := ok_look_number (P := P) (w := w) (base := base) T D1 (c_is_number := c_is_number)
  have c_is_pool_size := ok_is_pool_size (P := P) (w := w) (base := base) T D2 (c_is_number := c_is_number)
  have c_look_size := ok_look_size (P := P) (w := w) (base := base) T D3 (c_is_number := c_is_number)
  have c_kind_in := ok_kind_in (P := P) (w := w) (base := base) T D4 
  have c_kind_of := ok_kind_of (P := P) (w := w) (base := base) T D5 (c_look_size := c_look_size) (c_kind_in := c_kind_in)
  have c_room_of := ok_room_of (P := P) (w := w) (base := base) T D6 (c_look_number := c_look_number)
  have c_blocks_in := ok_blocks_in (P := P) (w := w) (base := base) T D7 (c_is_pool_size := c_is_pool_size) (c_room_of := c_room_of)
  have c__law_pick := ok__law_pick (P := P) (w := w) (base := base) T D8 
  exact ok_lawF T (fun_mk (st := s_law) l9 c9 k9) (c_kind_of := c_kind_of) (c_blocks_in := c_blocks_in) (c_room_of := c_room_of) (c__law_pick := c__law_pick)
theorem walk {l : PySem.W.OpenLaw} {q : Program} {loose : List Str} {XP : (Str → Option Value) → Heap → Prop} {YP : World → Heap → Prop} {d : DefRec} {K : Params → PySem.W.Frag} (hn : l.most = some 63) (hdf : d.params.defaults = [])
    (hY : ∀ (w : World) (h : Heap), YP w h → (K w.params).In h)
    (F : ∀ (w : World) (mg : Str → Option Value) (fa : Addr) (h : Heap), (K w.params).In h → h.Ns mainGlobals mg → mg d.name = some (.ref fa) →
      ∃ fd : FuncData, (∀ (s : Shared) (u : Value), BindsTo s fd ⟨[u], []⟩ [("_law_script", u)]) ∧ ∀ base : Heap, (K w.params).In base → base.Ns mainGlobals mg → FnOk l.prog w (K w.params) mg base CX0 5 fa fd ["_law_script"] (sp_law (K w.params))) :
    PySem.W.WalkO q loose XP YP l.row.toRowW d [] (fun f vs => PySem.call f vs) :=
  L2.walk_of (n := 63) (k := 5) (x := "_law_script") (CX := fun _ => CX0) (sp := fun w => sp_law (K w.params)) hn (by decide) hdf ⟨rfl, by decide, by decide⟩ hY F (fun _ _ a ns hl _ hS => ⟨a, ns, rfl, hS, hl, fun _ => rfl⟩) fun _ _ _ _ _ z => z
end My
open PySem PySem.W PyProof.Rows in
set_option maxRecDepth 100000 in
set_option maxHeartbeats 0 in
theorem PySem.Challenge.cw_pyheap_k01_whole_sizes_holds : PySem.Challenge.rw_pyheap_k01_whole_sizes.Holds := by
  w_on; o_law; k_head; (case hw => w_witness2)
  k_fill
  refine My.walk (l := PySem.Challenge.rw_pyheap_k01_whole_sizes) rfl rfl (fun w h Y => PySem.W.kIn_of Y) ?F
  case F =>
    intro w mg fa h KX G hmg
    refine' My.all_mk KX G hmg ?a0 ?l0 ?c0 ?k0 ?a1 ?l1 ?c1 ?k1 ?a2 ?l2 ?c2 ?k2 ?a3 ?l3 ?c3 ?k3 ?a4 ?l4 ?c4 ?k4 ?a5 ?l5 ?c5 ?k5 ?a6 ?l6 ?c6 ?k6 ?a7 ?l7 ?c7 ?k7 ?a8 ?l8 ?c8 ?k8 ?a9 ?l9 ?c9 ?k9 ?z_bool ?z_int ?z_isinstance ?z_len ?z_list ?z_max ?z_range ?g_HEAD ?g_LEAST_POOL ?g_MOST_POOL ?g_MOST_SIZE ?g_MOST_SMALL ?g_STEP
    (case a0 => k_is)
    (case l0 => k_is)
    (case c0 => k_is)
    (case k0 => k_is)
    (case a1 => k_is)
    (case l1 => k_is)
    (case c1 => k_is)
    (case k1 => k_is)
    (case a2 => k_is)
    (case l2 => k_is)
    (case c2 => k_is)
    (case k2 => k_is)
    (case a3 => k_is)
    (case l3 => k_is)
    (case c3 => k_is)
    (case k3 => k_is)
    (case a4 => k_is)
    (case l4 => k_is)
    (case c4 => k_is)
    (case k4 => k_is)
    (case a5 => k_is)
    (case l5 => k_is)
    (case c5 => k_is)
    (case k5 => k_is)
    (case a6 => k_is)
    (case l6 => k_is)
    (case c6 => k_is)
    (case k6 => k_is)
    (case a7 => k_is)
    (case l7 => k_is)
    (case c7 => k_is)
    (case k7 => k_is)
    (case a8 => k_is)
    (case l8 => k_is)
    (case c8 => k_is)
    (case k8 => k_is)
    (case a9 => k_is)
    (case l9 => k_is)
    (case c9 => k_is)
    (case k9 => k_is)
    (case z_bool => k_is)
    (case z_int => k_is)
    (case z_isinstance => k_is)
    (case z_len => k_is)
    (case z_list => k_is)
    (case z_max => k_is)
    (case z_range => k_is)
    (case g_HEAD => k_is)
    (case g_LEAST_POOL => k_is)
    (case g_MOST_POOL => k_is)
    (case g_MOST_SIZE => k_is)
    (case g_MOST_SMALL => k_is)
    (case g_STEP => k_is)
