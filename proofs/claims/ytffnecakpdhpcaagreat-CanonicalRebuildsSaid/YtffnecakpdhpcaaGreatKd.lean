/- Part of the proof; no condition. -/
import Derived.Test.YtffnecakpdhpcaaGreatKc
set_option linter.unusedVariables false
set_option linter.unusedSimpArgs false
namespace Go.Proofs.YtffnecakpdhpcaaGreat
open Go.RowKit
set_option maxRecDepth 100000
noncomputable section
abbrev qE:Shs:=⟨[],[],[],([],[])⟩
abbrev qS(s:List (Nat×Sh))(c:List (Nat×List Sh)):Shs:=⟨s,c,[],([],[])⟩
abbrev N1:CT:=.nilr true
abbrev N0:CT:=.nilr false
abbrev CW:CT:=.int .u16
abbrev CB:CT:=.int .u8
abbrev uL(l:List CT):List Sh:=l.map fun c=>.d c ()
abbrev pP(t r:Nat):Nat×Sh:=(t,.ptr ⟨r,0,[]⟩ [0])
abbrev sP(t:Nat)(c:CT):Nat×Sh:=(t,.d c ())
abbrev Lk(n:Nat)(c:Ctr):Prop:=Lvl E0 TT noB n c
theorem aN{m:Nat}:Ls E0 TT noB m []:=trivial
theorem aC{n m:Nat}{c:Ctr}{l:List Ctr}(h:Lk n c)(r:Ls E0 TT noB m l)(hm:n≤m:=by decide):Ls E0 TT noB m (c::l):=⟨h.mono hm,r⟩
abbrev lx(i n:Nat)(s:List (Nat×Sh))(c:List (Nat×List Sh))(b:Nat):IK:=⟨i,n,⟨s,c,[],([],[])⟩,[(.exit 0,⟨s++[(b,.d .bool ())],c,[],([],[])⟩)]⟩
abbrev LI:Type:=List Int
abbrev LLI:Type:=List (List Int)
abbrev LDCe:Type:=List DCe
abbrev LDCn:Type:=List DCn
abbrev LDIn:Type:=List DIn
abbrev LDOp:Type:=List DOp
abbrev LDLn:Type:=List DLn
abbrev LDTh:Type:=List DTh
abbrev LDOu:Type:=List DOu
abbrev LDTs:Type:=List DTs
abbrev LDEn:Type:=List DEn
abbrev LLCn:Type:=List (List DCn)
abbrev T00:Type:=Bool×LI×Unit
abbrev T01:Type:=Int×Bool×Unit
abbrev T02:Type:=Int×Int×Unit
abbrev T03:Type:=Int×LI×Unit
abbrev T04:Type:=LDCe×LDLn×Unit
abbrev T05:Type:=LDOp×LDCn×Unit
abbrev T06:Type:=LI×Bool×Unit
abbrev T07:Type:=LI×Int×Unit
abbrev T08:Type:=LI×LLI×Unit
abbrev T09:Type:=LLCn×LDOp×Unit
abbrev T0a:Type:=LLCn×LDTs×Unit
abbrev T0b:Type:=Unit×Unit×Unit
abbrev T0c:Type:=Bool×T02
abbrev T0d:Type:=Int×T01
abbrev T0e:Type:=Int×T02
abbrev T0f:Type:=Int×Int×LDLn×Unit
abbrev T0g:Type:=Int×T03
abbrev T0h:Type:=Int×T06
abbrev T0i:Type:=Int×T07
abbrev T0j:Type:=LDCe×T02
abbrev T0k:Type:=LDCn×T02
abbrev T0l:Type:=LDIn×T08
abbrev T0m:Type:=LDTs×T02
abbrev T0n:Type:=LI×T02
abbrev T0o:Type:=LI×T03
abbrev T0p:Type:=LI×LLI×LI×Unit
abbrev T0q:Type:=LLCn×LDTs×LI×Unit
abbrev T0r:Type:=Bool×Bool×Bool×Bool×Unit
abbrev T0s:Type:=Int×T0c
abbrev T0t:Type:=Int×Bool×T07
abbrev T0u:Type:=Int×Int×T00
abbrev T0v:Type:=Int×T0e
abbrev T0w:Type:=Int×Int×T04
abbrev T0x:Type:=Int×T0h
abbrev T0y:Type:=Int×T0i
abbrev T0z:Type:=Int×Int×T09
abbrev T0A:Type:=Int×T0o
abbrev T0B:Type:=LDCe×T0d
abbrev T0C:Type:=LDCe×LDLn×T04
abbrev T0D:Type:=LDCn×T0d
abbrev T0E:Type:=LDCn×T0k
abbrev T0F:Type:=LDTh×T0g
abbrev T0G:Type:=LDTs×T0d
abbrev T0H:Type:=LI×T0d
abbrev T0I:Type:=LI×T0e
abbrev T0J:Type:=LI×T0i
abbrev T0K:Type:=LI×T0n
abbrev T0L:Type:=LLCn×LDTs×T0a
abbrev T0M:Type:=Unit×T0i
abbrev T0N:Type:=Unit×Unit×T04
abbrev T0O:Type:=Unit×Unit×T08
abbrev T0P:Type:=Unit×Unit×T09
abbrev T0Q:Type:=Unit×Unit×T0a
abbrev T0R:Type:=Unit×Unit×Unit×LDOp×Unit
abbrev T0S:Type:=Bool×T0v
abbrev T0T:Type:=Bool×T0P
abbrev T0U:Type:=Int×T0t
abbrev T0V:Type:=Int×Int×Bool×T09
abbrev T0W:Type:=Int×T0v
abbrev T0X:Type:=Int×Int×T0l
abbrev T0Y:Type:=Int×Int×T0q
abbrev T0Z:Type:=Int×T0P
abbrev T10:Type:=LDCe×LDLn×LI×Int×LLCn×Unit
abbrev T11:Type:=LDIn×LI×LLI×T02
abbrev T12:Type:=LDIn×LI×LLI×T0a
abbrev T13:Type:=LI×T0y
abbrev T14:Type:=LI×Int×LDCe×LDLn×LDTh×Unit
abbrev T15:Type:=LLCn×T0z
abbrev T16:Type:=Unit×Int×Unit×T0b
abbrev T17:Type:=Unit×Unit×T0p
abbrev T18:Type:=Unit×Unit×LLCn×T05
abbrev T19:Type:=Bool×T12
abbrev T1a:Type:=Bool×T14
abbrev T1b:Type:=Bool×T16
abbrev T1c:Type:=Int×Bool×T0O
abbrev T1d:Type:=Int×Int×Bool×T0l
abbrev T1e:Type:=Int×T0W
abbrev T1f:Type:=Int×Int×T0y
abbrev T1g:Type:=Int×Int×T0L
abbrev T1h:Type:=Int×Int×T0O
abbrev T1i:Type:=Int×T0Z
abbrev T1j:Type:=Int×T14
abbrev T1k:Type:=LDCe×LDLn×LI×Int×LLCn×LDCn×Unit
abbrev T1l:Type:=LDCe×LDLn×T0N
abbrev T1m:Type:=LDIn×T0X
abbrev T1n:Type:=LDIn×LI×LLI×T0d
abbrev T1o:Type:=LI×T0U
abbrev T1p:Type:=LI×Int×LDCe×LDLn×LDTh×Bool×Unit
abbrev T1q:Type:=LI×T13
abbrev T1r:Type:=LI×LI×LLI×LLCn×LDOp×LDOu×Unit
abbrev T1s:Type:=LI×LLI×T0O
abbrev T1t:Type:=LLCn×LDOp×T0P
abbrev T1u:Type:=LLCn×LDTs×T0Q
abbrev T1v:Type:=LLCn×LDTs×Unit×Unit×LLCn×Unit×Unit
abbrev T1w:Type:=LLI×T0X
abbrev T1x:Type:=Unit×Unit×LLCn×Nat×T05
abbrev T1y:Type:=Int×Int×Bool×T0C
abbrev T1z:Type:=Int×Int×Bool×T0L
abbrev T1A:Type:=Int×T1c
abbrev T1B:Type:=Int×Int×T0T
abbrev T1C:Type:=Int×T1e
abbrev T1D:Type:=Int×Int×Int×Int×Unit×T01
abbrev T1E:Type:=Int×T1h
abbrev T1F:Type:=Int×Int×LI×Int×Int×LLI×LDCn×Unit
abbrev T1G:Type:=Int×T1j
abbrev T1H:Type:=Int×Int×T17
abbrev T1I:Type:=Int×T1m
abbrev T1J:Type:=Int×LI×Int×T0s
abbrev T1K:Type:=LDIn×T1d
abbrev T1L:Type:=LDTs×T1g
abbrev T1M:Type:=LLI×T1d
abbrev T1N:Type:=LLI×T1i
abbrev T1O:Type:=LLI×Int×Int×T0R
abbrev T1P:Type:=Int×Int×Bool×T17
abbrev T1Q:Type:=Int×T1B
abbrev T1R:Type:=Int×T1C
abbrev T1S:Type:=Int×Int×Int×Int×Int×Int×LDCn×LDCn×Unit
abbrev T1T:Type:=Int×Int×Int×Int×Int×Int×T0b
abbrev T1U:Type:=Int×T1H
abbrev T1V:Type:=Int×Int×T1r
abbrev T1W:Type:=Int×Int×T1s
abbrev T1X:Type:=Int×Int×T1t
abbrev T1Y:Type:=Int×LDCe×T1e
abbrev T1Z:Type:=Int×T1K
abbrev T20:Type:=LDTh×T1G
abbrev T21:Type:=LDTs×T1z
abbrev T22:Type:=LI×Int×Unit×Unit×Unit×T0l
abbrev T23:Type:=LI×Int×Unit×Unit×T0O
abbrev T24:Type:=LLCn×Int×Int×T12
abbrev T25:Type:=Int×Int×Bool×T1r
abbrev T26:Type:=Int×Int×Bool×T1s
abbrev T27:Type:=Int×Int×Bool×T1t
abbrev T28:Type:=Int×T1R
abbrev T29:Type:=Int×Int×Int×Int×Int×Int×LDCn×LDCn×Int×Unit
abbrev T2a:Type:=Int×Int×Int×T1i
abbrev T2b:Type:=Int×T1X
abbrev T2c:Type:=Int×LI×Int×Int×Bool×T0I
abbrev T2d:Type:=Int×T22
abbrev T2e:Type:=LDIn×LI×LLI×LI×Int×T0N
abbrev T2f:Type:=LDLn×Int×Int×T1l
abbrev T2g:Type:=LDOu×T1V
abbrev T2h:Type:=LI×Int×Int×T1o
abbrev T2i:Type:=LI×Int×LI×Int×Int×T0I
abbrev T2j:Type:=LI×LI×Int×Int×T10
abbrev T2k:Type:=LI×LLCn×Int×Int×LDCn×T0z
abbrev T2l:Type:=LLCn×Int×Int×T19
abbrev T2m:Type:=LLCn×T1X
abbrev T2n:Type:=LLI×T1V
abbrev T2o:Type:=LLI×T1W
abbrev T2p:Type:=Int×Bool×T22
abbrev T2q:Type:=Int×Int×Int×Int×Int×Bool×Bool×Bool×T00
abbrev T2r:Type:=Int×Int×Int×Int×Int×Int×Int×Int×Int×LDCn×Unit
abbrev T2s:Type:=Int×Int×T1S
abbrev T2t:Type:=Int×T2d
abbrev T2u:Type:=Int×Int×T23
abbrev T2v:Type:=LI×Int×Int×Int×Int×Int×T0M
abbrev T2w:Type:=LI×Int×Int×LI×T1f
abbrev T2x:Type:=LI×Int×LDCe×LDLn×LDTh×T14
abbrev T2y:Type:=LI×T2c
abbrev T2z:Type:=LI×LI×Int×Int×Bool×T10
abbrev T2A:Type:=LLI×T26
abbrev T2B:Type:=Unit×Int×Unit×Unit×Unit×T14
abbrev T2C:Type:=Unit×Int×Unit×Unit×Unit×LI×Int×LDCe×LDLn×Unit×Unit
abbrev T2D:Type:=Bool×T2x
abbrev T2E:Type:=Int×Int×T2e
abbrev T2F:Type:=Int×Int×T2o
abbrev T2G:Type:=Int×T2B
abbrev T2H:Type:=LDCe×Int×Int×T1Y
abbrev T2I:Type:=LDCn×Nat×Int×Int×Int×T1x
abbrev T2J:Type:=LI×Int×Bool×LI×T1C
abbrev T2K:Type:=LI×Int×Int×LI×Int×Int×T0U
abbrev T2L:Type:=LI×Int×Int×LI×Int×Int×T13
abbrev T2M:Type:=LLI×Int×Int×LI×Int×Int×T18
abbrev T2N:Type:=ByteArray×LDCn×T2s
abbrev T2O:Type:=Int×Bool×T2B
abbrev T2P:Type:=Int×Int×Bool×T2e
abbrev T2Q:Type:=Int×Int×T2q
abbrev T2R:Type:=Int×Int×Int×Int×LDCn×Int×T1b
abbrev T2S:Type:=Int×Int×Int×Int×Nat×T1H
abbrev T2T:Type:=Int×Int×Int×LDTs×Int×Int×T1u
abbrev T2U:Type:=Int×Int×Int×LLCn×Int×Int×T1v
abbrev T2V:Type:=Int×Int×T2x
abbrev T2W:Type:=Int×Int×T2C
abbrev T2X:Type:=LDIn×LI×LLI×LI×Int×LDCe×LDLn×LDTh×T0Q
abbrev T2Y:Type:=LI×Int×Int×T2c
abbrev T2Z:Type:=LI×Int×Int×T2h
abbrev T30:Type:=LLI×T2E
abbrev T31:Type:=Int×Int×Bool×T2q
abbrev T32:Type:=Int×Int×Bool×T2C
abbrev T33:Type:=LDIn×LI×LLI×LI×Int×LLCn×LDTs×Unit×Int×Unit×Unit×Unit×LLCn×Unit
abbrev T34:Type:=LI×Int×LDCe×LDLn×LDTh×T1Y
abbrev T35:Type:=LI×Int×LI×Int×Int×Int×Int×T1k
abbrev T36:Type:=Int×Int×LLI×Int×Int×LI×T1W
abbrev T37:Type:=LDIn×LI×LLI×LI×Int×LDCe×LDLn×LDTh×LI×Int×LI×Int×(List (LLCn×LDTs))×Unit
abbrev T38:Type:=LI×Int×LI×Int×Int×Int×Int×Bool×T1k
abbrev T39:Type:=Int×Int×T33
abbrev T3a:Type:=Int×Int×LDIn×LI×LLI×T2B
abbrev T3b:Type:=LDTh×Int×Int×T2X
abbrev T3c:Type:=LI×Int×LDCe×LDLn×LDTh×T2B
abbrev T3d:Type:=Int×Int×Bool×T33
abbrev T3e:Type:=Int×Int×T37
abbrev T3f:Type:=Int×LLI×Int×Int×LI×T2E
abbrev T3g:Type:=LDIn×LI×LLI×T34
abbrev T3h:Type:=LDTh×Int×Int×Bool×T2X
abbrev T3i:Type:=Nat×LI×Int×LDCe×LDLn×LDTh×Int×Int×Int×Int×Int×Int×T0E
abbrev T3j:Type:=LDIn×LI×LLI×LI×Int×LLCn×LDTs×T2B
abbrev T3k:Type:=LDIn×LI×LLI×LI×Int×LLCn×LDTs×T2C
abbrev T3l:Type:=Int×Int×LDCn×T39
abbrev T3m:Type:=Int×Int×LI×Int×Int×Int×Int×Int×Int×Int×Int×Int×Int×Int×T0r
abbrev T3n:Type:=LDIn×LI×LLI×LI×Int×LDCe×LDLn×LDTh×LI×Int×LI×Int×LLCn×LDTs×(List (LLCn×LDTs))×(List (LI×Int))×Unit
abbrev T3o:Type:=LDIn×LI×LLI×LI×Int×LDCe×LDLn×LDTh×LI×LI×LLI×LLCn×LDOp×LDOu×LI×LLI×LDEn×LI×Unit
abbrev T3p:Type:=LDIn×LI×LLI×LI×Int×LDTs×Int×T2G
abbrev T3q:Type:=LDTh×Int×Int×T3c
abbrev T3r:Type:=Int×Int×Int×Int×Int×Int×LDCn×LDCn×Int×Int×Int×Int×LDCn×Int×T0S
abbrev T3s:Type:=Int×Int×T3k
abbrev T3t:Type:=LDIn×LI×LLI×LI×Int×LDCe×LDLn×LDTh×LI×LI×LLI×LLCn×LDOp×LDOu×LI×LLI×LDEn×LI×LI×Unit
abbrev T3u:Type:=Nat×Int×LI×Int×LDCe×LDLn×LDTh×LDIn×LI×LLI×T28
abbrev T3v:Type:=Int×Bool×T3o
abbrev T3w:Type:=Int×ByteArray×Int×Int×T3g
abbrev T3x:Type:=Int×Int×Bool×T3k
abbrev T3y:Type:=LDIn×LI×LLI×LI×Int×LLCn×LDTs×LLCn×T2W
abbrev T3z:Type:=LDTs×Int×Int×T3j
abbrev T3A:Type:=LLCn×T3s
abbrev T3B:Type:=Int×Int×Int×T3o
abbrev T3C:Type:=Int×Int×Int×Int×T3n
abbrev T3D:Type:=Int×Int×Int×T3t
abbrev T3E:Type:=Int×LLCn×Int×Int×LDCn×T3s
abbrev T3F:Type:=LDIn×LI×LLI×LI×Int×LLCn×LDTs×Int×LLCn×Int×Int×LDCn×T2W
abbrev T3G:Type:=LDIn×LI×LLI×LI×Int×LDCe×LDLn×LDTh×LI×LI×LLI×LLCn×LDOp×LDOu×LI×LLI×LDEn×LI×T1D
abbrev T3H:Type:=LI×Int×LDCe×LDLn×LDTh×LDIn×LI×LLI×Int×Int×Int×Int×Int×Int×LDCn×LDCn×Int×Int×Int×Int×LDCn×T0s
abbrev T3I:Type:=Nat×Bool×LI×Int×LDCe×LDLn×LDTh×T3r
abbrev T3J:Type:=Nat×T3H
abbrev T3K:Type:=Unit×Int×Unit×Unit×Unit×LI×Int×LDCe×LDLn×LDTh×Int×Int×Int×Int×Int×Int×Int×LDCn×T1Y
abbrev T3L:Type:=Unit×Unit×Unit×Unit×Unit×Unit×Int×Int×Int×Int×Unit×Int×Bool×LI×LI×LLI×LLCn×LDOp×LDOu×Int×Int×Int×Int×LDCn×T01
abbrev T3M:Type:=Unit×Unit×Unit×Unit×Unit×Unit×Int×Int×Int×Int×Unit×Int×Bool×LI×LI×LLI×LLCn×LDOp×LDOu×T1D
abbrev T3N:Type:=LI×Int×LDCe×LDLn×LDTh×LDIn×LI×LLI×T3r
abbrev T3O:Type:=LDIn×LI×LLI×LI×Int×LDCe×LDLn×LDTh×Unit×Unit×LLCn×LDTs×Int×LDCe×Int×Int×Int×Int×T2r
abbrev T3P:Type:=LDTh×Int×Int×T3G
abbrev T3Q:Type:=Nat×LDCn×Int×Int×T3N
abbrev T3R:Type:=Nat×LDCn×Int×Int×Bool×T3N
abbrev T3S:Type:=LDIn×LI×LLI×LI×Int×LLCn×LDTs×T3K
abbrev T3T:Type:=LI×Int×Unit×Unit×Unit×Unit×Int×Unit×Unit×Unit×LDIn×LI×LLI×LI×Int×LDCe×LDLn×LDTh×LI×LI×LLI×LLCn×LDOp×LDOu×LI×LLI×LDEn×LI×T14
abbrev T3U:Type:=LDTh×Int×Int×LDCe×Int×Int×T3O
abbrev T3V:Type:=LI×LI×LLI×LLCn×LDOp×LDOu×Int×Int×Int×Int×Int×Int×LDCn×LDCn×Unit×Unit×Unit×Unit×Unit×Unit×Int×Int×Int×Int×Unit×Int×Bool×LI×LI×LLI×LLCn×LDOp×LDOu×LI×Unit
abbrev T3W:Type:=Int×Bool×LDIn×LI×LLI×LI×Int×LDCe×LDLn×LDTh×LI×LI×LLI×LLCn×LDOp×LDOu×LI×LLI×LDEn×LI×Int×Int×Int×Int×Int×Int×LDCn×LDCn×T1D
abbrev T3X:Type:=LDTh×Int×Int×LDCe×Int×Int×Bool×T3O
abbrev T3Y:Type:=LI×Int×Unit×Unit×Unit×Unit×Int×Unit×Unit×Unit×LDIn×LI×LLI×LI×Int×LDCe×LDLn×LDTh×LI×LI×LLI×LLCn×LDOp×LDOu×LI×LLI×LDEn×LI×LI×Int×LDCe×LDLn×LDTh×T0a
abbrev T3Z:Type:=Unit×Unit×Unit×Unit×Int×Unit×Unit×Unit×Unit×Unit×Unit×Unit×Unit×Unit×Unit×Unit×Unit×Unit×T3o
abbrev T40:Type:=Unit×Unit×Unit×Unit×Int×Unit×Unit×Unit×Unit×Unit×Unit×Unit×Unit×Unit×Unit×Unit×Unit×Unit×LDIn×LI×LLI×LI×Int×LDCe×LDLn×LDTh×LI×LI×LLI×LLCn×LDOp×LDOu×LI×LLI×Unit×LI×Unit
abbrev T41:Type:=Int×Int×T3Y
abbrev T42:Type:=Int×T3Z
abbrev T43:Type:=Int×T40
abbrev T44:Type:=LDCn×Int×Int×T3V
abbrev T45:Type:=LDIn×LI×LLI×LI×Int×LDTs×Int×Int×LDCn×Int×Int×T3K
abbrev T46:Type:=LDIn×LI×LLI×Unit×Int×Unit×Unit×Unit×Int×Int×Int×Int×Int×Int×Unit×Unit×LI×Int×LDCe×LDLn×LDTh×Int×LDCe×Int×Int×Int×Int×T2s
abbrev T47:Type:=LDIn×LI×LLI×Unit×Int×Unit×Unit×Unit×Int×Int×Int×Int×Int×Int×Unit×Unit×LI×Int×LDCe×LDLn×LDTh×Int×LDCe×Int×Int×Int×Int×Int×Int×Int×Int×Int×Int×Int×Int×LDCn×Unit×Unit
abbrev T48:Type:=Bool×T47
abbrev T49:Type:=Int×Int×Bool×T3Y
abbrev T4a:Type:=Int×T42
abbrev T4b:Type:=LI×T42
abbrev T4c:Type:=Int×Int×T46
abbrev T4d:Type:=Int×Int×T47
abbrev T4e:Type:=Int×T4b
abbrev T4f:Type:=LDTs×Int×Int×LDCn×Int×Int×T3S
abbrev T4g:Type:=Int×Int×Bool×T46
abbrev T4h:Type:=Int×Int×Int×T41
noncomputable abbrev ap1{A0 D R:Type}(f:A0→R)(h:A0×D):R:=f h.1
noncomputable abbrev ap2{A0 A1 D R:Type}(f:A0→A1→R)(h:A0×A1×D):R:=f h.1 h.2.1
noncomputable abbrev ap3{A0 A1 A2 D R:Type}(f:A0→A1→A2→R)(h:A0×A1×A2×D):R:=f h.1 h.2.1 h.2.2.1
noncomputable abbrev ap4{A0 A1 A2 A3 D R:Type}(f:A0→A1→A2→A3→R)(h:A0×A1×A2×A3×D):R:=f h.1 h.2.1 h.2.2.1 h.2.2.2.1
noncomputable abbrev ap5{A0 A1 A2 A3 A4 D R:Type}(f:A0→A1→A2→A3→A4→R)(h:A0×A1×A2×A3×A4×D):R:=f h.1 h.2.1 h.2.2.1 h.2.2.2.1 h.2.2.2.2.1
noncomputable abbrev ap6{A0 A1 A2 A3 A4 A5 D R:Type}(f:A0→A1→A2→A3→A4→A5→R)(h:A0×A1×A2×A3×A4×A5×D):R:=f h.1 h.2.1 h.2.2.1 h.2.2.2.1 h.2.2.2.2.1 h.2.2.2.2.2.1
noncomputable abbrev ap7{A0 A1 A2 A3 A4 A5 A6 D R:Type}(f:A0→A1→A2→A3→A4→A5→A6→R)(h:A0×A1×A2×A3×A4×A5×A6×D):R:=f h.1 h.2.1 h.2.2.1 h.2.2.2.1 h.2.2.2.2.1 h.2.2.2.2.2.1 h.2.2.2.2.2.2.1
noncomputable abbrev ap8{A0 A1 A2 A3 A4 A5 A6 A7 D R:Type}(f:A0→A1→A2→A3→A4→A5→A6→A7→R)(h:A0×A1×A2×A3×A4×A5×A6×A7×D):R:=f h.1 h.2.1 h.2.2.1 h.2.2.2.1 h.2.2.2.2.1 h.2.2.2.2.2.1 h.2.2.2.2.2.2.1 h.2.2.2.2.2.2.2.1
noncomputable abbrev ap9{A0 A1 A2 A3 A4 A5 A6 A7 A8 D R:Type}(f:A0→A1→A2→A3→A4→A5→A6→A7→A8→R)(h:A0×A1×A2×A3×A4×A5×A6×A7×A8×D):R:=f h.1 h.2.1 h.2.2.1 h.2.2.2.1 h.2.2.2.2.1 h.2.2.2.2.2.1 h.2.2.2.2.2.2.1 h.2.2.2.2.2.2.2.1 h.2.2.2.2.2.2.2.2.1
noncomputable abbrev ap10{A0 A1 A2 A3 A4 A5 A6 A7 A8 A9 D R:Type}(f:A0→A1→A2→A3→A4→A5→A6→A7→A8→A9→R)(h:A0×A1×A2×A3×A4×A5×A6×A7×A8×A9×D):R:=f h.1 h.2.1 h.2.2.1 h.2.2.2.1 h.2.2.2.2.1 h.2.2.2.2.2.1 h.2.2.2.2.2.2.1 h.2.2.2.2.2.2.2.1 h.2.2.2.2.2.2.2.2.1 h.2.2.2.2.2.2.2.2.2.1
noncomputable abbrev ap11{A0 A1 A2 A3 A4 A5 A6 A7 A8 A9 A10 D R:Type}(f:A0→A1→A2→A3→A4→A5→A6→A7→A8→A9→A10→R)(h:A0×A1×A2×A3×A4×A5×A6×A7×A8×A9×A10×D):R:=f h.1 h.2.1 h.2.2.1 h.2.2.2.1 h.2.2.2.2.1 h.2.2.2.2.2.1 h.2.2.2.2.2.2.1 h.2.2.2.2.2.2.2.1 h.2.2.2.2.2.2.2.2.1 h.2.2.2.2.2.2.2.2.2.1 h.2.2.2.2.2.2.2.2.2.2.1
noncomputable abbrev ap14{A0 A1 A2 A3 A4 A5 A6 A7 A8 A9 A10 A11 A12 A13 D R:Type}(f:A0→A1→A2→A3→A4→A5→A6→A7→A8→A9→A10→A11→A12→A13→R)(h:A0×A1×A2×A3×A4×A5×A6×A7×A8×A9×A10×A11×A12×A13×D):R:=f h.1 h.2.1 h.2.2.1 h.2.2.2.1 h.2.2.2.2.1 h.2.2.2.2.2.1 h.2.2.2.2.2.2.1 h.2.2.2.2.2.2.2.1 h.2.2.2.2.2.2.2.2.1 h.2.2.2.2.2.2.2.2.2.1 h.2.2.2.2.2.2.2.2.2.2.1 h.2.2.2.2.2.2.2.2.2.2.2.1 h.2.2.2.2.2.2.2.2.2.2.2.2.1 h.2.2.2.2.2.2.2.2.2.2.2.2.2.1
noncomputable abbrev ap16{A0 A1 A2 A3 A4 A5 A6 A7 A8 A9 A10 A11 A12 A13 A14 A15 D R:Type}(f:A0→A1→A2→A3→A4→A5→A6→A7→A8→A9→A10→A11→A12→A13→A14→A15→R)(h:A0×A1×A2×A3×A4×A5×A6×A7×A8×A9×A10×A11×A12×A13×A14×A15×D):R:=f h.1 h.2.1 h.2.2.1 h.2.2.2.1 h.2.2.2.2.1 h.2.2.2.2.2.1 h.2.2.2.2.2.2.1 h.2.2.2.2.2.2.2.1 h.2.2.2.2.2.2.2.2.1 h.2.2.2.2.2.2.2.2.2.1 h.2.2.2.2.2.2.2.2.2.2.1 h.2.2.2.2.2.2.2.2.2.2.2.1 h.2.2.2.2.2.2.2.2.2.2.2.2.1 h.2.2.2.2.2.2.2.2.2.2.2.2.2.1 h.2.2.2.2.2.2.2.2.2.2.2.2.2.2.1 h.2.2.2.2.2.2.2.2.2.2.2.2.2.2.2.1
noncomputable abbrev ap18{A0 A1 A2 A3 A4 A5 A6 A7 A8 A9 A10 A11 A12 A13 A14 A15 A16 A17 D R:Type}(f:A0→A1→A2→A3→A4→A5→A6→A7→A8→A9→A10→A11→A12→A13→A14→A15→A16→A17→R)(h:A0×A1×A2×A3×A4×A5×A6×A7×A8×A9×A10×A11×A12×A13×A14×A15×A16×A17×D):R:=f h.1 h.2.1 h.2.2.1 h.2.2.2.1 h.2.2.2.2.1 h.2.2.2.2.2.1 h.2.2.2.2.2.2.1 h.2.2.2.2.2.2.2.1 h.2.2.2.2.2.2.2.2.1 h.2.2.2.2.2.2.2.2.2.1 h.2.2.2.2.2.2.2.2.2.2.1 h.2.2.2.2.2.2.2.2.2.2.2.1 h.2.2.2.2.2.2.2.2.2.2.2.2.1 h.2.2.2.2.2.2.2.2.2.2.2.2.2.1 h.2.2.2.2.2.2.2.2.2.2.2.2.2.2.1 h.2.2.2.2.2.2.2.2.2.2.2.2.2.2.2.1 h.2.2.2.2.2.2.2.2.2.2.2.2.2.2.2.2.1 h.2.2.2.2.2.2.2.2.2.2.2.2.2.2.2.2.2.1
noncomputable abbrev ap19{A0 A1 A2 A3 A4 A5 A6 A7 A8 A9 A10 A11 A12 A13 A14 A15 A16 A17 A18 D R:Type}(f:A0→A1→A2→A3→A4→A5→A6→A7→A8→A9→A10→A11→A12→A13→A14→A15→A16→A17→A18→R)(h:A0×A1×A2×A3×A4×A5×A6×A7×A8×A9×A10×A11×A12×A13×A14×A15×A16×A17×A18×D):R:=f h.1 h.2.1 h.2.2.1 h.2.2.2.1 h.2.2.2.2.1 h.2.2.2.2.2.1 h.2.2.2.2.2.2.1 h.2.2.2.2.2.2.2.1 h.2.2.2.2.2.2.2.2.1 h.2.2.2.2.2.2.2.2.2.1 h.2.2.2.2.2.2.2.2.2.2.1 h.2.2.2.2.2.2.2.2.2.2.2.1 h.2.2.2.2.2.2.2.2.2.2.2.2.1 h.2.2.2.2.2.2.2.2.2.2.2.2.2.1 h.2.2.2.2.2.2.2.2.2.2.2.2.2.2.1 h.2.2.2.2.2.2.2.2.2.2.2.2.2.2.2.1 h.2.2.2.2.2.2.2.2.2.2.2.2.2.2.2.2.1 h.2.2.2.2.2.2.2.2.2.2.2.2.2.2.2.2.2.1 h.2.2.2.2.2.2.2.2.2.2.2.2.2.2.2.2.2.2.1
noncomputable abbrev ap20{A0 A1 A2 A3 A4 A5 A6 A7 A8 A9 A10 A11 A12 A13 A14 A15 A16 A17 A18 A19 D R:Type}(f:A0→A1→A2→A3→A4→A5→A6→A7→A8→A9→A10→A11→A12→A13→A14→A15→A16→A17→A18→A19→R)(h:A0×A1×A2×A3×A4×A5×A6×A7×A8×A9×A10×A11×A12×A13×A14×A15×A16×A17×A18×A19×D):R:=f h.1 h.2.1 h.2.2.1 h.2.2.2.1 h.2.2.2.2.1 h.2.2.2.2.2.1 h.2.2.2.2.2.2.1 h.2.2.2.2.2.2.2.1 h.2.2.2.2.2.2.2.2.1 h.2.2.2.2.2.2.2.2.2.1 h.2.2.2.2.2.2.2.2.2.2.1 h.2.2.2.2.2.2.2.2.2.2.2.1 h.2.2.2.2.2.2.2.2.2.2.2.2.1 h.2.2.2.2.2.2.2.2.2.2.2.2.2.1 h.2.2.2.2.2.2.2.2.2.2.2.2.2.2.1 h.2.2.2.2.2.2.2.2.2.2.2.2.2.2.2.1 h.2.2.2.2.2.2.2.2.2.2.2.2.2.2.2.2.1 h.2.2.2.2.2.2.2.2.2.2.2.2.2.2.2.2.2.1 h.2.2.2.2.2.2.2.2.2.2.2.2.2.2.2.2.2.2.1 h.2.2.2.2.2.2.2.2.2.2.2.2.2.2.2.2.2.2.2.1
noncomputable abbrev ap21{A0 A1 A2 A3 A4 A5 A6 A7 A8 A9 A10 A11 A12 A13 A14 A15 A16 A17 A18 A19 A20 D R:Type}(f:A0→A1→A2→A3→A4→A5→A6→A7→A8→A9→A10→A11→A12→A13→A14→A15→A16→A17→A18→A19→A20→R)(h:A0×A1×A2×A3×A4×A5×A6×A7×A8×A9×A10×A11×A12×A13×A14×A15×A16×A17×A18×A19×A20×D):R:=f h.1 h.2.1 h.2.2.1 h.2.2.2.1 h.2.2.2.2.1 h.2.2.2.2.2.1 h.2.2.2.2.2.2.1 h.2.2.2.2.2.2.2.1 h.2.2.2.2.2.2.2.2.1 h.2.2.2.2.2.2.2.2.2.1 h.2.2.2.2.2.2.2.2.2.2.1 h.2.2.2.2.2.2.2.2.2.2.2.1 h.2.2.2.2.2.2.2.2.2.2.2.2.1 h.2.2.2.2.2.2.2.2.2.2.2.2.2.1 h.2.2.2.2.2.2.2.2.2.2.2.2.2.2.1 h.2.2.2.2.2.2.2.2.2.2.2.2.2.2.2.1 h.2.2.2.2.2.2.2.2.2.2.2.2.2.2.2.2.1 h.2.2.2.2.2.2.2.2.2.2.2.2.2.2.2.2.2.1 h.2.2.2.2.2.2.2.2.2.2.2.2.2.2.2.2.2.2.1 h.2.2.2.2.2.2.2.2.2.2.2.2.2.2.2.2.2.2.2.1 h.2.2.2.2.2.2.2.2.2.2.2.2.2.2.2.2.2.2.2.2.1
noncomputable abbrev ap23{A0 A1 A2 A3 A4 A5 A6 A7 A8 A9 A10 A11 A12 A13 A14 A15 A16 A17 A18 A19 A20 A21 A22 D R:Type}(f:A0→A1→A2→A3→A4→A5→A6→A7→A8→A9→A10→A11→A12→A13→A14→A15→A16→A17→A18→A19→A20→A21→A22→R)(h:A0×A1×A2×A3×A4×A5×A6×A7×A8×A9×A10×A11×A12×A13×A14×A15×A16×A17×A18×A19×A20×A21×A22×D):R:=f h.1 h.2.1 h.2.2.1 h.2.2.2.1 h.2.2.2.2.1 h.2.2.2.2.2.1 h.2.2.2.2.2.2.1 h.2.2.2.2.2.2.2.1 h.2.2.2.2.2.2.2.2.1 h.2.2.2.2.2.2.2.2.2.1 h.2.2.2.2.2.2.2.2.2.2.1 h.2.2.2.2.2.2.2.2.2.2.2.1 h.2.2.2.2.2.2.2.2.2.2.2.2.1 h.2.2.2.2.2.2.2.2.2.2.2.2.2.1 h.2.2.2.2.2.2.2.2.2.2.2.2.2.2.1 h.2.2.2.2.2.2.2.2.2.2.2.2.2.2.2.1 h.2.2.2.2.2.2.2.2.2.2.2.2.2.2.2.2.1 h.2.2.2.2.2.2.2.2.2.2.2.2.2.2.2.2.2.1 h.2.2.2.2.2.2.2.2.2.2.2.2.2.2.2.2.2.2.1 h.2.2.2.2.2.2.2.2.2.2.2.2.2.2.2.2.2.2.2.1 h.2.2.2.2.2.2.2.2.2.2.2.2.2.2.2.2.2.2.2.2.1 h.2.2.2.2.2.2.2.2.2.2.2.2.2.2.2.2.2.2.2.2.2.1 h.2.2.2.2.2.2.2.2.2.2.2.2.2.2.2.2.2.2.2.2.2.2.1
noncomputable abbrev ap26{A0 A1 A2 A3 A4 A5 A6 A7 A8 A9 A10 A11 A12 A13 A14 A15 A16 A17 A18 A19 A20 A21 A22 A23 A24 A25 D R:Type}(f:A0→A1→A2→A3→A4→A5→A6→A7→A8→A9→A10→A11→A12→A13→A14→A15→A16→A17→A18→A19→A20→A21→A22→A23→A24→A25→R)(h:A0×A1×A2×A3×A4×A5×A6×A7×A8×A9×A10×A11×A12×A13×A14×A15×A16×A17×A18×A19×A20×A21×A22×A23×A24×A25×D):R:=f h.1 h.2.1 h.2.2.1 h.2.2.2.1 h.2.2.2.2.1 h.2.2.2.2.2.1 h.2.2.2.2.2.2.1 h.2.2.2.2.2.2.2.1 h.2.2.2.2.2.2.2.2.1 h.2.2.2.2.2.2.2.2.2.1 h.2.2.2.2.2.2.2.2.2.2.1 h.2.2.2.2.2.2.2.2.2.2.2.1 h.2.2.2.2.2.2.2.2.2.2.2.2.1 h.2.2.2.2.2.2.2.2.2.2.2.2.2.1 h.2.2.2.2.2.2.2.2.2.2.2.2.2.2.1 h.2.2.2.2.2.2.2.2.2.2.2.2.2.2.2.1 h.2.2.2.2.2.2.2.2.2.2.2.2.2.2.2.2.1 h.2.2.2.2.2.2.2.2.2.2.2.2.2.2.2.2.2.1 h.2.2.2.2.2.2.2.2.2.2.2.2.2.2.2.2.2.2.1 h.2.2.2.2.2.2.2.2.2.2.2.2.2.2.2.2.2.2.2.1 h.2.2.2.2.2.2.2.2.2.2.2.2.2.2.2.2.2.2.2.2.1 h.2.2.2.2.2.2.2.2.2.2.2.2.2.2.2.2.2.2.2.2.2.1 h.2.2.2.2.2.2.2.2.2.2.2.2.2.2.2.2.2.2.2.2.2.2.1 h.2.2.2.2.2.2.2.2.2.2.2.2.2.2.2.2.2.2.2.2.2.2.2.1 h.2.2.2.2.2.2.2.2.2.2.2.2.2.2.2.2.2.2.2.2.2.2.2.2.1 h.2.2.2.2.2.2.2.2.2.2.2.2.2.2.2.2.2.2.2.2.2.2.2.2.2.1
theorem ls{n:Nat}(C:X.Cfg)(hT:Ls E0 TT noB n C.TB){c:Ctr}(hE:C.E=E0:=by rfl)(h1:(TT c.f).isSome=true:=by kernel_rfl)(hg:∀h,X.runT dV C () ((TT c.f).getD U0) c.outs (kO c.ins _ h).1 (xK c.pts [] (kO c.ins _ h).2).1=c.g h:=by intro h;kernel_rfl):Lk (n+1) c:=Uo (n:=n) (C:=C) hE hT (Ux h1) hg
abbrev Uaa(t:Nat):Nat×Sh:=sP t I64
abbrev Xaa(t:Nat):Nat×Sh:=sP t .bool
abbrev Zaa(t r:Nat):Nat×Sh:=(t,.pk ⟨r,0,[]⟩ [0,0])
abbrev uaa(t:CT):CT:=.row true t
abbrev yaa(t:CT):CT:=.row false t
abbrev zaa(t:Nat):Nat×Sh:=pP t (2*t+2)
abbrev uab:List Sh:=uL [ff,RI,(yaa RW)]
abbrev yab:List Sh:=uL [RI,CW]
abbrev zab:List Sh:=uL [.bool]
abbrev Uab:List Sh:=uL [RI,I64]
abbrev Xab:List Sh:=uL [(yaa eq),(yaa gT)]
abbrev Zab:List Sh:=uL [N1,N1]
abbrev uac:List Sh:=uL [CB,CW]
abbrev yac:List Sh:=uL [N1,CW,N1,N1,N1]
abbrev zac:List Sh:=uL [RI,CW,fA,fW,gL]
abbrev Uac:List Sh:=uL [I64]
abbrev Xac:List Sh:=uL [I64,I64]
abbrev Zac:List Sh:=uL [RI,CW,(uaa KCe),j5,rh]
abbrev uad:List Sh:=uL [I64,I64,I64,I64,I64,I64,eq,eq]
abbrev yad:List Sh:=uL [ff,RI,(yaa RW),RI,CW,fA,fW,gL,RW,RW,(yaa RW),(yaa eq),iX,kE,RI,(yaa RI),(uaa wQ),(uaa I64)]
abbrev zad:List Sh:=uL [(yaa eq),iX]
abbrev Uad:List Sh:=uL [I64,I64,I64,I64,I64]
abbrev Xad:List Sh:=uL [fA,fW]
abbrev Zad:List Sh:=uL [I64,fA,I64,I64,I64,I64,I64,CW]
abbrev uae:List Sh:=uL [(uaa (uaa KCn)),(uaa Aq)]
abbrev yae:List Sh:=uL [N1,N1,N1]
abbrev zae:List Sh:=uL [(uaa I64)]
abbrev Uae:List Sh:=uL [CB,CW,I64,I64,N1,I64,.bool]
abbrev Xae:List Sh:=uL [CB,CW,I64,I64]
abbrev Zae:List Sh:=uL [(uaa I64),(uaa (uaa I64))]
abbrev uaf:List Sh:=uL [(uaa (uaa KCn)),(uaa KOp)]
abbrev yaf:List Sh:=uL [ff,RI,(yaa RW),RI,CW,fA,fW,gL,RW,RW,(yaa RW),(yaa eq),iX,kE,RI,(yaa RI),Lp,RI]
abbrev zaf:List Sh:=uL [RI,(yaa RI)]
abbrev Uaf:List Sh:=uL [(uaa KCe),j5]
abbrev Xaf:List Sh:=uL [CB,CW,I64,I64,eq,I64,.bool]
abbrev Zaf:List Sh:=uL [(uaa CB)]
abbrev uag:List Sh:=uL [(uaa KCn)]
abbrev yag:List Sh:=uL [I64,(uaa KCe),I64,I64,I64,I64,I64,CW]
abbrev zag:List Sh:=uL [I64,I64,I64,I64,I64,I64,N1,N1]
abbrev Uag:List Sh:=uL [.bool,.bool,.bool,.bool]
abbrev Xag:List Sh:=uL [RW,RW,(yaa RW),(yaa eq),iX,kE]
abbrev Zag:List Sh:=uL [(yaa CB),.bool]
abbrev uah:List Sh:=uL [I64,I64,I64,I64,I64,I64,CW,eq]
abbrev yah:List Sh:=uL [N1,N1,N1,N1,CW,N1,N1,N1,N1,N1,N1,N1,N1,N1,N1,N1,N1,N1]
abbrev zah:List Sh:=uL [RI,CW,(uaa KCe),j5,(uaa Q7)]
abbrev Uah:List Sh:=uL [(uaa (uaa KCn))]
abbrev Xah:List Sh:=uL [N1,N1,N1,N1,N1,N1]
abbrev Zah:List Sh:=uL [(uaa eq)]
abbrev uai:List Sh:=uL [I64,I64,.bool]
abbrev yai:List Sh:=uL [CB,CW,I64]
abbrev zai:List Sh:=uL [(uaa KIn),RI,(uaa (uaa CW))]
abbrev Uai:List Sh:=uL [ff,RI,(uaa (uaa CW))]
abbrev Xai:List Sh:=uL [(uaa (uaa CW))]
abbrev Zai:List Sh:=uL [I64,I64,I64,I64,I64,I64,CW,(uaa KCn)]
abbrev uaj:List Sh:=uL [RI,CW,(uaa KCe),j5,N1]
abbrev yaj:List Sh:=uL [(uaa I64),CW,(uaa KCe),j5,rh]
abbrev zaj:List Sh:=uL [(uaa I64),CW]
abbrev Uaj:List Sh:=uL [(uaa Kf)]
abbrev Xaj:List Sh:=uL [(uaa CW),(uaa CW),(uaa (uaa CW)),(uaa (uaa KCn)),(uaa KOp),(uaa Kf)]
abbrev Zaj:List Sh:=uL [I64,I64,I64,I64,I64,I64,(uaa KCn),N1]
abbrev uak:List Sh:=uL [I64,I64,I64,I64,I64,I64,(uaa KCn),(uaa KCn)]
abbrev yak:List Sh:=uL [I64,I64,I64]
abbrev zak:List Sh:=uL [(uaa I64),CW,(uaa KCe),j5,N1]
abbrev Uak:List Sh:=uL [(uaa (uaa KCn)),(uaa KOp),I64]
abbrev Xak:List Sh:=uL [RI,CW,fA,fW,rh]
abbrev Zak:List Sh:=uL [RI,CW,(uaa KCe),j5,rh,.bool]
abbrev ual:List Sh:=uL [(uaa (uaa KCn)),(uaa KOp),.bool]
abbrev yal:List Sh:=uL [CB,CW,I64,I64,(uaa KCn),I64,.bool]
abbrev zal:List Sh:=uL [RI,CW,fA,fW,gL,.bool]
abbrev Ual:List Sh:=uL [ff,RI,(yaa RW),RI,CW,fA,fW,gL,RW,RW,(yaa RW),(yaa eq),iX,kE,RI,(yaa RI),(uaa wQ)]
def i9(a0:Int)(a1:Int):Option (Int×Unit):=
bif(a1 != 0)then let x0:Int:=(Int.tmod a0 a1);
(bif(decide (x0<0))then(let x1:Int:=(w64 (x0+a1));
some (x1,()))else
some (x0,()):Option (Int×Unit)).bind λ(x1,_)=>
some (x1,())else none
def JH:X.Cfg:=⟨E0,[],[],[⟨2,0,qE,[(.normal,qS [Uaa 5] [])]⟩]⟩
def wN:Ctr:=⟨33,0,Xac,[],[⟨Uac,[.one],[]⟩],ap2 i9⟩
theorem BM:Lk 1 wN:=ls JH aN
def ig(a0:Int)(a1:Int):Option (Int×Unit):=
(i9 a0 a1).bind λ(x0,_)=>
some (x0,())
def QE:X.Cfg:=⟨E0,[wN],[],[]⟩
def A8:Ctr:=⟨10,1,Xac,[],[⟨Uac,[.one],[]⟩],ap2 ig⟩
theorem E3:Lk 2 A8:=ls QE (aC BM aN)
def dW(a0:Int)(a1:List (Int))(a2:Int):Option (T0i):=
let x0:=dS a1.length;
bif(decide (a2>=x0))then(some (0,a1,a2,()))else
let x1:=w64 (a2+1);
let x2:=w64 (x1-1);
(eu x2).bind λx3=>
(dR a1 x3).bind λx4=>
(ig x4 a0).bind λ(x5,_)=>
some (x5,a1,x1,())
def JM:X.Cfg:=⟨E0,[A8],[],[]⟩
def gr:Ctr:=⟨28,2,[.ptr ⟨2,0,[]⟩ [0],shU I64],[(2,Uab)],[⟨Uac,[.one],[(2,Uab)]⟩],ap3 dW⟩
theorem gQ:Lk 3 gr:=ls JM (aC E3 aN)
def ua:T0A->Option (T0A⊕(Int×Bool×T0o)):=λ(v0,v1,v2,v3,_)=>
bif(decide (v0>0))then(let x0:List (Int):=[6,12,32];
(dW 3 v1 v2).bind λ(x1,x2,x3,_)=>
(eu x1).bind λx4=>
(dR x0 x4).bind λx5=>
(dR x0 x4).bind λx6=>
(dW x6 x2 x3).bind λ(x7,x8,x9,_)=>
let ac:=w64 (1+x7);
bif(ek 8 v3.length (List.length [ac]))then let ae:List (Int):=(List.append v3 [ac]);
let af:=w64 (v0-1);
some (.inl (af,x8,x9,ae,()))else none)else
some (.inr (v0,false,v1,v2,v3,()))
def qv(a0:List (Int))(a1:Int):Option (LI×T07):=
(dW 9 a0 a1).bind λ(x0,x1,x2,_)=>
let x3:=w64 (4+x0);
(dW 4 x1 x2).bind λ(x4,x5,x6,_)=>
(dY ua NN (x4,x5,x6,[x3],())).bind λ(x7,x8,x9,ac,ae,_)=>
some (ae,x9,ac,())
def If:X.Cfg:=⟨E0,[gr],[],[(lx 4 0 [zaa 0,Zaa 3 9,Uaa 4] [(2,Uab),(9,zae)] 12)]⟩
def Al:Ctr:=⟨115,3,[.ptr ⟨2,0,[]⟩ [0]],[(2,Uab)],[⟨zae,[.one],[(2,Uab)]⟩],ap2 qv⟩
theorem Hr:Lk 4 Al:=ls If (aC gQ aN)
def jV(a0:List (Int))(a1:Int):Option (T0i):=
(dW 5 a0 a1).bind λ(x0,x1)=>
(bif(x0==0)then(some (x0,true,x1))else
bif(x0==1)then(some (x0,true,x1))else
some (x0,(x0==2),x1):Option (T0t)).bind λ(x3,x4,x5,x6,_)=>
bif x4 then((dW 8 x5 x6).bind λ(x7,x8,x9,_)=>
let ac:=wk .u16 x7;
some (ac,x8,x9,()))else
bif(x3==3)then((dW 3 x5 x6).bind λ(x7,x8,x9,_)=>
let ac:=w64 (65535-x7);
let ae:=wk .u16 ac;
some (ae,x8,x9,()))else
(dW 65536 x5 x6).bind λ(x7,x8,x9,_)=>
let ac:=wk .u16 x7;
some (ac,x8,x9,())
def JL:X.Cfg:=⟨E0,[gr],[],[⟨3,0,qE,[(.normal,qS [zaa 0,Uaa 4,Xaa 5] [(2,Uab)])]⟩]⟩
def pJ:Ctr:=⟨81,4,[.ptr ⟨2,0,[]⟩ [0]],[(2,Uab)],[⟨uL [CW],[.one],[(2,Uab)]⟩],ap2 jV⟩
theorem sC:Lk 4 pJ:=ls JL (aC gQ aN)
def t9:T0A->Option (T0A⊕(Int×Bool×T0o)):=λ(v0,v1,v2,v3,_)=>
bif(decide (v0>0))then((jV v1 v2).bind λ(x0,x1,x2,_)=>
bif(ek 2 v3.length (List.length [x0]))then let x3:List (Int):=(List.append v3 [x0]);
let x4:=w64 (v0-1);
some (.inl (x4,x1,x2,x3,()))else none)else
some (.inr (v0,false,v1,v2,v3,()))
def gH(a0:Int)(a1:List (Int))(a2:Int):Option (LI×T07):=
let x0:=w64 (a0+1);
(dW x0 a1 a2).bind λ(x1,x2,x3,_)=>
(dY t9 NN (x1,x2,x3,[],())).bind λ(x4,x5,x6,x7,x8,_)=>
some (x8,x6,x7,())
def Ie:X.Cfg:=⟨E0,[gr,pJ],[],[(lx 4 0 [zaa 0,Zaa 5 13,Uaa 6] [(2,Uab),(13,uL [(uaa CW)])] 12)]⟩
def u3:Ctr:=⟨116,5,[.ptr ⟨2,0,[]⟩ [0],shU I64],[(2,Uab)],[⟨uL [(uaa CW)],[.one],[(2,Uab)]⟩],ap3 gH⟩
theorem zK:Lk 5 u3:=ls Ie (aC gQ (aC sC aN))
def jT(a0:Int)(a1:Int):Option (T0W):=
some (1,a0,0,0,a1,())
def SN:X.Cfg:=⟨E0,[],[],[]⟩
def J9:Ctr:=⟨118,6,Xac,[],[⟨Uad,[.agg 5],[]⟩],ap2 jT⟩
theorem Oz:Lk 1 J9:=ls SN aN
def ja(a0:Int):Option (T0W):=
some (23,0,0,0,a0,())
def QC:X.Cfg:=⟨E0,[],[],[]⟩
def Ga:Ctr:=⟨119,7,Uac,[],[⟨Uad,[.agg 5],[]⟩],ap1 ja⟩
theorem KR:Lk 1 Ga:=ls QC aN
def oF(a0:Int)(a1:Int):Option (T0W):=
some (2,a0,a1,0,0,())
def QD:X.Cfg:=⟨E0,[],[],[]⟩
def Lg:Ctr:=⟨148,8,Xac,[],[⟨Uad,[.agg 5],[]⟩],ap2 oF⟩
theorem Qt:Lk 1 Lg:=ls QD aN
def jR(a0:Int):Option (T0r):=
(bif(a0==1)then(some (a0,true,false,false,false,false,()))else
bif(a0==15)then(some (a0,true,false,false,false,false,()))else
bif(a0==19)then(some (a0,true,false,false,false,false,()))else
bif(a0==20)then(some (a0,true,false,false,false,false,()))else
some (a0,(a0==21),false,false,false,false,()):Option (Int×Bool×T0r)).bind λ(x0,x1,_)=>
bif x1 then(some (true,false,false,true,()))else
bif(x0==2)then(some (true,true,false,false,()))else
bif(x0==16)then(some (true,true,false,true,()))else
bif(x0==17)then(some (true,true,false,true,()))else
bif(x0==18)then(some (false,false,false,true,()))else
bif(x0==23)then(some (false,false,false,true,()))else
bif(x0==22)then(some (true,false,false,false,()))else
bif(x0==0)then(some (false,false,false,false,()))else
bif(x0==24)then(some (false,false,false,false,()))else
some (true,true,true,false,())
def HZ:X.Cfg:=⟨E0,[],[],[⟨3,0,qE,[(.normal,qS [zaa 2,Uaa 3,Xaa 4] [(6,Uag)])]⟩]⟩
def uS:Ctr:=⟨146,9,Uac,[],[⟨Uag,[.agg 4],[]⟩],ap1 jR⟩
theorem zG:Lk 1 uS:=ls HZ aN
def ib(a0:Int):Option (Bool×Unit):=
bif(a0==18)then(some (true,()))else
bif(a0==19)then(some (true,()))else
bif(a0==20)then(some (true,()))else
some ((a0==21),())
def H3:X.Cfg:=⟨E0,[],[],[]⟩
def lE:Ctr:=⟨111,10,Uac,[],[⟨zab,[.one],[]⟩],ap1 ib⟩
theorem nM:Lk 1 lE:=ls H3 aN
def qw(a0:Int)(a1:Int)(a2:List (Int))(a3:Int):Option (Int×T1f):=
(dW 25 a2 a3).bind λ(x0,x1,x2,_)=>
(jR x0).bind λ(x3,x4)=>
(bif x3 then((dW 8 x1 x2).bind λ(x7,x8,x9,_)=>
some (a0,a1,x8,x9,0,0,0,0,0,x0,x7,0,0,0,x3,x4))else
some (a0,a1,x1,x2,0,0,0,0,0,x0,0,0,0,0,x3,x4):Option (T3m)).bind λ(x7,x8,x9,ac,ae,af,ag,ah,ai,aj,ak,am,an,ap,aq,av,ax)=>
(bif av then((dW 8 x9 ac).bind λ(az,aA,aB,_)=>
some (x7,x8,aA,aB,ae,af,ag,ah,ai,aj,ak,az,an,ap,aq,av,ax))else
some (x7,x8,x9,ac,ae,af,ag,ah,ai,aj,ak,am,an,ap,aq,av,ax):Option (T3m)).bind λ(az,aA,aB,aD,aE,aF,aG,aH,aI,aJ,aK,aL,aM,aO,aP,aQ,aR,aS,_)=>
(bif aR then((dW 8 aB aD).bind λ(aT,aU,aV,_)=>
some (az,aA,aU,aV,aE,aF,aG,aH,aI,aJ,aK,aL,aT,aO,aP,aQ,aR,aS,()))else
some (az,aA,aB,aD,aE,aF,aG,aH,aI,aJ,aK,aL,aM,aO,aP,aQ,aR,aS,()):Option (T3m)).bind λ(aT,aU,aV,aW,aY,aZ,ba,bc,bd,bf,bg,bh,bi,bj,bk,bm,bn,bo,_)=>
((ib bf).bind λ(bp,_)=>
bif bp then((dW aU aV aW).bind λ(bq,bt,bv,_)=>
some (bt,bv,aY,aZ,ba,bc,bd,bf,bg,bh,bi,bq,()))else
bif(bf==15)then((dW aT aV aW).bind λ(bq,bt,bv,_)=>
some (bt,bv,aY,aZ,ba,bc,bd,bf,bg,bh,bi,bq,()))else
bif(bf==23)then((dW 16 aV aW).bind λ(bq,bt,bv,_)=>
some (bt,bv,aY,aZ,ba,bc,bd,bf,bg,bh,bi,bq,()))else
bif bo then((jV aV aW).bind λ(bq,bt,bv,_)=>
let bx:=wk .i64 bq;
some (bt,bv,aY,aZ,ba,bc,bd,bf,bg,bh,bi,bx,()))else
some (aV,aW,aY,aZ,ba,bc,bd,bf,bg,bh,bi,bj,()):Option (LI×Int×Int×T28)).bind λ(bp,bq,bt,bv,bx,bA,bB,bC,bD,bE,bF,bG,_)=>
some (bC,bD,bE,bF,bG,bp,bq,())
def Ig:X.Cfg:=⟨E0,[gr,uS,lE,pJ],[],[⟨3,0,qE,[(.normal,qS [zaa 0,Uaa 1,Uaa 2,zaa 6,zaa 7,zaa 8] [(2,Uab),(14,Uad),(16,Uad),(18,Uag)])]⟩,⟨5,1,qE,[(.normal,qS [zaa 0,Uaa 1,Uaa 2,zaa 6,zaa 7,zaa 8] [(2,Uab),(14,Uad),(16,Uad),(18,Uag)])]⟩,⟨7,2,qE,[(.normal,qS [zaa 0,Uaa 1,Uaa 2,zaa 6,zaa 7,zaa 8] [(2,Uab),(14,Uad),(16,Uad),(18,Uag)])]⟩,⟨9,3,qE,[(.normal,qS [zaa 0,zaa 6,zaa 7] [(2,Uab),(14,Uad),(16,Uad)])]⟩]⟩
def Am:Ctr:=⟨149,11,[.ptr ⟨2,0,[]⟩ [0],shU I64,shU I64],[(2,Uab)],[⟨Uad,[.agg 5],[(2,Uab)]⟩],ap4 qw⟩
theorem Hs:Lk 5 Am:=ls Ig (aC gQ (aC zG (aC nM (aC sC aN))))
def si(a0:List (Int))(a1:Int)(a2:Int)(a3:List (Int))(a4:Int):Option (LDIn×T07):=
let x0:=dS a0.length;
(dW x0 a3 a4).bind λ(x1,x2,x3,_)=>
(eu x1).bind λx4=>
(dR a0 x4).bind λx5=>
let x6:=w64 (x5+1);
let x7:=mmR false 5 x6;
(dW x7 x2 x3).bind λ(x8,x9,ac,_)=>
(jT 2 x8).bind λ(ae,af,ag,ah,ai,_)=>
let aj:LDIn:=[(15,(1,(0,(0,x1)))),(ae,(af,(ag,(ah,ai))))];
(dW 20 x9 ac).bind λ(ak,am,an,_)=>
bif(ak==0)then((dW 3 am an).bind λ(ap,aq,av,_)=>
let ax:=w64 (3+ap);
(jV aq av).bind λ(ay,az,aA,_)=>
let aB:=wk .i64 ay;
(jT ax aB).bind λ(aD,aE,aF,aG,aH,_)=>
let aI:LDIn:=[(aD,(aE,(aF,(aG,aH))))];
some (aI,az,aA,()))else
bif(ak==1)then(let ap:List (Int):=[3,4,5,10,13,14,11,9];
(dW 8 am an).bind λ(aq,av,ax,_)=>
(eu aq).bind λay=>
(dR ap ay).bind λaz=>
(dR ap ay).bind λaA=>
(dW 3 av ax).bind λ(aB,aD,aE,_)=>
let aF:=w64 (3+aB);
(dW 3 aD aE).bind λ(aG,aH,aI,_)=>
let aJ:=w64 (3+aG);
(dW 3 aH aI).bind λ(aK,aL,aM,_)=>
let aO:=w64 (3+aK);
let aP:LDIn:=[(aA,(aF,(aJ,(aO,0))))];
some (aP,aL,aM,()))else
bif(ak==2)then(let ap:LDIn:=[(15,(6,(0,(0,x1))))];
some (ap,am,an,()))else
bif(ak==3)then((dW 5 am an).bind λ(ap,aq,av,_)=>
let ax:=w64 (3+ap);
(eu x1).bind λay=>
(dR a0 ay).bind λaz=>
(dW az aq av).bind λ(aA,aB,aD,_)=>
let aE:LDIn:=[(15,(6,(0,(0,x1)))),(17,(6,(ax,(0,aA))))];
some (aE,aB,aD,()))else
bif(ak==4)then((dW 5 am an).bind λ(ap,aq,av,_)=>
let ax:=w64 (3+ap);
(eu x1).bind λay=>
(dR a0 ay).bind λaz=>
(dW az aq av).bind λ(aA,aB,aD,_)=>
let aE:LDIn:=[(15,(6,(0,(0,x1)))),(17,(6,(ax,(0,aA))))];
some (aE,aB,aD,()))else
bif(ak==5)then((dW 4 am an).bind λ(ap,aq,av,_)=>
let ax:=w64 (3+ap);
(eu x1).bind λay=>
(dR a0 ay).bind λaz=>
(dW az aq av).bind λ(aA,aB,aD,_)=>
let aE:LDIn:=[(15,(6,(0,(0,x1)))),(16,(ax,(6,(0,aA))))];
some (aE,aB,aD,()))else
bif(ak==6)then((dW 4 am an).bind λ(ap,aq,av,_)=>
let ax:=w64 (3+ap);
(eu x1).bind λay=>
(dR a0 ay).bind λaz=>
(dW az aq av).bind λ(aA,aB,aD,_)=>
let aE:LDIn:=[(15,(6,(0,(0,x1)))),(16,(ax,(6,(0,aA))))];
some (aE,aB,aD,()))else
bif(ak==7)then((dW 3 am an).bind λ(ap,aq,av,_)=>
(jT 0 ap).bind λ(ax,ay,az,aA,aB,_)=>
let aD:LDIn:=[(ax,(ay,(az,(aA,aB))))];
bif(ek 40 aD.length aj.length)then let aE:LDIn:=(List.append aD aj);
(ja 13).bind λ(aF,aG,aH,aI,aJ,_)=>
let aK:LDIn:=[(aF,(aG,(aH,(aI,aJ))))];
bif(ek 40 aE.length aK.length)then let aL:LDIn:=(List.append aE aK);
some (aL,aq,av,())else none else none)else
bif(ak==8)then((dW 3 am an).bind λ(ap,aq,av,_)=>
(jT 0 ap).bind λ(ax,ay,az,aA,aB,_)=>
let aD:LDIn:=[(ax,(ay,(az,(aA,aB))))];
bif(ek 40 aD.length aj.length)then let aE:LDIn:=(List.append aD aj);
(ja 13).bind λ(aF,aG,aH,aI,aJ,_)=>
let aK:LDIn:=[(aF,(aG,(aH,(aI,aJ))))];
bif(ek 40 aE.length aK.length)then let aL:LDIn:=(List.append aE aK);
some (aL,aq,av,())else none else none)else
bif(ak==9)then((dW 3 am an).bind λ(ap,aq,av,_)=>
(jT 0 ap).bind λ(ax,ay,az,aA,aB,_)=>
let aD:LDIn:=[(ax,(ay,(az,(aA,aB))))];
bif(ek 40 aD.length aj.length)then let aE:LDIn:=(List.append aD aj);
(ja 14).bind λ(aF,aG,aH,aI,aJ,_)=>
(oF 3 0).bind λ(aK,aL,aM,aO,aP,_)=>
let aQ:LDIn:=[(aF,(aG,(aH,(aI,aJ)))),(aK,(aL,(aM,(aO,aP))))];
bif(ek 40 aE.length aQ.length)then let aR:LDIn:=(List.append aE aQ);
some (aR,aq,av,())else none else none)else
bif(ak==10)then((dW 3 am an).bind λ(ap,aq,av,_)=>
(jT 0 ap).bind λ(ax,ay,az,aA,aB,_)=>
(dW 4 aq av).bind λ(aD,aE,aF,_)=>
(jT 1 aD).bind λ(aG,aH,aI,aJ,aK,_)=>
(ja 3).bind λ(aL,aM,aO,aP,aQ,_)=>
(oF 7 0).bind λ(aR,aS,aT,aU,aV,_)=>
let aW:LDIn:=[(ax,(ay,(az,(aA,aB)))),(aG,(aH,(aI,(aJ,aK)))),(aL,(aM,(aO,(aP,aQ)))),(aR,(aS,(aT,(aU,aV))))];
some (aW,aE,aF,()))else
bif(ak==11)then((oF 0 7).bind λ(ap,aq,av,ax,ay,_)=>
let az:LDIn:=[(ap,(aq,(av,(ax,ay))))];
bif(ek 40 az.length aj.length)then let aA:LDIn:=(List.append az aj);
let aB:List (Int):=[1,2];
(dW 2 am an).bind λ(aD,aE,aF,_)=>
(eu aD).bind λaG=>
(dR aB aG).bind λaH=>
(dR aB aG).bind λaI=>
(ja aI).bind λ(aJ,aK,aL,aM,aO,_)=>
let aP:LDIn:=[(aJ,(aK,(aL,(aM,aO))))];
bif(ek 40 aA.length aP.length)then let aQ:LDIn:=(List.append aA aP);
some (aQ,aE,aF,())else none else none)else
bif(ak==12)then((oF 0 7).bind λ(ap,aq,av,ax,ay,_)=>
(ja 4).bind λ(az,aA,aB,aD,aE,_)=>
let aF:LDIn:=[(ap,(aq,(av,(ax,ay)))),(az,(aA,(aB,(aD,aE))))];
(oF 0 7).bind λ(aG,aH,aI,aJ,aK,_)=>
(dW 4 am an).bind λ(aL,aM,aO,_)=>
(jT 1 aL).bind λ(aP,aQ,aR,aS,aT,_)=>
(ja 5).bind λ(aU,aV,aW,aY,aZ,_)=>
let ba:LDIn:=[(aG,(aH,(aI,(aJ,aK)))),(aP,(aQ,(aR,(aS,aT)))),(aU,(aV,(aW,(aY,aZ))))];
let bc:List LDIn:=[aF,ba];
(dW 2 aM aO).bind λ(bd,bf)=>
(eu bd).bind λbh=>
(dR bc bh).bind λbi=>
(dR bc bh).bind λbj=>
(dR bc bh).bind λbk=>
some (bk,bf))else
bif(ak==13)then(let ap:List (Int):=[6,7,15];
(dW 3 am an).bind λ(aq,av,ax,_)=>
(eu aq).bind λay=>
(dR ap ay).bind λaz=>
(dR ap ay).bind λaA=>
(ja aA).bind λ(aB,aD,aE,aF,aG,_)=>
(dW 3 av ax).bind λ(aH,aI,aJ,_)=>
let aK:=w64 (3+aH);
(oF aK 0).bind λ(aL,aM,aO,aP,aQ,_)=>
let aR:LDIn:=[(aB,(aD,(aE,(aF,aG)))),(aL,(aM,(aO,(aP,aQ))))];
some (aR,aI,aJ,()))else
bif(ak==14)then((dW 3 am an).bind λ(ap,aq,av,_)=>
(jT 0 ap).bind λ(ax,ay,az,aA,aB,_)=>
let aD:List (Int):=[8,9];
(dW 2 aq av).bind λ(aE,aF,aG,_)=>
(eu aE).bind λaH=>
(dR aD aH).bind λaI=>
(dR aD aH).bind λaJ=>
(ja aJ).bind λ(aK,aL,aM,aO,aP,_)=>
let aQ:LDIn:=[(ax,(ay,(az,(aA,aB)))),(aK,(aL,(aM,(aO,aP))))];
some (aQ,aF,aG,()))else
bif(ak==15)then((dW 3 am an).bind λ(ap,aq,av,_)=>
(jT 0 ap).bind λ(ax,ay,az,aA,aB,_)=>
let aD:List (Int):=[8,9];
(dW 2 aq av).bind λ(aE,aF,aG,_)=>
(eu aE).bind λaH=>
(dR aD aH).bind λaI=>
(dR aD aH).bind λaJ=>
(ja aJ).bind λ(aK,aL,aM,aO,aP,_)=>
let aQ:LDIn:=[(ax,(ay,(az,(aA,aB)))),(aK,(aL,(aM,(aO,aP))))];
some (aQ,aF,aG,()))else
bif(ak==16)then((dW a1 am an).bind λ(ap,aq,av,_)=>
(jT 0 ap).bind λ(ax,ay,az,aA,aB,_)=>
(oF 1 3).bind λ(aD,aE,aF,aG,aH,_)=>
(ja 10).bind λ(aI,aJ,aK,aL,aM,_)=>
let aO:LDIn:=[(ax,(ay,(az,(aA,aB)))),(aD,(aE,(aF,(aG,aH)))),(aI,(aJ,(aK,(aL,aM))))];
some (aO,aq,av,()))else
bif(ak==17)then(let ap:List (Int):=[a1,5];
(dW 2 am an).bind λ(aq,av,ax,_)=>
(eu aq).bind λay=>
(dR ap ay).bind λaz=>
(dR ap ay).bind λaA=>
(dW aA av ax).bind λ(aB,aD,aE,_)=>
(jT 0 aB).bind λ(aF,aG,aH,aI,aJ,_)=>
let aK:List (Int):=[12,11];
(dW 2 aD aE).bind λ(aL,aM,aO,_)=>
(eu aL).bind λaP=>
(dR aK aP).bind λaQ=>
(dR aK aP).bind λaR=>
(ja aR).bind λ(aS,aT,aU,aV,aW,_)=>
let aY:LDIn:=[(aF,(aG,(aH,(aI,aJ)))),(aS,(aT,(aU,(aV,aW))))];
some (aY,aM,aO,()))else
bif(ak==18)then((dW 4 am an).bind λ(ap,aq,av,_)=>
let ax:=w64 (1+ap);
(jT 5 ax).bind λ(ay,az,aA,aB,aD,_)=>
(jT 4 1).bind λ(aE,aF,aG,aH,aI,_)=>
let aJ:=w64 (a2+2);
let aK:LDIn:=[(ay,(az,(aA,(aB,aD)))),(aE,(aF,(aG,(aH,aI)))),(4,(5,(5,(4,0)))),(20,(5,(0,(0,aJ))))];
some (aK,aq,av,()))else
let ap:=dS a0.length;
(qw ap a1 am an).bind λ(aq,av,ax,ay,az,aA,aB,_)=>
let aD:LDIn:=[(aq,(av,(ax,(ay,az))))];
some (aD,aA,aB,())
def JK:X.Cfg:=⟨E0,[gr,J9,pJ,Ga,Lg,Am],[(156,(uaa KIn))],[]⟩
def CC:Ctr:=⟨117,12,[.ptr ⟨2,0,[]⟩ [0],shU RI,shU I64,shU I64],[(2,Uab)],[⟨uL [ff],[.one],[(2,Uab)]⟩],ap5 si⟩
theorem Js:Lk 6 CC:=ls JK (aC gQ (aC Oz (aC sC (aC KR (aC Qt (aC Hs aN))))))
def rq:T2u->Option (T2u⊕(Int×Int×Bool×T23)):=λ(v0,v1,v2,v3,v4,v5,v6,v7,v8,v9,_)=>
bif(decide (v1<v0))then((eu v1).bind λx0=>
(dR v8 x0).bind λx1=>
(dR v8 x0).bind λx2=>
(gH x2 v2 v3).bind λ(x3,x4,x5,_)=>
bif(ek 24 v9.length (List.length [x3]))then let x6:List LI:=(List.append v9 [x3]);
let x7:=w64 (v1+1);
some (.inl (v0,x7,x4,x5,v4,v5,v6,v7,v8,x6,()))else none)else
some (.inr (v0,v1,false,v2,v3,v4,v5,v6,v7,v8,v9,()))
def rp:T2d->Option (T2d⊕T2p):=λ(v0,v1,v2,v3,v4,v5,v6,v7,v8,_)=>
bif(decide (v0>0))then((let x0:Int:=(dS v6.length);
let x1:=w64 (x0+1);
let x2:=dS v6.length;
(si v7 x1 x2 v1 v2).bind λ(x3,x4,x5,_)=>
let x6:=dS v6.length;
let x7:=dS x3.length;
let x8:=w64 (x6+x7);
bif(decide (x8<=62))then(bif(ek 40 v6.length x3.length)then let x9:LDIn:=(List.append v6 x3);
some (v0,x4,x5,v3,v4,v5,x9,v7,v8,())else none)else
some (v0,x4,x5,v3,v4,v5,v6,v7,v8,()):Option (T2d)).bind λ(x0,x1,x2,x3,x4,x5,x6,x7,x8,_)=>
let x9:=w64 (x0-1);
some (.inl (x9,x1,x2,x3,x4,x5,x6,x7,x8,())))else
some (.inr (v0,false,v1,v2,v3,v4,v5,v6,v7,v8,()))
def iQ:T2t->Option (T2t⊕(Int×T2p)):=λ(v0,v1,v2,v3,v4,v5,v6,v7,v8)=>
bif(decide (v1<v0))then(((eu v1).bind λx0=>
(dR v7 x0).bind λx1=>
(ib x1.1).bind λ(x2,_)=>
bif x2 then((eu v1).bind λx3=>
(dR v7 x3).bind λx4=>
let x5:=dS v7.length;
bif(decide (x4.2.2.2.2>=x5))then((eu v1).bind λx6=>
(dR v7 x6).bind λx7=>
none)else
some (v0,v1,v2,v3,v4,v5,v6,v7,v8))else
some (v0,v1,v2,v3,v4,v5,v6,v7,v8):Option (T2t)).bind λ(x0,x1,x2,x3,x4,x5,x6,x7,x8)=>
let ac:=w64 (x1+1);
some (.inl (x0,ac,x2,x3,x4,x5,x6,x7,x8)))else
some (.inr (v0,v1,false,v2,v3,v4,v5,v6,v7,v8))
def nk(a0:List (Int))(a1:Int):Option (LDIn×LI×LLI×T07):=
(qv a0 a1).bind λ(x0,x1,x2,_)=>
let x3:=dS x0.length;
(dY rq NN (x3,0,x1,x2,(),(),(),(),x0,[],())).bind λ(x4,x5,x6,x7,x8,x9,ac,ae,af,ag)=>
(dW 12 x7 x8).bind λ(ai,aj,ak,_)=>
let am:=w64 (1+ai);
(dY rp NN (am,aj,ak,x9,ac,ae,[],ag)).bind λ(an,ap,aq,av,ax,ay,az,aA,aB)=>
((dW 4 aq av).bind λ(aE,aF,aG,_)=>
bif(aE==0)then(let aH:Int:=(dS aA.length);
let aI:=w64 (aH+1);
(dW aI aF aG).bind λ(aJ,aK,aL,_)=>
let aM:LDIn:=[(18,(0,(0,(0,aJ))))];
bif(ek 40 aA.length aM.length)then let aO:LDIn:=(List.append aA aM);
some (aK,aL,ax,ay,az,aO,aB)else none)else
bif(aE==1)then(let aH:LDIn:=[(24,(0,(0,(0,0))))];
bif(ek 40 aA.length aH.length)then let aI:LDIn:=(List.append aA aH);
some (aF,aG,ax,ay,az,aI,aB)else none)else
some (aF,aG,ax,ay,az,aA,aB):Option (T22)).bind λ(aE,aF,aG,aH,aI,aJ,aK,aL,_)=>
(dW 9 aE aF).bind λ(aM,aO,aP,_)=>
(jT 0 aM).bind λ(aQ,aR,aS,aT,aU,_)=>
(ja 0).bind λ(aV,aW,aY,aZ,ba,_)=>
let bc:LDIn:=[(aQ,(aR,(aS,(aT,aU)))),(aV,(aW,(aY,(aZ,ba))))];
bif(ek 40 aJ.length bc.length)then let bd:LDIn:=(List.append aJ bc);
let bf:=dS bd.length;
bif(decide (bf>64))then(bif(iz 0 64 bd.length)then let bg:LDIn:=(lF bd 0 (Nat.sub 64 0));
let bh:=dS bg.length;
(dY iQ NN (bh,0,aO,aP,aG,aH,aI,bg,aK,aL,())).bind λ(bi,bj,bk,bm,bn,bo,bp,bq,bt,bv,bx,_)=>
some (bt,bv,bx,bm,bn,())else none)else
let bg:=dS bd.length;
(dY iQ NN (bg,0,aO,aP,aG,aH,aI,bd,aK,aL,())).bind λ(bh,bi,bj,bk,bm,bn,bo,bp,bq,bt,bv,_)=>
some (bq,bt,bv,bk,bm,())else none
def Dw:X.Cfg:=⟨E0,[Al,u3,gr,CC,J9,Ga,lE],[(24,(uaa CW)),(25,(uaa CW))],[(lx 4 0 [zaa 0,zaa 2,zaa 3,(13,.pk ⟨8,1,[]⟩ [0,0]),Uaa 14,Uaa 15] [(2,Uab),(6,yae),(8,uL [N1,(uaa I64),(uaa (uaa CW))])] 16),⟨14,1,qE,[(.normal,qS [zaa 0,zaa 2,zaa 3,Uaa 6] [(2,Uab),(6,yae),(8,zai)])]⟩,⟨11,2,qS [zaa 0,zaa 2,zaa 3,Uaa 6] [(2,Uab),(6,yae),(8,zai)],[(.exit 2,qS [zaa 0,zaa 2,zaa 3,Uaa 6,Xaa 32] [(2,Uab),(6,yae),(8,zai)])]⟩,⟨17,3,qE,[(.normal,qS [zaa 0,zaa 2,zaa 3] [(2,Uab),(6,yae),(8,zai)])]⟩,⟨29,4,qE,[(.normal,qS [zaa 0,zaa 2,zaa 3,Uaa 101,Uaa 102] [(2,Uab),(6,yae),(8,Uai)])]⟩,⟨26,5,qS [zaa 0,zaa 2,zaa 3,Uaa 101,Uaa 102] [(2,Uab),(6,yae),(8,Uai)],[(.exit 5,qS [zaa 0,zaa 2,zaa 3,Uaa 101,Uaa 102,Xaa 103] [(2,Uab),(6,yae),(8,Uai)])]⟩]⟩
def wq:Ctr:=⟨73,13,[.ptr ⟨2,0,[]⟩ [0]],[(2,Uab)],[⟨Uai,[.agg 3],[(2,Uab)]⟩],ap2 nk⟩
theorem C9:Lk 7 wq:=ls Dw (aC Hr (aC zK (aC gQ (aC Js (aC Oz (aC KR (aC nM aN)))))))
def n5:T0K->Option (T0K⊕((Bool×Unit)⊕(LI×T0H))):=λ(v0,v1,v2,v3,_)=>
bif(decide (v3<v2))then((eu v3).bind λx0=>
(dR v1 x0).bind λx1=>
bif(decide (x1<1))then(some (.inr (.inl (false,()))))else
bif(decide (x1>32))then(some (.inr (.inl (false,()))))else
let x2:=w64 (v3+1);
some (.inl (v0,v1,v2,x2,())))else
some (.inr (.inr (v0,v1,v2,v3,false,())))
def gG(a0:List (Int)):Option (Bool×Unit):=
let x0:=dS a0.length;
(match dY n5 NN (a0,a0,x0,0,())with
|none=>none
|some (.inl (x1,_))=>
some (x1,())
|some (.inr (x1,_))=>
let x6:=dS x1.length;
bif(decide (x6>=1))then(let x7:Int:=(dS x1.length);
some ((decide (x7<=4)),()))else
some (false,()))
def FM:X.Cfg:=⟨E0,[],[],[⟨3,0,qS [sP 0 RI,sP 5 RI,Uaa 6,Uaa 7] [],[(.ret,qS [Xaa 2] []),(.exit 0,qS [sP 0 RI,sP 5 RI,Uaa 6,Uaa 7,Xaa 8] [])]⟩]⟩
def oY:Ctr:=⟨32,14,uL [RI],[],[⟨zab,[.one],[]⟩],ap1 gG⟩
theorem sy:Lk 1 oY:=ls FM aN
def t7:T2v->Option (T2v⊕(LI×Int×Int×Int×Int×Int×Bool×T0M)):=λ(v0,v1,v2,v3,v4,v5,v6,v7,v8,v9,_)=>
bif(decide (v5<v4))then(let x0:Int:=(w64 (v5+v1));
bif(v2 != 0)then let x1:Int:=(Int.tmod x0 v2);
(eu x1).bind λx2=>
(dR v8 x2).bind λx3=>
(dR v8 x2).bind λx4=>
let x5:=List.modify v8 x2 λe=>v3;
(eu x1).bind λx6=>
(dR v0 x6).bind λx7=>
let x8:=w64 (x7+1);
let x9:=w64 (50*v2);
bif(x9 != 0)then let ac:Int:=(w64 (Int.tdiv v1 x9));
let ae:=Int.tmod ac 40;
let af:=w64 (x8+ae);
let ag:=w64 (v3+af);
let ah:=w64 (v5+1);
some (.inl (v0,v1,v2,ag,v4,ah,v6,v7,x5,v9,()))else none else none)else
some (.inr (v0,v1,v2,v3,v4,v5,false,v6,v7,v8,v9,()))
def lz(a0:List (Int))(a1:Int):Option (T0n):=
((gG a0).bind λ(x0,_)=>
bif(!x0)then(some (a0,a1,true,(),0,()))else
bif(decide (a1<0))then(some (a0,a1,true,(),0,()))else
some (a0,a1,(decide (a1>1073741824)),(),0,()):Option (LI×Int×Bool×Unit×Int×Unit)).bind λ(x0,x1,x2,x3,x4,_)=>
bif x2 then(some ([],0,1,()))else
let x5:=dS x0.length;
(eu x5).bind λx6=>
(eu x5).bind λx7=>
bif(ug x6 x7 1)then let x8:List (Int):=(List.replicate x6 0);
let x9:=w64 (40503*x1);
let ac:=wk .u16 x9;
bif(x5 != 0)then let ae:Int:=(w64 (Int.tdiv x1 x5));
let af:=Int.tmod ae 50;
let ag:=w64 (1+af);
(dY t7 NN (x0,x1,x5,ag,x5,0,x3,x4,x8,ac,())).bind λ(ah,ai,aj,ak,am,an,ap,aq,av,ax,ay,_)=>
some (ax,ay,0,())else none else none
def H9:X.Cfg:=⟨E0,[oY],[],[⟨2,0,qE,[(.normal,(qS [sP 0 RI,Uaa 1,zaa 4,Xaa 21] [(10,uL [N1,CW])]))]⟩,(lx 9 1 [sP 0 RI,Uaa 1,zaa 4,Uaa 6,zaa 7,Uaa 8,Uaa 36,Uaa 37] [(10,uL [N1,CW]),(16,zaj)] 38)]⟩
def uV:Ctr:=⟨9,15,Uab,[],[⟨uL [(uaa I64),CW,I64],[.agg 2,.one],[]⟩],ap2 lz⟩
theorem zI:Lk 2 uV:=ls H9 (aC sy aN)
def oH(a0:List (Int))(a1:List (Int))(a2:Int):Option (T0J):=
(dW 1048576 a1 a2).bind λ(x0,x1)=>
(lz a0 x0).bind λ(x3,x4,x5,_)=>
some (x3,x4,x1)
def FV:X.Cfg:=⟨E0,[gr,uV],[],[]⟩
def ym:Ctr:=⟨75,16,[.ptr ⟨2,0,[]⟩ [0],shU RI],[(2,Uab)],[⟨zaj,[.agg 2],[(2,Uab)]⟩],ap3 oH⟩
theorem E9:Lk 4 ym:=ls FV (aC gQ (aC zI aN))
def i3(a0:Int)(a1:Int)(a2:Int)(a3:Int):Option (Bool×Unit):=
bif(a0==0)then(bif(a2==0)then(some ((a3==0),()))else
some (false,()))else
bif(a0==2)then(bif(a2==0)then(some ((a3==0),()))else
some (false,()))else
bif(a0==1)then(bif(a2==(-1))then(bif(a1==0)then(bif(decide (a3>=0))then(some ((decide (a3<=65535)),()))else
some (false,()))else
some (false,()))else
bif(a1==0)then(bif(decide (a2>=0))then(bif(decide (a2<4))then(bif(decide (a3>=0))then(some ((decide (a3<32)),()))else
some (false,()))else
some (false,()))else
some (false,()))else
some (false,()))else
some (false,())
def HU:X.Cfg:=⟨E0,[],[],[]⟩
def uO:Ctr:=⟨107,17,[.agg Xae],[],[⟨zab,[.one],[]⟩],ap4 i3⟩
theorem zD:Lk 1 uO:=ls HU aN
def g9:LDCn×Int×T0k->Option ((LDCn×Int×T0k)⊕((Bool×Unit)⊕(LDCn×Int×T0D))):=λ(v0,v1,v2,v3,v4,_)=>
bif(decide (v4<v3))then((eu v4).bind λx0=>
(dR v2 x0).bind λx1=>
(i3 x1.1 x1.2.1 x1.2.2.1 x1.2.2.2).bind λ(x2,_)=>
bif(!x2)then(some (.inr (.inl (false,()))))else
let x3:=w64 (v4+1);
some (.inl (v0,v1,v2,v3,x3,())))else
some (.inr (.inr (v0,v1,v2,v3,v4,false,())))
def fw(a0:LDCn)(a1:Int):Option (Bool×Unit):=
let x0:=dS a0.length;
(match dY g9 NN (a0,a1,a0,x0,0,())with
|none=>none
|some (.inl (x1,_))=>
some (x1,())
|some (.inr (x1,x2,_))=>
let x7:=dS x1.length;
some ((decide (x7<=x2)),()))
def Fu:X.Cfg:=⟨E0,[uO],[],[⟨3,0,qS [sP 0 eq,Uaa 1,sP 7 eq,Uaa 8,Uaa 9] [],[(.ret,qS [Xaa 4] []),(.exit 0,qS [sP 0 eq,Uaa 1,sP 7 eq,Uaa 8,Uaa 9,Xaa 10] [])]⟩]⟩
def is:Ctr:=⟨59,18,uL [eq,I64],[],[⟨zab,[.one],[]⟩],ap2 fw⟩
theorem je:Lk 2 is:=ls Fu (aC zD aN)
def k9:T15->Option (T15⊕((Bool×Unit)⊕(LLCn×T0V))):=λ(v0,v1,v2,v3)=>
bif(decide (v2<v1))then((eu v2).bind λx0=>
(dR v0 x0).bind λx1=>
(fw x1 64).bind λ(x2,_)=>
bif(!x2)then(some (.inr (.inl (false,()))))else
let x3:=w64 (v2+1);
some (.inl (v0,v1,x3,v3)))else
some (.inr (.inr (v0,v1,v2,false,v3)))
def nX:LDOp×T0z->Option ((LDOp×T0z)⊕((Bool×Unit)⊕(LDOp×T0V))):=λ(v0,v1,v2,v3,v4,_)=>
bif(decide (v2<v1))then((eu v2).bind λx0=>
(dR v0 x0).bind λx1=>
(bif(x1.1==(-1))then(bif(x1.2.1 != 0)then(some (v0,v1,v2,true,v3,v4,x1.1,x1.2.1,x1.2.2,()))else
bif x1.2.2 then(some (v0,v1,v2,true,v3,v4,x1.1,x1.2.1,x1.2.2,()))else
bif(decide (x1.1<(-1)))then(some (v0,v1,v2,true,v3,v4,x1.1,x1.2.1,x1.2.2,()))else
let x2:=dS v3.length;
bif(decide (x1.1>=x2))then(some (v0,v1,v2,true,v3,v4,x1.1,x1.2.1,x1.2.2,()))else
bif(decide (x1.1>=0))then(bif(decide (x1.2.1<0))then(some (v0,v1,v2,true,v3,v4,x1.1,x1.2.1,x1.2.2,()))else
(eu x1.1).bind λx3=>
(dR v3 x3).bind λx4=>
let x5:=dS x4.length;
some (v0,v1,v2,(decide (x1.2.1>x5)),v3,v4,x1.1,x1.2.1,x1.2.2,()))else
some (v0,v1,v2,false,v3,v4,x1.1,x1.2.1,x1.2.2,()))else
bif(decide (x1.1<(-1)))then(some (v0,v1,v2,true,v3,v4,x1.1,x1.2.1,x1.2.2,()))else
let x2:=dS v3.length;
bif(decide (x1.1>=x2))then(some (v0,v1,v2,true,v3,v4,x1.1,x1.2.1,x1.2.2,()))else
bif(decide (x1.1>=0))then(bif(decide (x1.2.1<0))then(some (v0,v1,v2,true,v3,v4,x1.1,x1.2.1,x1.2.2,()))else
(eu x1.1).bind λx3=>
(dR v3 x3).bind λx4=>
let x5:=dS x4.length;
some (v0,v1,v2,(decide (x1.2.1>x5)),v3,v4,x1.1,x1.2.1,x1.2.2,()))else
some (v0,v1,v2,false,v3,v4,x1.1,x1.2.1,x1.2.2,()):Option (LDOp×Int×Int×Bool×LLCn×LDOp×T0d)).bind λ(x2,x3,x4,x5,x6,x7,_)=>
bif x5 then(some (.inr (.inl (false,()))))else
let ae:=w64 (x4+1);
some (.inl (x2,x3,ae,x6,x7,())))else
some (.inr (.inr (v0,v1,v2,false,v3,v4,())))
def lS(a0:List LDCn)(a1:LDOp):Option (Bool×Unit):=
let x0:=dS a0.length;
bif(decide (x0>4))then(some (false,()))else
let x1:=dS a1.length;
bif(x1 != 8)then(some (false,()))else
let x2:=dS a0.length;
(match dY k9 NN (a0,x2,0,a0,a1,())with
|none=>none
|some (.inl (x3,_))=>
some (x3,())
|some (.inr (x3,x4,x5,x6,x7,x8,_))=>
let x9:=dS x8.length;
(match dY nX NN (x8,x9,0,x7,x8,())with
|none=>none
|some (.inl (ac,_))=>
some (ac,())
|some (.inr (ac,_))=>
some (true,())))
def Fj:X.Cfg:=⟨E0,[is],[],[⟨6,0,qS [zaa 1,sP 18 (yaa eq),Uaa 19,Uaa 20] [(4,zad)],[(.ret,qS [Xaa 2] []),(.exit 0,qS [zaa 1,sP 18 (yaa eq),Uaa 19,Uaa 20,Xaa 21] [(4,zad)])]⟩,⟨20,1,qE,[(.normal,qS [zaa 1,sP 29 iX,Uaa 30,Uaa 31,Xaa 81] [(4,zad),(14,uai)])]⟩,⟨15,2,qS [zaa 1,sP 29 iX,Uaa 30,Uaa 31] [(4,zad)],[(.ret,qS [Xaa 2] []),(.exit 2,qS [zaa 1,sP 29 iX,Uaa 30,Uaa 31,Xaa 32] [(4,zad)])]⟩]⟩
def sK:Ctr:=⟨151,19,[.agg zad],[],[⟨zab,[.one],[]⟩],ap2 lS⟩
theorem xp:Lk 3 sK:=ls Fj (aC je aN)
def vJ:T1O->Option (T1O⊕(LLI×Int×Int×Bool×T0R)):=λ(v0,v1,v2,v3,v4,v5,v6,_)=>
bif(decide (v2<v1))then((eu v2).bind λx0=>
(dR v6 x0).bind λx1=>
(dR v6 x0).bind λx2=>
let x3:=(List.modify v6 x0 λe=>((-1),e.2));
let x4:=w64 (v2+1);
some (.inl (v0,v1,x4,v3,v4,v5,x3,())))else
some (.inr (v0,v1,v2,false,v3,v4,v5,v6,()))
def vI:T2M->Option (T2M⊕(LLI×Int×Int×LI×Int×Int×Bool×T18)):=λ(v0,v1,v2,v3,v4,v5,v6,v7,v8,v9,v10,_)=>
bif(decide (v5<v4))then((eu v5).bind λx0=>
(dR v3 x0).bind λx1=>
let x2:LDCn:=[(0,(x1,(0,0)))];
bif(ek 24 v10.length x2.length)then let x3:LDCn:=(List.append v10 x2);
let x4:=w64 (v5+1);
some (.inl (v0,v1,v2,v3,v4,x4,v6,v7,v8,v9,x3,()))else none)else
some (.inr (v0,v1,v2,v3,v4,v5,false,v6,v7,v8,v9,v10,()))
def vH:T1N->Option (T1N⊕(LLI×T1B)):=λ(v0,v1,v2,v3,v4,v5,v6,_)=>
bif(decide (v2<v1))then((eu v2).bind λx0=>
(dR v0 x0).bind λx1=>
let x2:=dS x1.length;
(dY vI NN (v0,v1,v2,x1,x2,0,v3,v4,v5,v6,[],())).bind λ(x3,x4,x5,x6,x7,x8,x9,ac,ae,af,ag,ah,_)=>
bif(ek 24 af.length (List.length [ah]))then let ai:List LDCn:=(List.append af [ah]);
let aj:=w64 (x5+1);
some (.inl (x3,x4,aj,ac,ae,ai,ag,()))else none)else
some (.inr (v0,v1,v2,false,v3,v4,v5,v6,()))
def r7(a0:List LI):Option (LLCn×LDOp×Int×Unit):=
bif(ug 8 8 3)then let x0:LDOp:=(List.replicate 8 (0,(0,false)));
let x1:=dS x0.length;
(dY vJ NN (a0,x1,0,(),(),(),x0,())).bind λ(x2,x3,x4,x5,x6,x7,x8,x9,_)=>
let ac:=dS x2.length;
(dY vH NN (x2,ac,0,x6,x7,[],x9,())).bind λ(ae,af,ag,ah,ai,aj,ak,am,_)=>
(lS ak am).bind λ(an,_)=>
bif(!an)then(some ([],[],3,()))else
some (ak,am,0,())else none
def Jx:X.Cfg:=⟨E0,[sK],[(46,(uaa KCn)),(47,(uaa KCn))],[(lx 4 0 [sP 0 (yaa RW),zaa 2,zaa 4,Uaa 15,Uaa 16] [(6,Zab),(10,uL [N1,(uaa KOp)])] 17),⟨19,1,qS [zaa 2,zaa 4,Zaa 8 19,sP 25 (yaa RW),Uaa 26,Uaa 27,sP 31 RW,Uaa 32,Uaa 33] [(6,Zab),(10,uaf),(19,uag)],[(.exit 4,qS [zaa 2,zaa 4,Zaa 8 19,sP 25 (yaa RW),Uaa 26,Uaa 27,sP 31 RW,Uaa 32,Uaa 33,Xaa 34] [(6,Zab),(10,uaf),(19,uag)])]⟩,⟨11,2,qS [zaa 2,zaa 4,sP 25 (yaa RW),Uaa 26,Uaa 27] [(6,Zab),(10,uaf)],[(.exit 2,qS [zaa 2,zaa 4,sP 25 (yaa RW),Uaa 26,Uaa 27,Xaa 28] [(6,Zab),(10,uaf)])]⟩]⟩
def Ct:Ctr:=⟨156,20,uL [(yaa RW)],[],[⟨Uak,[.agg 2,.one],[]⟩],ap1 r7⟩
theorem Jk:Lk 4 Ct:=ls Jx (aC xp aN)
def fY:LLI×Int×Int×LLI×Unit->Option ((LLI×Int×Int×LLI×Unit)⊕(LLI×Int×Int×Bool×LLI×Unit)):=λ(v0,v1,v2,v3,_)=>
bif(decide (v2<v1))then((eu v2).bind λx0=>
(dR v0 x0).bind λx1=>
bif(ek 2 0 x1.length)then let x2:List (Int):=(List.append [] x1);
bif(ek 24 v3.length (List.length [x2]))then let x3:List LI:=(List.append v3 [x2]);
let x4:=w64 (v2+1);
some (.inl (v0,v1,x4,x3,()))else none else none)else
some (.inr (v0,v1,v2,false,v3,()))
def gf(a0:List LI):Option (LLI×Unit):=
let x0:=dS a0.length;
(dY fY NN (a0,x0,0,[],())).bind λ(x1,x2,x3,x4,x5,_)=>
some (x5,())
def xH:X.Cfg:=⟨E0,[],[(15,(uaa CW)),(16,(uaa CW))],[(lx 4 0 [Zaa 3 9,sP 6 (yaa RW),Uaa 7,Uaa 8] [(9,Xai)] 9)]⟩
def jI:Ctr:=⟨153,21,uL [(yaa RW)],[],[⟨Xai,[.one],[]⟩],ap1 gf⟩
theorem ml:Lk 1 jI:=ls xH aN
def jE:LDOu×T02->Option ((LDOu×T02)⊕((Bool×Unit)⊕(LDOu×T0d))):=λ(v0,v1,v2,_)=>
bif(decide (v2<v1))then((eu v2).bind λx0=>
(dR v0 x0).bind λx1=>
(bif(x1.1 != v2)then(some (v0,v1,v2,true,()))else
bif(decide (x1.2.1<0))then(some (v0,v1,v2,true,()))else
bif(decide (x1.2.1>=2))then(some (v0,v1,v2,true,()))else
let x2:=dS x1.2.2.length;
some (v0,v1,v2,(decide (x2>16)),()):Option (LDOu×T0d)).bind λ(x2,x3,x4,x5,_)=>
bif x5 then(some (.inr (.inl (false,()))))else
let x6:=w64 (x4+1);
some (.inl (x2,x3,x6,())))else
some (.inr (.inr (v0,v1,v2,false,())))
def lR(a0:LDOu):Option (Bool×Unit):=
let x0:=dS a0.length;
(match dY jE NN (a0,x0,0,())with
|none=>none
|some (.inl (x1,_))=>
some (x1,())
|some (.inr (x1,_))=>
some (true,()))
def BX:X.Cfg:=⟨E0,[],[],[⟨8,0,qE,[(.normal,qS [sP 5 kE,Uaa 6,Uaa 7,Xaa 31] [])]⟩,⟨3,1,qS [sP 5 kE,Uaa 6,Uaa 7] [],[(.ret,qS [Xaa 2] []),(.exit 0,qS [sP 5 kE,Uaa 6,Uaa 7,Xaa 8] [])]⟩]⟩
def uH:Ctr:=⟨152,22,uL [kE],[],[⟨zab,[.one],[]⟩],ap1 lR⟩
theorem BE:Lk 1 uH:=ls BX aN
def k8:T2n->Option (T2n⊕((Bool×Unit)⊕(LLI×T25))):=λ(v0,v1,v2,v3)=>
bif(decide (v2<v1))then((eu v2).bind λx0=>
(dR v0 x0).bind λx1=>
let x2:=dS x1.length;
bif(decide (x2>64))then(some (.inr (.inl (false,()))))else
let x3:=w64 (v2+1);
some (.inl (v0,v1,x3,v3)))else
some (.inr (.inr (v0,v1,v2,false,v3)))
def kZ:T2g->Option (T2g⊕((Bool×Unit)⊕(LDOu×T25))):=λ(v0,v1,v2,v3)=>
bif(decide (v2<v1))then((eu v2).bind λx0=>
(dR v0 x0).bind λx1=>
(fw x1.2.2 16).bind λ(x2,_)=>
bif(!x2)then(some (.inr (.inl (false,()))))else
let x3:=w64 (v2+1);
some (.inl (v0,v1,x3,v3)))else
some (.inr (.inr (v0,v1,v2,false,v3)))
def j9(a0:List (Int))(a1:List (Int))(a2:List LI)(a3:List LDCn)(a4:LDOp)(a5:LDOu):Option (Bool×Unit):=
let x0:=dS a2.length;
(match dY k8 NN (a2,x0,0,a0,a1,a2,a3,a4,a5,())with
|none=>none
|some (.inl (x1,_))=>
some (x1,())
|some (.inr (x1,x2,x3,x4,x5,x6,x7,x8,x9,ac,_))=>
let ae:=dS ac.length;
(match dY kZ NN (ac,ae,0,x5,x6,x7,x8,x9,ac,())with
|none=>none
|some (.inl (af,_))=>
some (af,())
|some (.inr (af,ag,ah,ai,aj,ak,am,an,ap,aq,_))=>
let av:=dS aj.length;
bif(decide (av<=64))then(let ax:Int:=(dS ak.length);
bif(decide (ax<=64))then(let ay:Int:=(dS am.length);
bif(decide (ay<=2))then((lS an ap).bind λ(az,_)=>
bif az then(let aA:Int:=(dS aq.length);
bif(decide (aA<=200))then((lR aq).bind λ(aB,_)=>
some (aB,()))else
some (false,()))else
some (false,()))else
some (false,()))else
some (false,()))else
some (false,())))
def Fg:X.Cfg:=⟨E0,[is,sK,uH],[],[⟨3,0,qS [zaa 1,sP 8 (yaa RW),Uaa 9,Uaa 10] [(4,Xag)],[(.ret,qS [Xaa 2] []),(.exit 0,qS [zaa 1,sP 8 (yaa RW),Uaa 9,Uaa 10,Xaa 11] [(4,Xag)])]⟩,⟨12,1,qS [zaa 1,sP 19 kE,Uaa 20,Uaa 21] [(4,Xag)],[(.ret,qS [Xaa 2] []),(.exit 2,qS [zaa 1,sP 19 kE,Uaa 20,Uaa 21,Xaa 22] [(4,Xag)])]⟩]⟩
def oT:Ctr:=⟨121,23,[.agg Xag],[],[⟨zab,[.one],[]⟩],ap6 j9⟩
theorem sr:Lk 4 oT:=ls Fg (aC je (aC xp (aC BE aN)))
def r6(a0:List LI)(a1:List LI)(a2:List (Int))(a3:List (Int)):Option (LI×LI×LLI×LLCn×LDOp×Unit×Int×Unit):=
(r7 a0).bind λ(x0,x1,x2,_)=>
bif(x2 != 0)then(some ([],[],[],[],[],(),x2,()))else
bif(ek 2 0 a2.length)then let x3:List (Int):=(List.append [] a2);
bif(ek 2 0 a3.length)then let x4:List (Int):=(List.append [] a3);
(gf a1).bind λ(x5,_)=>
(j9 x3 x4 x5 x0 x1 []).bind λ(x6,_)=>
bif(!x6)then(some ([],[],[],[],[],(),3,()))else
some (x3,x4,x5,x0,x1,(),0,())else none else none
def Fh:X.Cfg:=⟨E0,[Ct,jI,oT],[],[]⟩
def xS:Ctr:=⟨125,24,uL [(yaa RW),(yaa RW),RW,RW],[],[⟨uL [RW,RW,(yaa RW),(yaa eq),iX,N1,I64],[.agg 6,.one],[]⟩],ap4 r6⟩
theorem EN:Lk 5 xS:=ls Fh (aC Jk (aC ml (aC sr aN)))
def nn(a0:List (Int))(a1:Int):Option (LI×LI×LLI×LLCn×LDOp×Unit×T07):=
(gH 5 a0 a1).bind λ(x0,x1,x2,_)=>
(gH 3 x1 x2).bind λ(x3,x4,x5,_)=>
let x6:List LI:=[x0,x3];
(gH 8 x4 x5).bind λ(x7,x8,x9,_)=>
(gH 4 x8 x9).bind λ(ac,ae,af,_)=>
let ag:List LI:=[x7,ac];
(gH 5 ae af).bind λ(ah,ai,aj,_)=>
(gH 5 ai aj).bind λ(ak,am)=>
(r6 x6 ag ah ak).bind λ(ap,aq,av,ax,ay,az,aA,_)=>
some (ap,aq,av,ax,ay,az,am)
def Dx:X.Cfg:=⟨E0,[u3,xS],[(10,(uaa CW)),(15,(uaa CW))],[]⟩
def wt:Ctr:=⟨76,25,[.ptr ⟨2,0,[]⟩ [0]],[(2,Uab)],[⟨uL [RW,RW,(yaa RW),(yaa eq),iX,N1],[.agg 6],[(2,Uab)]⟩],ap2 nn⟩
theorem Da:Lk 6 wt:=ls Dx (aC zK (aC EN aN))
def lh:T2Q->Option (T2Q⊕((Bool×Unit)⊕T31)):=λ(v0,v1,v2,v3,v4,v5,v6,v7,v8,v9,v10,v11,_)=>
bif(decide (v1<v0))then((eu v1).bind λx0=>
(dR v11 x0).bind λx1=>
(dR v11 x0).bind λx2=>
(bif(decide (x2<0))then(some (v0,v1,true,v2,v3,v4,v5,v6,v7,v8,v9,v10,v11,()))else
bif(decide (x2>=8))then(some (v0,v1,true,v2,v3,v4,v5,v6,v7,v8,v9,v10,v11,()))else
(eu v1).bind λx3=>
bif(Nat.beq x3 0)then(bif(!v7)then(some (v0,v1,(x2 != 0),v2,v3,v4,v5,v6,v7,v8,v9,v10,v11,()))else
some (v0,v1,false,v2,v3,v4,v5,v6,v7,v8,v9,v10,v11,()))else
bif(Nat.beq x3 1)then(bif(!v8)then(some (v0,v1,(x2 != 0),v2,v3,v4,v5,v6,v7,v8,v9,v10,v11,()))else
some (v0,v1,false,v2,v3,v4,v5,v6,v7,v8,v9,v10,v11,()))else
bif(Nat.beq x3 2)then(bif(!v9)then(some (v0,v1,(x2 != 0),v2,v3,v4,v5,v6,v7,v8,v9,v10,v11,()))else
some (v0,v1,false,v2,v3,v4,v5,v6,v7,v8,v9,v10,v11,()))else
bif(Nat.beq x3 3)then bif(!v10)then(some (v0,v1,(x2 != 0),v2,v3,v4,v5,v6,v7,v8,v9,v10,v11,()))else
some (v0,v1,false,v2,v3,v4,v5,v6,v7,v8,v9,v10,v11,())else none:Option (T31)).bind λ(x3,x4,x5,x6)=>
bif x5 then(some (.inr (.inl (false,()))))else
let aj:=w64 (x4+1);
some (.inl (x3,aj,x6)))else
some (.inr (.inr (v0,v1,false,v2,v3,v4,v5,v6,v7,v8,v9,v10,v11,())))
def oB(a0:Int)(a1:Int)(a2:Int)(a3:Int)(a4:Int):Option (Bool×Unit):=
bif(decide (a0<0))then(some (false,()))else
bif(decide (a0>24))then(some (false,()))else
(jR a0).bind λ(x0,x1,x2,x3,_)=>
let x4:List (Int):=[a1,a2,a3];
let x5:=dS x4.length;
(match dY lh NN (x5,0,a0,a1,a2,a3,a4,x0,x1,x2,x3,x4,())with
|none=>none
|some (.inl (x6,_))=>
some (x6,())
|some (.inr (x6,x7,x8,x9,ac,ae,af,ag,ah,ai,aj,ak,am,_))=>
(bif(decide (ag<0))then(some (true,x9,ac,ae,af,ag,()))else
bif(decide (ag>65535))then(some (true,x9,ac,ae,af,ag,()))else
bif(!ak)then(some ((ag != 0),x9,ac,ae,af,ag,()))else
some (false,x9,ac,ae,af,ag,()):Option (Bool×T0W)).bind λ(an,ap,aq,av,ax,ay,_)=>
bif an then(some (false,()))else
(ib ap).bind λ(az,_)=>
bif az then(some ((decide (ay<64)),()))else
bif(ap==15)then(some ((decide (ay<4)),()))else
bif(ap==23)then(some ((decide (ay<=15)),()))else
some (true,()))
def FE:X.Cfg:=⟨E0,[uS,lE],[],[⟨12,0,qE,[(.normal,qS [zaa 1,zaa 3,Zaa 23 49,Uaa 24,Uaa 25,Xaa 45] [(4,Uad),(8,Uag),(49,zae)])]⟩,⟨7,1,qS [zaa 1,zaa 3,Zaa 23 49,Uaa 24,Uaa 25] [(4,Uad),(8,Uag),(49,zae)],[(.ret,qS [Xaa 2] []),(.exit 0,qS [zaa 1,zaa 3,Zaa 23 49,Uaa 24,Uaa 25,Xaa 26] [(4,Uad),(8,Uag),(49,zae)])]⟩,⟨15,2,qE,[(.normal,qS [zaa 1,Xaa 64] [(4,Uad)])]⟩]⟩
def ye:Ctr:=⟨110,26,[.agg Uad],[],[⟨zab,[.one],[]⟩],ap5 oB⟩
theorem EZ:Lk 2 ye:=ls FE (aC zG (aC nM aN))
def lf:T1w->Option (T1w⊕((Int×Unit)⊕T1M)):=λ(v0,v1,v2,v3,v4,v5,_)=>
bif(decide (v2<v1))then((eu v2).bind λx0=>
(dR v0 x0).bind λx1=>
let x2:=dS x1.length;
(eu v2).bind λx3=>
(dR v4 x3).bind λx4=>
bif(decide (x2>x4))then(some (.inr (.inl (1,()))))else
let x5:=w64 (v2+1);
some (.inl (v0,v1,x5,v3,v4,v5,())))else
some (.inr (.inr (v0,v1,v2,false,v3,v4,v5,())))
def ld:T1m->Option (T1m⊕((Int×Unit)⊕T1K)):=λ(v0,v1,v2,v3)=>
bif(decide (v2<v1))then((eu v2).bind λx0=>
(dR v0 x0).bind λx1=>
(oB x1.1 x1.2.1 x1.2.2.1 x1.2.2.2.1 x1.2.2.2.2).bind λ(x2,_)=>
bif(!x2)then(some (.inr (.inl (5,()))))else
let x3:=w64 (v2+1);
some (.inl (v0,v1,x3,v3)))else
some (.inr (.inr (v0,v1,v2,false,v3)))
def lc:T1m->Option (T1m⊕((Int×Unit)⊕T1K)):=λ(v0,v1,v2,v3,v4,v5,_)=>
bif(decide (v2<v1))then((eu v2).bind λx0=>
(dR v0 x0).bind λx1=>
((ib x1.1).bind λ(x2,_)=>
bif x2 then(let x3:Int:=(dS v3.length);
bif(decide (x1.2.2.2.2>=x3))then(some (v0,v1,v2,true,v3,v4,v5,()))else
bif(x1.1==15)then(let x4:Int:=(dS v4.length);
some (v0,v1,v2,(decide (x1.2.2.2.2>=x4)),v3,v4,v5,()))else
some (v0,v1,v2,false,v3,v4,v5,()))else
bif(x1.1==15)then(let x3:Int:=(dS v4.length);
some (v0,v1,v2,(decide (x1.2.2.2.2>=x3)),v3,v4,v5,()))else
some (v0,v1,v2,false,v3,v4,v5,()):Option (T1K)).bind λ(x2,x3,x4,x5,x6)=>
bif x5 then(some (.inr (.inl (6,()))))else
let x9:=w64 (x4+1);
some (.inl (x2,x3,x9,x6)))else
some (.inr (.inr (v0,v1,v2,false,v3,v4,v5,())))
def i7(a0:LDIn)(a1:List (Int))(a2:List LI):Option (Int×Unit):=
(gG a1).bind λ(x0,_)=>
bif(!x0)then(some (1,()))else
let x1:=dS a2.length;
let x2:=dS a1.length;
bif(x1 != x2)then(some (1,()))else
let x3:=dS a2.length;
(match dY lf NN (a2,x3,0,a0,a1,a2,())with
|none=>none
|some (.inl (x4,_))=>
some (x4,())
|some (.inr (x4,x5,x6,x7,x8,x9))=>
let ae:=dS x8.length;
bif(decide (ae<1))then(some (3,()))else
let af:=dS x8.length;
bif(decide (af>64))then(some (3,()))else
let ag:=dS x8.length;
(match dY ld NN (x8,ag,0,x8,x9)with
|none=>none
|some (.inl (ah,_))=>
some (ah,())
|some (.inr (ah,ai,aj,ak,am,an))=>
let aq:=dS am.length;
(match dY lc NN (am,aq,0,am,an)with
|none=>none
|some (.inl (av,_))=>
some (av,())
|some (.inr (av,_))=>
some (0,()))))
def FD:X.Cfg:=⟨E0,[oY,ye,lE],[],[⟨6,0,qS [zaa 1,sP 23 (yaa RW),Uaa 24,Uaa 25] [(4,uab)],[(.ret,qS [Uaa 2] []),(.exit 0,qS [zaa 1,sP 23 (yaa RW),Uaa 24,Uaa 25,Xaa 26] [(4,uab)])]⟩,⟨18,1,qS [zaa 1,sP 50 ff,Uaa 51,Uaa 52] [(4,uab)],[(.ret,qS [Uaa 2] []),(.exit 2,qS [zaa 1,sP 50 ff,Uaa 51,Uaa 52,Xaa 53] [(4,uab)])]⟩,⟨32,2,qE,[(.normal,qS [zaa 1,sP 61 ff,Uaa 62,Uaa 63,Xaa 90] [(4,uab)])]⟩,⟨27,3,qS [zaa 1,sP 61 ff,Uaa 62,Uaa 63] [(4,uab)],[(.ret,qS [Uaa 2] []),(.exit 4,qS [zaa 1,sP 61 ff,Uaa 62,Uaa 63,Xaa 64] [(4,uab)])]⟩]⟩
def oV:Ctr:=⟨64,27,[.agg uab],[],[⟨Uac,[.one],[]⟩],ap3 i7⟩
theorem sw:Lk 3 oV:=ls FD (aC sy (aC EZ (aC nM aN)))
def fH:T2L->Option (T2L⊕((Bool×Unit)⊕T2Z)):=λ(v0,v1,v2,v3,v4,v5,v6,v7,v8,v9)=>
bif(decide (v8<v7))then((match((eu v8).bind λx0=>
(dR v6 x0).bind λx1=>
(eu v1).bind λx2=>
(dR v0 x2).bind λx3=>
let x4:=w64 (v2+x3);
bif(decide (x4>=x1))then((eu v8).bind λx5=>
(dR v0 x5).bind λx6=>
let x7:=w64 (x1+x6);
bif(decide (x7>=v2))then(some (.inl (false,())))else
some (.inr (v0,v1,v2,v3,v4,v5,v6,v7,v8,false,v9)))else
some (.inr (v0,v1,v2,v3,v4,v5,v6,v7,v8,false,v9)):Option ((Bool×Unit)⊕T2Z))with
|none=>none
|some (.inl (x0,_))=>
some (.inr (.inl (x0,())))
|some (.inr (x0,x1,x2,x3,x4,x5,x6,x7,x8,x9,ac))=>
let af:=w64 (x8+1);
some (.inl (x0,x1,x2,x3,x4,x5,x6,x7,af,ac))))else
some (.inr (.inr (v0,v1,v2,v3,v4,v5,v6,v7,v8,false,v9)))
def fG:T1q->Option (T1q⊕((Bool×Unit)⊕(LI×T1o))):=λ(v0,v1,v2,v3,v4,v5,_)=>
bif(decide (v3<v2))then((eu v3).bind λx0=>
(dR v1 x0).bind λx1=>
bif(decide (x1<0))then(some (.inr (.inl (false,()))))else
(eu v3).bind λx2=>
(dR v0 x2).bind λx3=>
let x4:=w64 (512-x3);
bif(decide (x1>x4))then(some (.inr (.inl (false,()))))else
(eu v3).bind λx5=>
bif(iz 0 x5 v4.length)then let x6:List (Int):=(lF v4 0 (Nat.sub x5 0));
let x7:=dS x6.length;
(match dY fH NN (v0,v3,x1,v1,v2,v3,x6,x7,0,v4,v5,())with
|none=>none
|some (.inl (x8,_))=>
some (.inr (.inl (x8,())))
|some (.inr (x8,x9,ac,ae,af,ag,ah,ai,aj,ak,am))=>
let ap:=w64 (ag+1);
some (.inl (x8,ae,af,ap,am)))else none)else
some (.inr (.inr (v0,v1,v2,v3,false,v4,v5,())))
def gF(a0:List (Int))(a1:Int)(a2:List (Int)):Option (Bool×Unit):=
(gG a2).bind λ(x0,_)=>
bif(!x0)then(some (false,()))else
let x1:=dS a0.length;
let x2:=dS a2.length;
bif(x1 != x2)then(some (false,()))else
let x3:=dS a0.length;
(match dY fG NN (a2,a0,x3,0,a0,a1,())with
|none=>none
|some (.inl (x4,_))=>
some (x4,())
|some (.inr (x4,_))=>
some (true,()))
def FJ:X.Cfg:=⟨E0,[oY],[],[⟨18,0,qE,[(.ret,qS [Xaa 4] []),(.normal,qS [sP 1 RI,zaa 2,Uaa 5,Uaa 6,sP 21 RI,Uaa 22,Uaa 23,sP 42 RI,Uaa 43,Uaa 44,Xaa 66] [(6,yab)])]⟩,⟨15,1,qS [sP 1 RI,zaa 2,Uaa 5,Uaa 6,sP 21 RI,Uaa 22,Uaa 23,sP 42 RI,Uaa 43,Uaa 44] [(6,yab)],[(.ret,qS [Xaa 4] []),(.exit 2,qS [sP 1 RI,zaa 2,Uaa 5,Uaa 6,sP 21 RI,Uaa 22,Uaa 23,sP 42 RI,Uaa 43,Uaa 44,Xaa 45] [(6,yab)])]⟩,⟨6,2,qS [sP 1 RI,zaa 2,sP 21 RI,Uaa 22,Uaa 23] [(6,yab)],[(.ret,qS [Xaa 4] []),(.exit 0,qS [sP 1 RI,zaa 2,sP 21 RI,Uaa 22,Uaa 23,Xaa 24] [(6,yab)])]⟩]⟩
def my:Ctr:=⟨42,28,[.agg yab,shU RI],[],[⟨zab,[.one],[]⟩],ap3 gF⟩
theorem oP:Lk 2 my:=ls FJ (aC sy aN)
def At:T0f->Option (T0f⊕(Int×Int×Bool×LDLn×Unit)):=λ(v0,v1,v2,_)=>
bif(decide (v1<v0))then((eu v1).bind λx0=>
(dR v2 x0).bind λx1=>
(dR v2 x0).bind λx2=>
let x3:=(List.modify v2 x0 λe=>((-1),e.2));
let x4:=w64 (v1+1);
some (.inl (v0,x4,x3,())))else
some (.inr (v0,v1,false,v2,()))
def oD:Option (LDLn×Unit):=
bif(ug 4 4 3)then let x0:LDLn:=(List.replicate 4 (0,(false,[])));
let x1:=dS x0.length;
(dY At NN (x1,0,x0,())).bind λ(x2,x3,x4,x5,_)=>
some (x5,())else none
def FI:X.Cfg:=⟨E0,[],[(3,Ui)],[(lx 4 0 [Zaa 1 5,Uaa 5,Uaa 6] [(5,uL [j5])] 7)]⟩
def sT:Ctr:=⟨45,29,[],[],[⟨uL [j5],[.one],[]⟩],λh=>oD⟩
theorem xy:Lk 1 sT:=ls FI aN
def t6:T3f->Option (T3f⊕(Int×LLI×Int×Int×LI×T2P)):=λ(v0,v1,v2,v3,v4,v5,v6,v7,v8,v9,v10,v11,v12,v13,v14,v15,_)=>
bif(decide (v6<v5))then((eu v6).bind λx0=>
(dR v4 x0).bind λx1=>
(eu v0).bind λx2=>
(dR v10 x2).bind λx3=>
let x4:=w64 (x3+v6);
(eu x4).bind λx5=>
(dR v14 x5).bind λx6=>
(dR v14 x5).bind λx7=>
let x8:=List.modify v14 x5 λe=>(e.1,x1);
let x9:=w64 (v6+1);
some (.inl (v0,v1,v2,v3,v4,v5,x9,v7,v8,v9,v10,v11,v12,v13,x8,v15,())))else
some (.inr (v0,v1,v2,v3,v4,v5,v6,false,v7,v8,v9,v10,v11,v12,v13,v14,v15,()))
def pj:T30->Option (T30⊕((Int×T0b)⊕(LLI×T2P))):=λ(v0,v1,v2,v3,v4,v5)=>
bif(decide (v2<v1))then((eu v2).bind λx0=>
(dR v0 x0).bind λx1=>
let x2:=dS x1.length;
(eu v2).bind λx3=>
(dR v4 x3).bind λx4=>
bif(decide (x2>x4))then(some (.inr (.inl (1,(),(),()))))else
let x5:=dS x1.length;
(dY t6 NN (v2,v0,v1,v2,x1,x5,0,v3,v4,v5)).bind λ(x6,x7,x8,x9,ac,ae,af,ag,ah)=>
let ax:=w64 (x9+1);
some (.inl (x7,x8,ax,ah)))else
some (.inr (.inr (v0,v1,v2,false,v3,v4,v5)))
def qp(a0:LDIn)(a1:List (Int))(a2:List LI)(a3:List (Int))(a4:Int):Option (LDCe×LDLn×Int×Unit):=
(gF a3 a4 a1).bind λ(x0,_)=>
bif(!x0)then(some ([],[],1,()))else
let x1:=dS a2.length;
let x2:=dS a1.length;
bif(x1 != x2)then(some ([],[],1,()))else
bif(ug 512 512 2)then let x3:LDCe:=(List.replicate 512 (0,0));
(oD).bind λ(x4,_)=>
let x5:=dS a2.length;
(match dY pj NN (a2,x5,0,a0,a1,a2,a3,a4,(),(),x3,x4,())with
|none=>none
|some (.inl (x6,x7,x8,_))=>
some ([],[],x6,())
|some (.inr (x6,x7,x8,x9,ac,ae,af,ag,ah,ai,aj,ak,am,_))=>
some (ak,am,0,()))else none
def H6:X.Cfg:=⟨E0,[my,sT],[],[⟨16,0,qS [zaa 2,zaa 3,zaa 4,zaa 6,Uaa 7,sP 30 (yaa RW),Uaa 31,Uaa 32,sP 46 RW,Uaa 47,Uaa 48] [(6,uab),(8,yab),(10,Zab),(14,Uaf)],[(.exit 2,qS [zaa 2,zaa 3,zaa 4,zaa 6,Uaa 7,sP 30 (yaa RW),Uaa 31,Uaa 32,sP 46 RW,Uaa 47,Uaa 48,Xaa 49] [(6,uab),(8,yab),(10,Zab),(14,Uaf)])]⟩,⟨7,1,qS [zaa 2,zaa 3,zaa 4,zaa 6,sP 30 (yaa RW),Uaa 31,Uaa 32] [(6,uab),(8,yab),(10,Zab),(14,Uaf)],[(.ret,qS [zaa 4,Uaa 5] [(10,Zab)]),(.exit 0,qS [zaa 2,zaa 3,zaa 4,zaa 6,sP 30 (yaa RW),Uaa 31,Uaa 32,Xaa 33] [(6,uab),(8,yab),(10,Zab),(14,Uaf)])]⟩]⟩
def Af:Ctr:=⟨150,30,[.agg uab,.agg yab],[],[⟨uL [(uaa KCe),j5,I64],[.agg 2,.one],[]⟩],ap5 qp⟩
theorem Hl:Lk 3 Af:=ls H6 (aC oP (aC xy aN))
def tn:T2G->Option (T2G⊕T2O):=λ(v0,v1,v2,v3,v4,v5,v6,v7,v8,v9,v10,_)=>
bif(decide (v0<4))then(bif(ug 8 8 2)then let x0:LDCe:=(List.replicate 8 (0,0));
(bif(v0==0)then(some (v0,v1,v2,v3,v4,v5,v6,v7,v8,v9,v10,1,x0,0,0,(-1),(-1),0,0,()))else
some (v0,v1,v2,v3,v4,v5,v6,v7,v8,v9,v10,0,x0,0,0,(-1),(-1),0,0,()):Option (Int×Unit×Int×Unit×Unit×Unit×T34)).bind λ(x1,x2,x3,x4,x5,x6,x7,x8,x9,ac,ae,af,ag,ah,ai,aj,ak,am,an,_)=>
let ap:LDTh:=[(af,(ag,(ah,(ai,(aj,(ak,(am,an)))))))];
bif(ek 80 ae.length ap.length)then let aq:LDTh:=(List.append ae ap);
let av:=w64 (x1+1);
some (.inl (av,x2,x3,x4,x5,x6,x7,x8,x9,ac,aq,()))else none else none)else
some (.inr (v0,false,v1,v2,v3,v4,v5,v6,v7,v8,v9,v10,()))
def oA(a0:LDIn)(a1:List (Int))(a2:List LI)(a3:List (Int))(a4:Int):Option (LI×Int×LDCe×LDLn×LDTh×Int×Unit):=
(i7 a0 a1 a2).bind λ(x0,_)=>
bif(x0 != 0)then(some ([],0,[],[],[],x0,()))else
(gF a3 a4 a1).bind λ(x1,_)=>
bif(!x1)then(some ([],0,[],[],[],1,()))else
(qp a0 a1 a2 a3 a4).bind λ(x2,x3,x4,_)=>
bif(ek 8 0 a3.length)then let x5:List (Int):=(List.append [] a3);
(dY tn NN (0,(),0,(),(),(),x5,a4,x2,x3,[],())).bind λ(x6,x7,x8,x9,ac,ae,af,ag,ah,ai,aj,ak,_)=>
some (ag,ah,ai,aj,ak,0,())else none
def FC:X.Cfg:=⟨E0,[oV,my,Af],[(49,Q6),(50,Q6)],[⟨18,0,qE,[(.normal,qS [zaa 4,zaa 9,zaa 11,Uaa 38] [(10,yac),(20,Xak),(24,yag)])]⟩,(lx 12 1 [zaa 4,zaa 9,Uaa 38] [(10,yac),(20,Xak)] 39)]⟩
def yd:Ctr:=⟨120,31,[.agg uab,.agg yab],[],[⟨uL [RI,CW,fA,fW,rh,I64],[.agg 5,.one],[]⟩],ap5 oA⟩
theorem EY:Lk 4 yd:=ls FC (aC sw (aC oP (aC Hl aN)))
def fL(a0:List (Int))(a1:Int)(a2:Int):Option (Bool×Unit):=
bif(decide (a1>=0))then(let x0:Int:=(dS a0.length);
bif(decide (a1<x0))then(bif(decide (a2>=0))then((eu a1).bind λx1=>
(dR a0 x1).bind λx2=>
some ((decide (a2<x2)),()))else
some (false,()))else
some (false,()))else
some (false,())
def Dp:X.Cfg:=⟨E0,[],[],[]⟩
def kT:Ctr:=⟨94,32,[shU RI,.agg Xac],[],[⟨zab,[.one],[]⟩],ap3 fL⟩
theorem nw:Lk 1 kT:=ls Dp aN
def fK(a0:List (Int))(a1:Int)(a2:Int)(a3:Int)(a4:Int):Option (Bool×Unit):=
bif(a1==0)then(bif(a3==0)then(some ((a4==0),()))else
some (false,()))else
bif(a1==2)then(bif(a3==0)then(some ((a4==0),()))else
some (false,()))else
bif(a1==1)then(bif(a2==0)then((fL a0 a3 a4).bind λ(x0,_)=>
some (x0,()))else
some (false,()))else
some (false,())
def Do:X.Cfg:=⟨E0,[kT],[],[]⟩
def kS:Ctr:=⟨44,33,[shU RI,.agg Xae],[],[⟨zab,[.one],[]⟩],ap5 fK⟩
theorem nv:Lk 2 kS:=ls Do (aC nw aN)
def j8:T2k->Option (T2k⊕((Bool×Unit)⊕(LI×LLCn×Int×Int×LDCn×T0V))):=λ(v0,v1,v2,v3,v4,v5,v6,v7)=>
bif(decide (v6<v5))then((eu v6).bind λx0=>
(dR v4 x0).bind λx1=>
(fK v0 x1.1 x1.2.1 x1.2.2.1 x1.2.2.2).bind λ(x2,_)=>
bif(!x2)then(some (.inr (.inl (false,()))))else
let x3:=w64 (v6+1);
some (.inl (v0,v1,v2,v3,v4,v5,x3,v7)))else
some (.inr (.inr (v0,v1,v2,v3,v4,v5,v6,false,v7)))
def j7:LI×T15->Option ((LI×T15)⊕((Bool×Unit)⊕(LI×LLCn×T0V))):=λ(v0,v1,v2,v3,v4)=>
bif(decide (v3<v2))then((eu v3).bind λx0=>
(dR v1 x0).bind λx1=>
let x2:=dS x1.length;
(match dY j8 NN (v0,v1,v2,v3,x1,x2,0,v4)with
|none=>none
|some (.inl (x3,_))=>
some (.inr (.inl (x3,())))
|some (.inr (x3,x4,x5,x6,x7,x8,x9,ac,ae))=>
let ag:=w64 (x6+1);
some (.inl (x3,x4,x5,ag,ae))))else
some (.inr (.inr (v0,v1,v2,v3,false,v4)))
def nc(a0:List (Int))(a1:List LDCn)(a2:LDOp):Option (Bool×Unit):=
let x0:=dS a1.length;
(match dY j7 NN (a0,a1,x0,0,a1,a2,())with
|none=>none
|some (.inl (x1,_))=>
some (x1,())
|some (.inr (x1,_))=>
some (true,()))
def Dg:X.Cfg:=⟨E0,[kS],[],[⟨9,0,qS [sP 0 RI,sP 10 (yaa eq),Uaa 11,Uaa 12,sP 16 eq,Uaa 17,Uaa 18] [(8,zad)],[(.ret,qS [Xaa 4] []),(.exit 2,qS [sP 0 RI,sP 10 (yaa eq),Uaa 11,Uaa 12,sP 16 eq,Uaa 17,Uaa 18,Xaa 19] [(8,zad)])]⟩,⟨3,1,qS [sP 0 RI,sP 10 (yaa eq),Uaa 11,Uaa 12] [(8,zad)],[(.ret,qS [Xaa 4] []),(.exit 0,qS [sP 0 RI,sP 10 (yaa eq),Uaa 11,Uaa 12,Xaa 13] [(8,zad)])]⟩]⟩
def vW:Ctr:=⟨122,34,[shU RI,.agg zad],[],[⟨zab,[.one],[]⟩],ap3 nc⟩
theorem CS:Lk 3 vW:=ls Dg (aC nv aN)
def jL:T2m->Option (T2m⊕(LLCn×T27)):=λ(v0,v1,v2,v3,v4,v5,v6,v7,v8,_)=>
bif(decide (v2<v1))then((eu v2).bind λx0=>
(dR v0 x0).bind λx1=>
bif(ek 24 0 x1.length)then let x2:LDCn:=(List.append [] x1);
bif(ek 24 v7.length (List.length [x2]))then let x3:List LDCn:=(List.append v7 [x2]);
let x4:=w64 (v2+1);
some (.inl (v0,v1,x4,v3,v4,v5,v6,x3,v8,()))else none else none)else
some (.inr (v0,v1,v2,false,v3,v4,v5,v6,v7,v8,()))
def hY(a0:List LDCn)(a1:LDOp):Option (T09):=
bif(ek 24 0 a1.length)then let x0:LDOp:=(List.append [] a1);
let x1:=dS a0.length;
(dY jL NN (a0,x1,0,a0,a1,(),(),[],x0,())).bind λ(x2,x3,x4,x5,x6,x7,x8,x9,ac)=>
some (ac)else none
def HI:X.Cfg:=⟨E0,[],[(21,(uaa KCn)),(22,(uaa KCn))],[(lx 4 0 [zaa 2,zaa 3,sP 11 (yaa eq),Uaa 12,Uaa 13] [(4,zad),(6,Zab),(8,uaf)] 14)]⟩
def j0:Ctr:=⟨154,35,[.agg zad],[],[⟨uaf,[.agg 2],[]⟩],ap2 hY⟩
theorem lB:Lk 1 j0:=ls HI aN
def jK:LDOu×Int×Int×LDOu×Unit->Option ((LDOu×Int×Int×LDOu×Unit)⊕(LDOu×Int×Int×Bool×LDOu×Unit)):=λ(v0,v1,v2,v3,_)=>
bif(decide (v2<v1))then((eu v2).bind λx0=>
(dR v0 x0).bind λx1=>
bif(ek 24 0 x1.2.2.length)then let x2:LDCn:=(List.append [] x1.2.2);
let x3:LDOu:=[(x1.1,(x1.2.1,x2))];
bif(ek 40 v3.length x3.length)then let x4:LDOu:=(List.append v3 x3);
let x5:=w64 (v2+1);
some (.inl (v0,v1,x5,x4,()))else none else none)else
some (.inr (v0,v1,v2,false,v3,()))
def lr(a0:LDOu):Option (LDOu×Unit):=
let x0:=dS a0.length;
(dY jK NN (a0,x0,0,[],())).bind λ(x1,x2,x3,x4,x5,_)=>
some (x5,())
def HC:X.Cfg:=⟨E0,[],[(18,Kf),(19,Kf)],[(lx 4 0 [Zaa 3 9,sP 6 kE,Uaa 7,Uaa 8] [(9,Uaj)] 9)]⟩
def uI:Ctr:=⟨155,36,uL [kE],[],[⟨Uaj,[.one],[]⟩],ap1 lr⟩
theorem zA:Lk 1 uI:=ls HC aN
def qh(a0:List (Int))(a1:List (Int))(a2:List LI)(a3:List LDCn)(a4:LDOp)(a5:LDOu):Option (T1r):=
bif(ek 2 0 a0.length)then let x0:List (Int):=(List.append [] a0);
bif(ek 2 0 a1.length)then let x1:List (Int):=(List.append [] a1);
(gf a2).bind λ(x2,_)=>
(hY a3 a4).bind λ(x3,x4,_)=>
(lr a5).bind λ(x5,_)=>
some (x0,x1,x2,x3,x4,x5,())else none else none
def Hz:X.Cfg:=⟨E0,[jI,j0,uI],[],[]⟩
def uF:Ctr:=⟨123,37,[.agg Xag],[],[⟨Xaj,[.agg 6],[]⟩],ap6 qh⟩
theorem zy:Lk 2 uF:=ls Hz (aC ml (aC lB (aC zA aN)))
def CN:T1h->Option (T1h⊕T1A):=λ(v0,v1,v2,v3,v4,v5,_)=>
bif(decide (v1<v0))then((eu v1).bind λx0=>
(dR v4 x0).bind λx1=>
(dR v4 x0).bind λx2=>
let x3:=List.modify v4 x0 λe=>(-1);
let x4:=w64 (v1+1);
some (.inl (v0,x4,v2,v3,x3,v5,())))else
some (.inr (v0,v1,false,v2,v3,v4,v5,()))
def ww:Option (T08):=
bif(ug 4 4 1)then let x0:List (Int):=(List.replicate 4 0);
bif(ug 4 4 1)then let x1:List LI:=(List.replicate 4 []);
let x2:=dS x0.length;
(dY CN NN (x2,0,(),(),x0,x1,())).bind λ(x3,x4,x5,x6,x7,x8)=>
some (x8)else none else none
def Jz:X.Cfg:=⟨E0,[],[(4,(uaa I64))],[(lx 4 0 [zaa 0,zaa 1,Uaa 8,Uaa 9] [(2,Zab),(4,Zae)] 10)]⟩
def Cu:Ctr:=⟨124,38,[],[],[⟨Zae,[.agg 2],[]⟩],λh=>ww⟩
theorem Jl:Lk 1 Cu:=ls Jz aN
def As:T43->Option (T43⊕(Int×Bool×T40)):=λ(v0,v1,v2,v3,v4,v5,v6,v7,v8,v9,v10,v11,v12,v13,v14,v15,v16,v17,v18,v19,v20,v21,v22,v23,v24,v25,v26,v27,v28,v29,v30,v31,v32,v33,v34,v35,v36,_)=>
bif(decide (v0<4))then(bif(ek 8 v36.length (List.length [(-1)]))then let x0:List (Int):=(List.append v36 [(-1)]);
let x1:=w64 (v0+1);
some (.inl (x1,v1,v2,v3,v4,v5,v6,v7,v8,v9,v10,v11,v12,v13,v14,v15,v16,v17,v18,v19,v20,v21,v22,v23,v24,v25,v26,v27,v28,v29,v30,v31,v32,v33,v34,v35,x0,()))else none)else
some (.inr (v0,false,v1,v2,v3,v4,v5,v6,v7,v8,v9,v10,v11,v12,v13,v14,v15,v16,v17,v18,v19,v20,v21,v22,v23,v24,v25,v26,v27,v28,v29,v30,v31,v32,v33,v34,v35,v36,()))
def rZ(a0:LDIn)(a1:List (Int))(a2:List LI)(a3:List (Int))(a4:Int)(a5:List (Int))(a6:List (Int))(a7:List LI)(a8:List LDCn)(a9:LDOp)(a10:LDOu):Option (LDIn×LI×LLI×LI×Int×LDCe×LDLn×LDTh×LI×LI×LLI×LLCn×LDOp×LDOu×LI×LLI×Unit×T07):=
(oA a0 a1 a2 a3 a4).bind λ(x0,x1,x2,x3,x4,x5,_)=>
bif(x5 != 0)then(some ([],[],[],[],0,[],[],[],[],[],[],[],[],[],[],[],(),[],x5,()))else
(j9 a5 a6 a7 a8 a9 a10).bind λ(x6,_)=>
bif(!x6)then(some ([],[],[],[],0,[],[],[],[],[],[],[],[],[],[],[],(),[],1,()))else
(nc a1 a8 a9).bind λ(x7,_)=>
bif(!x7)then(some ([],[],[],[],0,[],[],[],[],[],[],[],[],[],[],[],(),[],1,()))else
(qh a5 a6 a7 a8 a9 a10).bind λ(x8,x9,ac,ae,af,ag,_)=>
(ww).bind λ(ah,ai,_)=>
(dY As NN (0,(),(),(),(),0,(),(),(),(),(),(),(),(),(),(),(),(),(),a0,a1,a2,x0,x1,x2,x3,x4,x8,x9,ac,ae,af,ag,ah,ai,(),[],())).bind λ(aj,ak,am,an,ap,aq,av,ax,ay,az,aA,aB,aD,aE,aF,aG,aH,aI,aJ,aK,aL,aM,aO,aP,aQ,aR,aS,aT,aU,aV,aW,aY,aZ,ba,bc,bd,bf,bg,_)=>
some (aL,aM,aO,aP,aQ,aR,aS,aT,aU,aV,aW,aY,aZ,ba,bc,bd,bf,bg,0,())
def Fe:X.Cfg:=⟨E0,[yd,oT,vW,uF,Cu],[],[(lx 11 0 [zaa 6,zaa 10,Uaa 39] [(14,yah),(22,uL [ff,RI,(yaa RW),RI,CW,fA,fW,gL,RW,RW,(yaa RW),(yaa eq),iX,kE,RI,(yaa RI),N1,(uaa I64)])] 40)]⟩
def xR:Ctr:=⟨74,39,[.agg uab,.agg yab,.agg Xag],[],[⟨uL [ff,RI,(yaa RW),RI,CW,fA,fW,gL,RW,RW,(yaa RW),(yaa eq),iX,kE,RI,(yaa RI),N1,(uaa I64),I64],[.agg 18,.one],[]⟩],ap11 rZ⟩
theorem EM:Lk 5 xR:=ls Fe (aC EY (aC sr (aC CS (aC zy (aC Jl aN)))))
def oI(a0:List (Int))(a1:Int):Option (T0U):=
(dW 4 a0 a1).bind λ(x0,x1,x2,_)=>
let x3:List (Int):=[0,1,2,3,7,63];
(dW 6 x1 x2).bind λ(x4,x5,x6,_)=>
(eu x4).bind λx7=>
(dR x3 x7).bind λx8=>
(dR x3 x7).bind λx9=>
(dW 4 x5 x6).bind λ(ac,ae)=>
some (x0,x9,(ac==0),ae)
def FW:X.Cfg:=⟨E0,[gr],[],[]⟩
def yn:Ctr:=⟨78,40,[.ptr ⟨2,0,[]⟩ [0]],[(2,Uab)],[⟨uai,[.agg 3],[(2,Uab)]⟩],ap2 oI⟩
theorem Fa:Lk 4 yn:=ls FW (aC gQ aN)
def jl:T0F->Option (T0F⊕(LDTh×T0u)):=λ(v0,v1,v2,v3,_)=>
bif(decide (v2<v1))then(((eu v2).bind λx0=>
(dR v0 x0).bind λx1=>
bif(x1.1==1)then(bif(ek 8 v3.length (List.length [v2]))then let x2:List (Int):=(List.append v3 [v2]);
some (v0,v1,v2,x2,())else none)else
some (v0,v1,v2,v3,()):Option (T0F)).bind λ(x0,x1,x2,x3,_)=>
let x4:=w64 (x2+1);
some (.inl (x0,x1,x4,x3,())))else
some (.inr (v0,v1,v2,false,v3,()))
def oz(a0:LDTh):Option (LI×Unit):=
let x0:=dS a0.length;
(dY jl NN (a0,x0,0,[],())).bind λ(x1,x2,x3,x4,x5,_)=>
some (x5,())
def Fz:X.Cfg:=⟨E0,[],[],[⟨7,0,qE,[(.normal,qS [Zaa 3 9,sP 6 gL,Uaa 7,Uaa 8] [(9,zae)])]⟩,(lx 4 1 [Zaa 3 9,sP 6 gL,Uaa 7,Uaa 8] [(9,zae)] 9)]⟩
def ya:Ctr:=⟨126,41,uL [gL],[],[⟨zae,[.one],[]⟩],ap1 oz⟩
theorem EV:Lk 1 ya:=ls Fz aN
def nd(a0:LDIn)(a1:List (Int))(a2:List LI)(a3:List (Int))(a4:Int)(a5:LDCe)(a6:LDLn)(a7:LDTh)(a8:List (Int))(a9:List (Int))(a10:List LI)(a11:List LDCn)(a12:LDOp)(a13:LDOu)(a14:List (Int))(a15:List LI)(a16:LDEn)(a17:List (Int)):Option (T3o):=
bif(ek 8 0 a17.length)then let x0:List (Int):=(List.append [] a17);
bif(ek 184 0 a16.length)then let x1:LDEn:=(List.append [] a16);
some (a0,a1,a2,a3,a4,a5,a6,a7,a8,a9,a10,a11,a12,a13,a14,a15,x1,x0,())else none else none
def Dh:X.Cfg:=⟨E0,[],[(9,Po)],[]⟩
def vY:Ctr:=⟨127,42,[.agg yaf],[],[⟨yad,[.agg 18],[]⟩],ap18 nd⟩
theorem CU:Lk 1 vY:=ls Dh aN
def pd(a0:List (Int))(a1:Int)(a2:LDCe)(a3:LDLn)(a4:LDTh)(a5:Int):Option (Bool×Unit):=
bif(decide (a5<0))then(some (false,()))else
let x0:=dS a4.length;
bif(decide (a5>=x0))then(some (false,()))else
(eu a5).bind λx1=>
(dR a4 x1).bind λx2=>
bif(x2.1==1)then(bif(x2.2.2.2.2.1 != (-1))then(some ((x2.2.2.2.2.2.1==(-1)),()))else
some (false,()))else
some (false,())
def Jy:X.Cfg:=⟨E0,[],[],[]⟩
def wL:Ctr:=⟨128,43,[.agg zac,shU I64],[],[⟨zab,[.one],[]⟩],ap6 pd⟩
theorem BG:Lk 1 wL:=ls Jy aN
def jS:T2f->Option (T2f⊕(LDLn×Int×Int×Bool×T1l)):=λ(v0,v1,v2,v3,v4,v5,v6,v7,v8,_)=>
bif(decide (v2<v1))then((eu v2).bind λx0=>
(dR v0 x0).bind λx1=>
bif(ek 4 0 x1.2.2.length)then let x2:LDCe:=(List.append [] x1.2.2);
let x3:LDLn:=[(x1.1,(x1.2.1,x2))];
bif(ek 40 v8.length x3.length)then let x4:LDLn:=(List.append v8 x3);
let x5:=w64 (v2+1);
some (.inl (v0,v1,x5,v3,v4,v5,v6,v7,x4,()))else none else none)else
some (.inr (v0,v1,v2,false,v3,v4,v5,v6,v7,v8,()))
def qq(a0:LDCe)(a1:LDLn):Option (T04):=
bif(ek 4 0 a0.length)then let x0:LDCe:=(List.append [] a0);
let x1:=dS a1.length;
(dY jS NN (a1,x1,0,a0,a1,(),(),x0,[],())).bind λ(x2,x3,x4,x5,x6,x7,x8,x9,ac)=>
some (ac)else none
def H7:X.Cfg:=⟨E0,[],[(24,Ui),(25,Ui)],[(lx 4 0 [zaa 2,zaa 3,sP 11 fW,Uaa 12,Uaa 13] [(4,Xad),(6,Zab),(8,Uaf)] 14)]⟩
def Ag:Ctr:=⟨169,44,[.agg Xad],[],[⟨Uaf,[.agg 2],[]⟩],ap2 qq⟩
theorem Hm:Lk 1 Ag:=ls H7 aN
def jP:T3q->Option (T3q⊕(LDTh×Int×Int×Bool×T3c)):=λ(v0,v1,v2,v3,v4,v5,v6,v7,v8,v9,v10,v11,v12,v13,v14,v15,v16,v17,_)=>
bif(decide (v2<v1))then((eu v2).bind λx0=>
(dR v0 x0).bind λx1=>
bif(ek 4 0 x1.2.1.length)then let x2:LDCe:=(List.append [] x1.2.1);
let x3:LDTh:=[(x1.1,(x2,(x1.2.2.1,(x1.2.2.2.1,(x1.2.2.2.2.1,(x1.2.2.2.2.2.1,(x1.2.2.2.2.2.2.1,x1.2.2.2.2.2.2.2)))))))];
bif(ek 80 v17.length x3.length)then let x4:LDTh:=(List.append v17 x3);
let x5:=w64 (v2+1);
some (.inl (v0,v1,x5,v3,v4,v5,v6,v7,v8,v9,v10,v11,v12,v13,v14,v15,v16,x4,()))else none else none)else
some (.inr (v0,v1,v2,false,v3,v4,v5,v6,v7,v8,v9,v10,v11,v12,v13,v14,v15,v16,v17,()))
def jQ(a0:List (Int))(a1:Int)(a2:LDCe)(a3:LDLn)(a4:LDTh):Option (T14):=
bif(ek 8 0 a0.length)then let x0:List (Int):=(List.append [] a0);
(qq a2 a3).bind λ(x1,x2,_)=>
let x3:=dS a4.length;
(dY jP NN (a4,x3,0,a0,a1,a2,a3,a4,(),0,(),(),(),x0,a1,x1,x2,[],())).bind λ(x4,x5,x6,x7,x8,x9,ac,ae,af,ag,ah,ai,aj,ak,am)=>
some (am)else none
def HY:X.Cfg:=⟨E0,[Ag],[(32,Q6),(33,Q6)],[(lx 4 0 [zaa 2,zaa 3,sP 19 gL,Uaa 20,Uaa 21] [(4,zac),(6,yac),(8,Zac)] 22)]⟩
def nP:Ctr:=⟨157,45,[.agg zac],[],[⟨Zac,[.agg 5],[]⟩],ap5 jQ⟩
theorem qC:Lk 2 nP:=ls HY (aC Hm aN)
def lT(a0:List (Int))(a1:Int)(a2:LDCe)(a3:LDLn)(a4:LDTh)(a5:Int):Option (T1p):=
(jQ a0 a1 a2 a3 a4).bind λ(x0,x1,x2,x3,x4,_)=>
(pd a0 a1 a2 a3 a4 a5).bind λ(x5,_)=>
bif(!x5)then(some (x0,x1,x2,x3,x4,false,()))else
(eu a5).bind λx6=>
(dR x4 x6).bind λx7=>
(dR x4 x6).bind λx8=>
(dR x4 x6).bind λx9=>
(dR x4 x6).bind λac=>
let ae:=(List.modify x4 x6 λe=>(e.1,(e.2.1,(e.2.2.1,(e.2.2.2.1,(e.2.2.2.2.1,(x8.2.2.1,e.2.2.2.2.2.2)))))));
(dR ae x6).bind λaf=>
let ag:=(List.modify ae x6 λe=>(e.1,(e.2.1,(x9.2.2.2.2.1,e.2.2.2))));
some (x0,x1,x2,x3,ag,true,())
def BY:X.Cfg:=⟨E0,[nP,wL],[],[]⟩
def uJ:Ctr:=⟨129,46,[.agg zac,shU I64],[],[⟨Zak,[.agg 5,.one],[]⟩],ap6 lT⟩
theorem BF:Lk 3 uJ:=ls BY (aC qC (aC BG aN))
def ma(a0:Int)(a1:Int):Option (Bool×Unit):=
some ((decide (a0<=2)),())
def FO:X.Cfg:=⟨E0,[],[],[]⟩
def sV:Ctr:=⟨114,47,[.agg uac],[],[⟨zab,[.one],[]⟩],ap2 ma⟩
theorem xz:Lk 1 sV:=ls FO aN
def nj:T0j->Option (T0j⊕((Bool×Unit)⊕T0B)):=λ(v0,v1,v2,_)=>
bif(decide (v2<v1))then((eu v2).bind λx0=>
(dR v0 x0).bind λx1=>
(ma x1.1 x1.2).bind λ(x2,_)=>
bif(!x2)then(some (.inr (.inl (false,()))))else
let x3:=w64 (v2+1);
some (.inl (v0,v1,x3,())))else
some (.inr (.inr (v0,v1,v2,false,())))
def pi(a0:LDCe):Option (Bool×Unit):=
let x0:=dS a0.length;
(match dY nj NN (a0,x0,0,())with
|none=>none
|some (.inl (x1,_))=>
some (x1,())
|some (.inr (x1,_))=>
some (true,()))
def JF:X.Cfg:=⟨E0,[sV],[],[⟨3,0,qS [sP 5 fA,Uaa 6,Uaa 7] [],[(.ret,qS [Xaa 2] []),(.exit 0,qS [sP 5 fA,Uaa 6,Uaa 7,Xaa 8] [])]⟩]⟩
def Cz:Ctr:=⟨113,48,uL [fA],[],[⟨zab,[.one],[]⟩],ap1 pi⟩
theorem Jq:Lk 2 Cz:=ls JF (aC xz aN)
def li:LDLn×T0w->Option ((LDLn×T0w)⊕((Bool×Unit)⊕(LDLn×Int×Int×Bool×T04))):=λ(v0,v1,v2,v3)=>
bif(decide (v2<v1))then((eu v2).bind λx0=>
(dR v0 x0).bind λx1=>
bif(x1.1==(-1))then(bif x1.2.1 then(some (.inr (.inl (false,()))))else
let x2:=dS x1.2.2.length;
bif(decide (x2>0))then(some (.inr (.inl (false,()))))else
let x3:=w64 (v2+1);
some (.inl (v0,v1,x3,v3)))else
(bif(decide (x1.1<0))then(some (v0,v1,v2,true,v3))else
bif(decide (x1.1>=128))then(some (v0,v1,v2,true,v3))else
let x2:=Int.tmod x1.1 4;
bif(x2 != v2)then(some (v0,v1,v2,true,v3))else
let x3:=dS x1.2.2.length;
bif(x3 != 4)then(some (v0,v1,v2,true,v3))else
(pi x1.2.2).bind λ(x4,_)=>
some (v0,v1,v2,(!x4),v3):Option (LDLn×Int×Int×Bool×T04)).bind λ(x2,x3,x4,x5,x6)=>
bif x5 then(some (.inr (.inl (false,()))))else
let x8:=w64 (x4+1);
some (.inl (x2,x3,x8,x6)))else
some (.inr (.inr (v0,v1,v2,false,v3)))
def oC(a0:LDCe)(a1:LDLn):Option (Bool×Unit):=
(let x0:=dS a0.length;
bif(x0 != 512)then(some (true,a0,a1,()))else
let x1:=dS a1.length;
bif(x1 != 4)then(some (true,a0,a1,()))else
(pi a0).bind λ(x2,_)=>
some ((!x2),a0,a1,()):Option (Bool×T04)).bind λ(x0,x1,x2,_)=>
bif x0 then(some (false,()))else
let x3:=dS x2.length;
(match dY li NN (x2,x3,0,x1,x2,())with
|none=>none
|some (.inl (x4,_))=>
some (x4,())
|some (.inr (x4,_))=>
some (true,()))
def FH:X.Cfg:=⟨E0,[Cz],[],[⟨2,0,qE,[(.normal,qS [zaa 1,Xaa 20] [(4,Xad)])]⟩,⟨16,1,qE,[(.normal,qS [sP 22 fW,Uaa 23,Uaa 24,Xaa 66] [(4,Xad)])]⟩,⟨6,2,qS [sP 22 fW,Uaa 23,Uaa 24] [(4,Xad)],[(.ret,qS [Xaa 2] []),(.exit 0,qS [sP 22 fW,Uaa 23,Uaa 24,Xaa 25] [(4,Xad)])]⟩]⟩
def yf:Ctr:=⟨71,49,[.agg Xad],[],[⟨zab,[.one],[]⟩],ap2 oC⟩
theorem E1:Lk 3 yf:=ls FH (aC Jq aN)
def la:T2H->Option (T2H⊕((Bool×Unit)⊕(LDCe×Int×Int×Bool×T1Y))):=λ(v0,v1,v2,v3)=>
bif(decide (v2<v1))then((eu v2).bind λx0=>
(dR v0 x0).bind λx1=>
(ma x1.1 x1.2).bind λ(x2,_)=>
bif(!x2)then(some (.inr (.inl (false,()))))else
let x3:=w64 (v2+1);
some (.inl (v0,v1,x3,v3)))else
some (.inr (.inr (v0,v1,v2,false,v3)))
def oy(a0:Int)(a1:LDCe)(a2:Int)(a3:Int)(a4:Int)(a5:Int)(a6:Int)(a7:Int):Option (Bool×Unit):=
let x0:=dS a1.length;
(match dY la NN (a1,x0,0,a0,a1,a2,a3,a4,a5,a6,a7,())with
|none=>none
|some (.inl (x1,_))=>
some (x1,())
|some (.inr (x1,x2,x3,x4,x5,x6,x7,x8,x9,ac,ae,af,_))=>
bif(decide (x5>=0))then(bif(decide (x5<=4))then(let ag:Int:=(dS x6.length);
bif(ag==8)then(bif(decide (x7>=0))then(bif(decide (x7<=255))then(bif(decide (x8>=0))then(bif(decide (x8<=1099511627776))then(bif(decide (x9>=(-1)))then(bif(decide (x9<=255))then(bif(decide (ac>=(-1)))then(bif(decide (ac<=255))then(bif(decide (ae>=0))then(some ((decide (ae<=6)),()))else
some (false,()))else
some (false,()))else
some (false,()))else
some (false,()))else
some (false,()))else
some (false,()))else
some (false,()))else
some (false,()))else
some (false,()))else
some (false,()))else
some (false,()))else
some (false,()))
def Fy:X.Cfg:=⟨E0,[sV],[],[⟨3,0,qS [zaa 1,sP 6 fA,Uaa 7,Uaa 8] [(4,Zad)],[(.ret,qS [Xaa 2] []),(.exit 0,qS [zaa 1,sP 6 fA,Uaa 7,Uaa 8,Xaa 9] [(4,Zad)])]⟩]⟩
def xZ:Ctr:=⟨72,50,[.agg Zad],[],[⟨zab,[.one],[]⟩],ap8 oy⟩
theorem EU:Lk 2 xZ:=ls Fy (aC xz aN)
def nZ:T20->Option (T20⊕((Bool×Unit)⊕(LDTh×Int×Int×T1a))):=λ(v0,v1,v2,v3)=>
bif(decide (v2<v1))then((eu v2).bind λx0=>
(dR v0 x0).bind λx1=>
(oy x1.1 x1.2.1 x1.2.2.1 x1.2.2.2.1 x1.2.2.2.2.1 x1.2.2.2.2.2.1 x1.2.2.2.2.2.2.1 x1.2.2.2.2.2.2.2).bind λ(x2,_)=>
bif(!x2)then(some (.inr (.inl (false,()))))else
let x3:=w64 (v2+1);
some (.inl (v0,v1,x3,v3)))else
some (.inr (.inr (v0,v1,v2,false,v3)))
def ia(a0:LDIn)(a1:List (Int))(a2:List LI)(a3:List (Int))(a4:Int)(a5:LDCe)(a6:LDLn)(a7:LDTh):Option (Bool×Unit):=
((i7 a0 a1 a2).bind λ(x0,_)=>
bif(x0 != 0)then(some (true,a3,a4,a5,a6,a7,()))else
(gF a3 a4 a1).bind λ(x1,_)=>
bif(!x1)then(some (true,a3,a4,a5,a6,a7,()))else
(oC a5 a6).bind λ(x2,_)=>
bif(!x2)then(some (true,a3,a4,a5,a6,a7,()))else
let x3:=dS a7.length;
some ((x3 != 4),a3,a4,a5,a6,a7,()):Option (T1a)).bind λ(x0,x1,x2,x3,x4,x5,_)=>
bif x0 then(some (false,()))else
let x6:=dS x5.length;
(match dY nZ NN (x5,x6,0,x1,x2,x3,x4,x5,())with
|none=>none
|some (.inl (x7,_))=>
some (x7,())
|some (.inr (x7,_))=>
some (true,()))
def Fv:X.Cfg:=⟨E0,[oV,my,yf,xZ],[],[⟨2,0,qE,[(.normal,qS [zaa 3,Xaa 29] [(8,zac)])]⟩,⟨6,1,qS [sP 31 gL,Uaa 32,Uaa 33] [(8,zac)],[(.ret,qS [Xaa 4] []),(.exit 0,qS [sP 31 gL,Uaa 32,Uaa 33,Xaa 34] [(8,zac)])]⟩]⟩
def mw:Ctr:=⟨25,51,[.agg uab,.agg zac],[],[⟨zab,[.one],[]⟩],ap8 ia⟩
theorem oO:Lk 4 mw:=ls Fv (aC sw (aC oP (aC E1 (aC EU aN))))
def fP(a0:Nat)(a1:Int)(a2:LDTh):Option (Int×LDTh×Unit):=
(dR a2 a0).bind λx0=>
let x1:=List.modify a2 a0 λe=>(4,e.2);
(dR x1 a0).bind λx2=>
let x3:=(List.modify x1 a0 λe=>(e.1,(e.2.1,(e.2.2.1,(e.2.2.2.1,(e.2.2.2.2.1,(e.2.2.2.2.2.1,(a1,e.2.2.2.2.2.2.2))))))));
(dR x3 a0).bind λx4=>
let x5:=(List.modify x3 a0 λe=>(e.1,(e.2.1,(e.2.2.1,(e.2.2.2.1,(e.2.2.2.2.1,(e.2.2.2.2.2.1,(e.2.2.2.2.2.2.1,0))))))));
some (2,x5,())
def HV:X.Cfg:=⟨E0,[],[],[]⟩
def Ad:Ctr:=⟨183,52,[.ptr ⟨2,0,[((),(8,0))]⟩ [0,0],shU I64],[(2,uL [rh])],[⟨Uac,[.one],[(2,uL [rh])]⟩],ap3 fP⟩
theorem Hj:Lk 1 Ad:=ls HV aN
def eZ:T2i->Option (T2i⊕(T0c⊕T2y)):=λ(v0,v1,v2,v3,v4,v5)=>
bif(decide (v4<v3))then((match((eu v4).bind λx0=>
(dR v2 x0).bind λx1=>
bif(decide (v1>=x1))then((eu v4).bind λx2=>
(dR v0 x2).bind λx3=>
let x4:=w64 (x1+x3);
bif(decide (v1<x4))then(let x5:Int:=(w64 (v1-x1));
some (.inl (true,v4,x5,())))else
some (.inr (v0,v1,v4,x1,v2,v3,v4,false,v5)))else
some (.inr (v0,v1,v4,x1,v2,v3,v4,false,v5)):Option (T0c⊕T2Y))with
|none=>none
|some (.inl (x0,x1,x2,_))=>
some (.inr (.inl (x0,x1,x2,())))
|some (.inr (x0,x1,x2,x3,x4,x5,x6,x7,x8))=>
let af:=w64 (x6+1);
some (.inl (x0,x1,x4,x5,af,x8))))else
some (.inr (.inr (v0,v1,v2,v3,v4,false,v5)))
def fC(a0:List (Int))(a1:Int)(a2:List (Int))(a3:Int):Option (T0d):=
let x0:=dS a0.length;
(match dY eZ NN (a2,a3,a0,x0,0,a0,a1,0,0,())with
|none=>none
|some (.inl (x1,x2,x3,_))=>
some (x2,x3,x1,())
|some (.inr (x1,x2,x3,_))=>
some (0,0,false,()))
def B4:X.Cfg:=⟨E0,[],[],[⟨6,0,qE,[(.ret,qS [zaa 6,Xaa 7] [(14,Xac)]),(.normal,qS [sP 1 RI,Uaa 2,zaa 6,Uaa 8,Uaa 9,sP 11 RI,Uaa 12,Uaa 13,Xaa 30] [(8,yab),(14,Xac)])]⟩,⟨3,1,qS [sP 1 RI,Uaa 2,zaa 6,sP 11 RI,Uaa 12,Uaa 13] [(8,yab),(14,Xac)],[(.ret,qS [zaa 6,Xaa 7] [(14,Xac)]),(.exit 0,qS [sP 1 RI,Uaa 2,zaa 6,sP 11 RI,Uaa 12,Uaa 13,Xaa 14] [(8,yab),(14,Xac)])]⟩]⟩
def j3:Ctr:=⟨83,53,[.agg yab,shU RI,shU I64],[],[⟨uai,[.agg 2,.one],[]⟩],ap4 fC⟩
theorem mn:Lk 1 j3:=ls B4 aN
def fZ(a0:List (Int))(a1:Int)(a2:List (Int))(a3:Int)(a4:Int)(a5:Int)(a6:Bool):Option (T0e):=
bif(a3 != 1)then(some (0,0,3,()))else
let x0:=wk .i64 a4;
(fC a0 a1 a2 x0).bind λ(x1,x2,x3,_)=>
bif(!x3)then(some (0,0,4,()))else
(bif a6 then(let x4:Int:=(wk .i64 a5);
let x5:=w64 (x2-x4);
some (a2,a0,a1,0,0,x1,x5,()))else
let x4:=wk .i64 a5;
let x5:=w64 (x2+x4);
some (a2,a0,a1,0,0,x1,x5,()):Option (LI×LI×T0W)).bind λ(x4,x5,x6,x7,x8,x9,ac,_)=>
(fL x4 x9 ac).bind λ(ae,_)=>
bif(!ae)then(some (0,0,4,()))else
(eu x9).bind λaf=>
(dR x5 af).bind λag=>
let ah:=w64 (ag+ac);
let ai:=wk .u16 ah;
some (1,ai,0,())
def HX:X.Cfg:=⟨E0,[j3,kT],[],[⟨8,0,qE,[(.normal,qS [sP 1 RI,zaa 5,zaa 10,zaa 12] [(12,yab),(22,uac),(26,Xac)])]⟩]⟩
def uR:Ctr:=⟨184,54,[.agg yab,shU RI,.agg uac,shU CW,shU .bool],[],[⟨yai,[.agg 2,.one],[]⟩],ap7 fZ⟩
theorem zF:Lk 2 uR:=ls HX (aC mn (aC nw aN))
def l7(a0:Int)(a1:LDCe)(a2:LDLn):Option (Nat×T04):=
let x0:=w64 (Int.tdiv a0 4);
let x1:=Int.tmod x0 4;
(eu x1).bind λx2=>
(dR a2 x2).bind λx3=>
(dR a2 x2).bind λx4=>
bif(x4.1==x0)then(some (x2,a1,a2,()))else
((dR a2 x2).bind λx5=>
bif x5.2.1 then((dR a2 x2).bind λx6=>
let x7:=w64 (x6.1*4);
(eu x7).bind λx8=>
bif(iz x8 a1.length a1.length)then(dR a2 x2).bind λx9=>
(dR a2 x2).bind λac=>
bif(iz x8 (Nat.add x8 (Nat.min ac.2.2.length (Nat.sub a1.length x8))) a1.length)then bif(Nat.blt 0 (Nat.min ac.2.2.length (Nat.sub a1.length x8)))then(let ae:LDCe:=(ub a1 x8 (Nat.min ac.2.2.length (Nat.sub a1.length x8)) ac.2.2);
let af:=(dS (Nat.min ac.2.2.length (Nat.sub a1.length x8)));
some (x0,x2,ae,a2,()))else
let ae:=(dS (Nat.min ac.2.2.length (Nat.sub a1.length x8)));
some (x0,x2,a1,a2,())else none else none)else
some (x0,x2,a1,a2,()):Option (Int×Nat×T04)).bind λ(x5,x6,x7,x8,_)=>
(dR x8 x6).bind λx9=>
let ac:=List.modify x8 x6 λe=>(x5,e.2);
(dR ac x6).bind λae=>
let af:=(List.modify ac x6 λe=>(e.1,(false,e.2.2)));
let ag:=w64 (x5*4);
let ah:=w64 (x5+1);
let ai:=w64 (ah*4);
(eu ag).bind λaj=>
(eu ai).bind λak=>
bif(iz aj ak x7.length)then bif(ek 4 0 (List.length (lF x7 aj (Nat.sub ak aj))))then let am:LDCe:=(List.append [] (lF x7 aj (Nat.sub ak aj)));
(dR af x6).bind λan=>
let ap:=(List.modify af x6 λe=>(e.1,(e.2.1,am)));
some (x6,x7,ap,())else none else none
def FG:X.Cfg:=⟨E0,[],[],[⟨6,0,qE,[(.normal,(qS [zaa 0,Uaa 5,(6,.ptr ⟨2,1,[((),(3,0))]⟩ [0,0])] [(2,Uaf)]))]⟩]⟩
def sS:Ctr:=⟨200,55,[.ptr ⟨2,0,[]⟩ [0],shU I64],[(2,Uaf)],[⟨[.ptr ⟨2,1,[((),(3,0))]⟩ [0,0]],[.ptr],[(2,Uaf)]⟩],ap3 l7⟩
theorem xx:Lk 1 sS:=ls FG aN
def qo(a0:Int)(a1:LDCe)(a2:LDLn):Option (T0w):=
(l7 a0 a1 a2).bind λ(x0,x1,x2,_)=>
(dR x2 x0).bind λx3=>
let x4:=Int.tmod a0 4;
(eu x4).bind λx5=>
(dR x2 x0).bind λx6=>
(dR x6.2.2 x5).bind λx7=>
(dR x2 x0).bind λx8=>
(dR x8.2.2 x5).bind λx9=>
some (x9.1,x9.2,x1,x2,())
def H5:X.Cfg:=⟨E0,[sS],[],[]⟩
def Ae:Ctr:=⟨185,56,[.ptr ⟨2,0,[]⟩ [0],shU I64],[(2,Uaf)],[⟨uac,[.agg 2],[(2,Uaf)]⟩],ap3 qo⟩
theorem Hk:Lk 2 Ae:=ls H5 (aC xx aN)
def lZ(a0:Int)(a1:Int)(a2:Int)(a3:LDCe)(a4:LDLn):Option (T04):=
(l7 a0 a3 a4).bind λ(x0,x1,x2,_)=>
(dR x2 x0).bind λx3=>
let x4:=Int.tmod a0 4;
(eu x4).bind λx5=>
(dR x2 x0).bind λx6=>
(dR x6.2.2 x5).bind λx7=>
(dR x2 x0).bind λx8=>
(dR x8.2.2 x5).bind λx9=>
let ac:=(List.modify x2 x0 λe=>(e.1,(e.2.1,(List.modify e.2.2 x5 λe=>(a1,a2)))));
(dR ac x0).bind λae=>
let af:=(List.modify ac x0 λe=>(e.1,(true,e.2.2)));
some (x1,af,())
def FF:X.Cfg:=⟨E0,[sS],[],[]⟩
def sR:Ctr:=⟨186,57,[.ptr ⟨2,0,[]⟩ [0],shU I64,.agg uac],[(2,Uaf)],[⟨[],[],[(2,Uaf)]⟩],ap5 lZ⟩
theorem xw:Lk 2 sR:=ls FF (aC xx aN)
def lw(a0:Bool):Option (T02):=
bif a0 then(some (0,1,()))else
some (0,0,())
def HW:X.Cfg:=⟨E0,[],[],[]⟩
def uQ:Ctr:=⟨201,58,zab,[],[⟨uac,[.agg 2],[]⟩],ap1 lw⟩
theorem zE:Lk 1 uQ:=ls HW aN
def lX(a0:Int)(a1:Int)(a2:Int):Option (T0e):=
bif(a0==3)then(let x0:Int:=(wk .u16 (a1+a2));
some (0,x0,0,()))else
bif(a0==4)then(let x0:Int:=(wk .u16 (a1-a2));
some (0,x0,0,()))else
bif(a0==5)then(let x0:Int:=(wk .u16 (a1*a2));
some (0,x0,0,()))else
bif(a0==6)then(bif(a2==0)then(some (0,0,5,()))else
bif(a0==6)then(bif(a2 != 0)then let x0:Int:=(wk .u16 (Int.tdiv a1 a2));
some (0,x0,0,())else none)else
bif(a2 != 0)then let x0:Int:=(Int.tmod a1 a2);
some (0,x0,0,())else none)else
bif(a0==7)then(bif(a2==0)then(some (0,0,5,()))else
bif(a0==6)then(bif(a2 != 0)then let x0:Int:=(wk .u16 (Int.tdiv a1 a2));
some (0,x0,0,())else none)else
bif(a2 != 0)then let x0:Int:=(Int.tmod a1 a2);
some (0,x0,0,())else none)else
bif(a0==8)then(let x0:Int:=(arR .and .u16 a1 a2);
some (0,x0,0,()))else
bif(a0==9)then(let x0:Int:=(arR .or .u16 a1 a2);
some (0,x0,0,()))else
bif(a0==10)then(let x0:Int:=(arR .xor .u16 a1 a2);
some (0,x0,0,()))else
bif(a0==11)then(let x0:Int:=(Int.tmod a2 16);
(eu x0).bind λx1=>
let x2:Int:=(shR .shl .u16 a1 x1);
some (0,x2,0,()))else
bif(a0==12)then(let x0:Int:=(Int.tmod a2 16);
(eu x0).bind λx1=>
let x2:Int:=(shR .shr .u16 a1 x1);
some (0,x2,0,()))else
(lw (decide (a1<a2))).bind λ(x0,x1,_)=>
some (x0,x1,0,())
def B2:X.Cfg:=⟨E0,[uQ],[],[]⟩
def uP:Ctr:=⟨202,59,uL [I64,CW,CW],[],[⟨yai,[.agg 2,.one],[]⟩],ap3 lX⟩
theorem BJ:Lk 2 uP:=ls B2 (aC zE aN)
def lY(a0:List (Int))(a1:Int)(a2:List (Int))(a3:Int)(a4:Int)(a5:Int)(a6:Int):Option (Int×Int×T0d):=
let x0:=wk .i64 a4;
(fC a0 a1 a2 x0).bind λ(x1,x2,x3,_)=>
let x4:=wk .i64 a6;
(fC a0 a1 a2 x4).bind λ(x5,x6,x7,_)=>
bif x3 then(bif x7 then(some (x1,x2,x5,x6,(x1==x5),()))else
some (x1,x2,x5,x6,false,()))else
some (x1,x2,x5,x6,false,())
def FB:X.Cfg:=⟨E0,[j3],[],[]⟩
def yc:Ctr:=⟨203,60,[.agg yab,shU RI,.agg uac,.agg uac],[],[⟨uL [I64,I64,I64,I64,.bool],[.agg 2,.agg 2,.one],[]⟩],ap7 lY⟩
theorem EX:Lk 2 yc:=ls FB (aC mn aN)
def vg(a0:List (Int))(a1:Int)(a2:List (Int))(a3:Int)(a4:Int)(a5:Int)(a6:Int)(a7:Int):Option (T0e):=
bif(decide (a3<3))then(some (0,0,1,()))else
bif(decide (a3>14))then(some (0,0,1,()))else
(match(bif(a3==14)then((lw ((a4==a6)&&((a5==a7)&&true))).bind λ(x0,x1,_)=>
some (.inl (0,x0,x1,())))else
bif(a4==0)then(bif(a6==0)then((lX a3 a5 a7).bind λ(x0,x1,x2,_)=>
some (.inl (x2,x0,x1,())))else
(bif(a3==3)then(bif(a4==1)then(some (a2,a3,(a6==0),a0,a1,a4,a5,a6,a7,0,0,()))else
some (a2,a3,false,a0,a1,a4,a5,a6,a7,0,0,()))else
some (a2,a3,false,a0,a1,a4,a5,a6,a7,0,0,()):Option (T2J)).bind λ(x0,x1,x2,x3,x4,x5,x6,x7,x8,x9,ac,_)=>
bif x2 then((fZ x3 x4 x0 x5 x6 x8 false).bind λ(ae,af,ag,_)=>
some (.inl (ag,ae,af,())))else
(bif(x1==3)then(bif(x5==0)then(some (x0,x1,(x7==1),x3,x4,x5,x6,x7,x8,x9,ac,()))else
some (x0,x1,false,x3,x4,x5,x6,x7,x8,x9,ac,()))else
some (x0,x1,false,x3,x4,x5,x6,x7,x8,x9,ac,()):Option (T2J)).bind λ(ae,af,ag,ah,ai,aj,ak,am,an,ap,aq,_)=>
bif ag then((fZ ah ai ae am an ak false).bind λ(av,ax,ay,_)=>
some (.inl (ay,av,ax,())))else
(bif(af==4)then(bif(aj==1)then(some (ae,af,(am==0),ah,ai,aj,ak,am,an,ap,aq,()))else
some (ae,af,false,ah,ai,aj,ak,am,an,ap,aq,()))else
some (ae,af,false,ah,ai,aj,ak,am,an,ap,aq,()):Option (T2J)).bind λ(av,ax,ay,az,aA,aB,aD,aE,aF,aG,aH,_)=>
bif ay then((fZ az aA av aB aD aF true).bind λ(aI,aJ,aK,_)=>
some (.inl (aK,aI,aJ,())))else
(bif(ax==4)then(bif(aB==1)then(some (av,ax,(aE==1),az,aA,aB,aD,aE,aF,aG,aH,()))else
some (av,ax,false,az,aA,aB,aD,aE,aF,aG,aH,()))else
bif(ax==13)then(bif(aB==1)then(some (av,ax,(aE==1),az,aA,aB,aD,aE,aF,aG,aH,()))else
some (av,ax,false,az,aA,aB,aD,aE,aF,aG,aH,()))else
some (av,ax,false,az,aA,aB,aD,aE,aF,aG,aH,()):Option (T2J)).bind λ(aI,aJ,aK,aL,aM,aO,aP,aQ,aR,aS,aT,_)=>
bif aK then((lY aL aM aI aO aP aQ aR).bind λ(aU,aV,aW,aY,aZ,_)=>
bif(!aZ)then(some (.inl (4,0,0,())))else
bif(aJ==13)then((lw (decide (aV<aY))).bind λ(ba,bc,_)=>
some (.inl (0,ba,bc,())))else
let ba:=w64 (aV-aY);
let bc:=wk .u16 ba;
some (.inl (0,0,bc,())))else
some (.inr (aI,aJ,false,aL,aM,aO,aP,aQ,aR,aS,aT,())))else
(bif(a3==3)then(bif(a4==1)then(some (a2,a3,(a6==0),a0,a1,a4,a5,a6,a7,0,0,()))else
some (a2,a3,false,a0,a1,a4,a5,a6,a7,0,0,()))else
some (a2,a3,false,a0,a1,a4,a5,a6,a7,0,0,()):Option (T2J)).bind λ(x0,x1,x2,x3,x4,x5,x6,x7,x8,x9,ac,_)=>
bif x2 then((fZ x3 x4 x0 x5 x6 x8 false).bind λ(ae,af,ag,_)=>
some (.inl (ag,ae,af,())))else
(bif(x1==3)then(bif(x5==0)then(some (x0,x1,(x7==1),x3,x4,x5,x6,x7,x8,x9,ac,()))else
some (x0,x1,false,x3,x4,x5,x6,x7,x8,x9,ac,()))else
some (x0,x1,false,x3,x4,x5,x6,x7,x8,x9,ac,()):Option (T2J)).bind λ(ae,af,ag,ah,ai,aj,ak,am,an,ap,aq,_)=>
bif ag then((fZ ah ai ae am an ak false).bind λ(av,ax,ay,_)=>
some (.inl (ay,av,ax,())))else
(bif(af==4)then(bif(aj==1)then(some (ae,af,(am==0),ah,ai,aj,ak,am,an,ap,aq,()))else
some (ae,af,false,ah,ai,aj,ak,am,an,ap,aq,()))else
some (ae,af,false,ah,ai,aj,ak,am,an,ap,aq,()):Option (T2J)).bind λ(av,ax,ay,az,aA,aB,aD,aE,aF,aG,aH,_)=>
bif ay then((fZ az aA av aB aD aF true).bind λ(aI,aJ,aK,_)=>
some (.inl (aK,aI,aJ,())))else
(bif(ax==4)then(bif(aB==1)then(some (av,ax,(aE==1),az,aA,aB,aD,aE,aF,aG,aH,()))else
some (av,ax,false,az,aA,aB,aD,aE,aF,aG,aH,()))else
bif(ax==13)then(bif(aB==1)then(some (av,ax,(aE==1),az,aA,aB,aD,aE,aF,aG,aH,()))else
some (av,ax,false,az,aA,aB,aD,aE,aF,aG,aH,()))else
some (av,ax,false,az,aA,aB,aD,aE,aF,aG,aH,()):Option (T2J)).bind λ(aI,aJ,aK,aL,aM,aO,aP,aQ,aR,aS,aT,_)=>
bif aK then((lY aL aM aI aO aP aQ aR).bind λ(aU,aV,aW,aY,aZ,_)=>
bif(!aZ)then(some (.inl (4,0,0,())))else
bif(aJ==13)then((lw (decide (aV<aY))).bind λ(ba,bc,_)=>
some (.inl (0,ba,bc,())))else
let ba:=w64 (aV-aY);
let bc:=wk .u16 ba;
some (.inl (0,0,bc,())))else
some (.inr (aI,aJ,false,aL,aM,aO,aP,aQ,aR,aS,aT,())):Option (T0e⊕T2J))with
|none=>none
|some (.inl (x0,x1,x2,_))=>
some (x1,x2,x0,())
|some (.inr (x0,x1,x2,x3,x4,x5,x6,x7,x8,x9,ac,_))=>
some (0,0,3,()))
def Ms:X.Cfg:=⟨E0,[uQ,uP,uR,yc],[],[⟨9,0,qE,[(.normal,qS [sP 1 RI,Uaa 2,zaa 5,zaa 8,zaa 9,zaa 10,Xaa 46] [(12,yab),(18,uac),(20,uac),(22,uac)])]⟩,⟨11,1,qE,[(.normal,qS [sP 1 RI,Uaa 2,zaa 5,zaa 8,zaa 9,zaa 10,Xaa 67] [(12,yab),(18,uac),(20,uac),(22,uac)])]⟩,⟨13,2,qE,[(.normal,qS [sP 1 RI,Uaa 2,zaa 5,zaa 8,zaa 9,zaa 10,Xaa 88] [(12,yab),(18,uac),(20,uac),(22,uac)])]⟩,⟨15,3,qE,[(.normal,qS [sP 1 RI,Uaa 2,zaa 5,zaa 8,zaa 9,zaa 10,Xaa 109] [(12,yab),(18,uac),(20,uac),(22,uac)])]⟩,⟨4,4,qE,[(.ret,qS [zaa 10,Uaa 11] [(22,uac)]),(.normal,qS [sP 1 RI,Uaa 2,zaa 5,zaa 8,zaa 9,zaa 10,Xaa 109] [(12,yab),(18,uac),(20,uac),(22,uac)])]⟩]⟩
def Ef:Ctr:=⟨187,61,[.agg yab,shU RI,shU I64,.agg uac,.agg uac],[],[⟨yai,[.agg 2,.one],[]⟩],ap8 vg⟩
theorem Ml:Lk 3 Ef:=ls Ms (aC zE (aC BJ (aC zF (aC EX aN))))
def ni(a0:Int):Option (Bool×Unit):=
(ib a0).bind λ(x0,_)=>
bif x0 then(some (true,()))else
bif(a0==22)then(some (true,()))else
some ((a0==24),())
def Dn:X.Cfg:=⟨E0,[lE],[],[]⟩
def wh:Ctr:=⟨188,62,Uac,[],[⟨zab,[.one],[]⟩],ap1 ni⟩
theorem C3:Lk 2 wh:=ls Dn (aC nM aN)
def sc(a0:LDIn)(a1:List (Int))(a2:List LI)(a3:Int)(a4:List (Int))(a5:Int)(a6:LDCe)(a7:LDLn)(a8:LDTh):Option (T1j):=
(eu a3).bind λx0=>
(dR a8 x0).bind λx1=>
(dR a8 x0).bind λx2=>
let x3:=dS a0.length;
bif(decide (x2.2.2.1>=x3))then((fP x0 2 a8).bind λ(x4,x5,_)=>
some (x4,a4,a5,a6,a7,x5,()))else
(dR a8 x0).bind λx4=>
(eu x4.2.2.1).bind λx5=>
(dR a0 x5).bind λx6=>
(dR a8 x0).bind λx7=>
let x8:=w64 (x7.2.2.1+1);
(dR a8 x0).bind λx9=>
(eu x6.2.1).bind λac=>
(dR a8 x0).bind λae=>
(dR ae.2.1 ac).bind λaf=>
(dR a8 x0).bind λag=>
(dR ag.2.1 ac).bind λah=>
(dR a8 x0).bind λai=>
(eu x6.2.2.1).bind λaj=>
(dR a8 x0).bind λak=>
(dR ak.2.1 aj).bind λam=>
(dR a8 x0).bind λan=>
(dR an.2.1 aj).bind λap=>
(match(bif(x6.1==0)then(some (.inl (x0,x8,a4,a5,a6,a7,a8,x6.1,x6.2.1,x6.2.2.1,x6.2.2.2.1,x6.2.2.2.2,())))else
bif(x6.1==1)then((dR a8 x0).bind λaq=>
let av:=wk .u16 x6.2.2.2.2;
(eu x6.2.1).bind λax=>
(dR a8 x0).bind λay=>
(dR ay.2.1 ax).bind λaz=>
(dR a8 x0).bind λaA=>
(dR aA.2.1 ax).bind λaB=>
let aD:=(List.modify a8 x0 λe=>(e.1,((List.modify e.2.1 ax λe=>(0,av)),e.2.2)));
some (.inl (x0,x8,a4,a5,a6,a7,aD,x6.1,x6.2.1,x6.2.2.1,x6.2.2.2.1,x6.2.2.2.2,())))else
bif(x6.1==2)then((dR a8 x0).bind λaq=>
(eu x6.2.1).bind λav=>
(dR a8 x0).bind λax=>
(dR ax.2.1 av).bind λay=>
(dR a8 x0).bind λaz=>
(dR az.2.1 av).bind λaA=>
let aB:=(List.modify a8 x0 λe=>(e.1,((List.modify e.2.1 av λe=>(ap.1,ap.2)),e.2.2)));
some (.inl (x0,x8,a4,a5,a6,a7,aB,x6.1,x6.2.1,x6.2.2.1,x6.2.2.2.1,x6.2.2.2.2,())))else
bif(x6.1==15)then((dR a8 x0).bind λaq=>
(eu x6.2.2.2.2).bind λav=>
(dR a4 av).bind λax=>
let ay:=wk .u16 ax;
(eu x6.2.1).bind λaz=>
(dR a8 x0).bind λaA=>
(dR aA.2.1 az).bind λaB=>
(dR a8 x0).bind λaD=>
(dR aD.2.1 az).bind λaE=>
let aF:=(List.modify a8 x0 λe=>(e.1,((List.modify e.2.1 az λe=>(1,ay)),e.2.2)));
some (.inl (x0,x8,a4,a5,a6,a7,aF,x6.1,x6.2.1,x6.2.2.1,x6.2.2.2.1,x6.2.2.2.2,())))else
bif(x6.1==16)then((bif(x6.1==17)then(some (x0,x8,a4,a5,a6,a7,a8,a0,a1,a2,x6.1,x6.2.1,x6.2.2.1,x6.2.2.2.1,x6.2.2.2.2,ap.1,ap.2,ah.1,ah.2,()))else
some (x0,x8,a4,a5,a6,a7,a8,a0,a1,a2,x6.1,x6.2.1,x6.2.2.1,x6.2.2.2.1,x6.2.2.2.2,ap.1,ap.2,ap.1,ap.2,()):Option (T3u)).bind λ(aq,av,ax,ay,az,aA,aB,aD,aE,aF,aG,aH,aI,aJ,aK,aL,aM,aO,aP,_)=>
let aQ:=wk .u16 aK;
(fZ ax ay aE aO aP aQ false).bind λ(aR,aS,aT,_)=>
bif(aT != 0)then((fP aq aT aB).bind λ(aU,aV,_)=>
some (.inr (aU,ax,ay,az,aA,aV,())))else
bif(aG==16)then((dR aB aq).bind λaU=>
let aV:=wk .i64 aS;
(qo aV az aA).bind λ(aW,aY,aZ,ba,_)=>
(eu aH).bind λbc=>
(dR aB aq).bind λbd=>
(dR bd.2.1 bc).bind λbf=>
(dR aB aq).bind λbg=>
(dR bg.2.1 bc).bind λbh=>
let bi:=(List.modify aB aq λe=>(e.1,((List.modify e.2.1 bc λe=>(aW,aY)),e.2.2)));
some (.inl (aq,av,ax,ay,aZ,ba,bi,aG,aH,aI,aJ,aK,())))else
let aU:=wk .i64 aS;
(lZ aU aL aM az aA).bind λ(aV,aW,_)=>
some (.inl (aq,av,ax,ay,aV,aW,aB,aG,aH,aI,aJ,aK,())))else
bif(x6.1==17)then((bif(x6.1==17)then(some (x0,x8,a4,a5,a6,a7,a8,a0,a1,a2,x6.1,x6.2.1,x6.2.2.1,x6.2.2.2.1,x6.2.2.2.2,ap.1,ap.2,ah.1,ah.2,()))else
some (x0,x8,a4,a5,a6,a7,a8,a0,a1,a2,x6.1,x6.2.1,x6.2.2.1,x6.2.2.2.1,x6.2.2.2.2,ap.1,ap.2,ap.1,ap.2,()):Option (T3u)).bind λ(aq,av,ax,ay,az,aA,aB,aD,aE,aF,aG,aH,aI,aJ,aK,aL,aM,aO,aP,_)=>
let aQ:=wk .u16 aK;
(fZ ax ay aE aO aP aQ false).bind λ(aR,aS,aT,_)=>
bif(aT != 0)then((fP aq aT aB).bind λ(aU,aV,_)=>
some (.inr (aU,ax,ay,az,aA,aV,())))else
bif(aG==16)then((dR aB aq).bind λaU=>
let aV:=wk .i64 aS;
(qo aV az aA).bind λ(aW,aY,aZ,ba,_)=>
(eu aH).bind λbc=>
(dR aB aq).bind λbd=>
(dR bd.2.1 bc).bind λbf=>
(dR aB aq).bind λbg=>
(dR bg.2.1 bc).bind λbh=>
let bi:=(List.modify aB aq λe=>(e.1,((List.modify e.2.1 bc λe=>(aW,aY)),e.2.2)));
some (.inl (aq,av,ax,ay,aZ,ba,bi,aG,aH,aI,aJ,aK,())))else
let aU:=wk .i64 aS;
(lZ aU aL aM az aA).bind λ(aV,aW,_)=>
some (.inl (aq,av,ax,ay,aV,aW,aB,aG,aH,aI,aJ,aK,())))else
bif(x6.1==18)then(some (.inl (x0,x6.2.2.2.2,a4,a5,a6,a7,a8,x6.1,x6.2.1,x6.2.2.1,x6.2.2.2.1,x6.2.2.2.2,())))else
bif(x6.1==19)then(bif(ah.1 != 0)then((fP x0 3 a8).bind λ(aq,av,_)=>
some (.inr (aq,a4,a5,a6,a7,av,())))else
bif((ah.2==0)==(x6.1==19))then(some (.inl (x0,x6.2.2.2.2,a4,a5,a6,a7,a8,x6.1,x6.2.1,x6.2.2.1,x6.2.2.2.1,x6.2.2.2.2,())))else
some (.inl (x0,x8,a4,a5,a6,a7,a8,x6.1,x6.2.1,x6.2.2.1,x6.2.2.2.1,x6.2.2.2.2,())))else
bif(x6.1==20)then(bif(ah.1 != 0)then((fP x0 3 a8).bind λ(aq,av,_)=>
some (.inr (aq,a4,a5,a6,a7,av,())))else
bif((ah.2==0)==(x6.1==19))then(some (.inl (x0,x6.2.2.2.2,a4,a5,a6,a7,a8,x6.1,x6.2.1,x6.2.2.1,x6.2.2.2.1,x6.2.2.2.2,())))else
some (.inl (x0,x8,a4,a5,a6,a7,a8,x6.1,x6.2.1,x6.2.2.1,x6.2.2.2.1,x6.2.2.2.2,())))else
bif(x6.1==21)then((dR a8 x0).bind λaq=>
let av:=wk .u16 x8;
(eu x6.2.1).bind λax=>
(dR a8 x0).bind λay=>
(dR ay.2.1 ax).bind λaz=>
(dR a8 x0).bind λaA=>
(dR aA.2.1 ax).bind λaB=>
let aD:=(List.modify a8 x0 λe=>(e.1,((List.modify e.2.1 ax λe=>(0,av)),e.2.2)));
some (.inl (x0,x6.2.2.2.2,a4,a5,a6,a7,aD,x6.1,x6.2.1,x6.2.2.1,x6.2.2.2.1,x6.2.2.2.2,())))else
bif(x6.1==22)then(bif(ah.1 != 0)then((fP x0 3 a8).bind λ(aq,av,_)=>
some (.inr (aq,a4,a5,a6,a7,av,())))else
bif(decide (ah.2>255))then((fP x0 2 a8).bind λ(aq,av,_)=>
some (.inr (aq,a4,a5,a6,a7,av,())))else
let aq:=wk .i64 ah.2;
some (.inl (x0,aq,a4,a5,a6,a7,a8,x6.1,x6.2.1,x6.2.2.1,x6.2.2.2.1,x6.2.2.2.2,())))else
bif(x6.1==24)then((dR a8 x0).bind λaq=>
bif(aq.2.2.2.2.2.1==(-1))then((fP x0 1 a8).bind λ(av,ax,_)=>
some (.inr (av,a4,a5,a6,a7,ax,())))else
(dR a8 x0).bind λav=>
(dR a8 x0).bind λax=>
let ay:=(List.modify a8 x0 λe=>(e.1,(e.2.1,(e.2.2.1,(e.2.2.2.1,(e.2.2.2.2.1,((-1),e.2.2.2.2.2.2)))))));
some (.inl (x0,av.2.2.2.2.2.1,a4,a5,a6,a7,ay,x6.1,x6.2.1,x6.2.2.1,x6.2.2.2.1,x6.2.2.2.2,())))else
bif(x6.1==23)then((dR a8 x0).bind λaq=>
let av:=List.modify a8 x0 λe=>(2,e.2);
(dR av x0).bind λax=>
let ay:=(List.modify av x0 λe=>(e.1,(e.2.1,(x8,e.2.2.2))));
some (.inr (1,a4,a5,a6,a7,ay,())))else
(dR a8 x0).bind λaq=>
(eu x6.2.2.2.1).bind λav=>
(dR a8 x0).bind λax=>
(dR ax.2.1 av).bind λay=>
(dR a8 x0).bind λaz=>
(dR az.2.1 av).bind λaA=>
(vg a4 a5 a1 x6.1 ap.1 ap.2 aA.1 aA.2).bind λ(aB,aD,aE,_)=>
bif(aE != 0)then((fP x0 aE a8).bind λ(aF,aG,_)=>
some (.inr (aF,a4,a5,a6,a7,aG,())))else
(dR a8 x0).bind λaF=>
(eu x6.2.1).bind λaG=>
(dR a8 x0).bind λaH=>
(dR aH.2.1 aG).bind λaI=>
(dR a8 x0).bind λaJ=>
(dR aJ.2.1 aG).bind λaK=>
let aL:=(List.modify a8 x0 λe=>(e.1,((List.modify e.2.1 aG λe=>(aB,aD)),e.2.2)));
some (.inl (x0,x8,a4,a5,a6,a7,aL,x6.1,x6.2.1,x6.2.2.1,x6.2.2.2.1,x6.2.2.2.2,())):Option ((Nat×Int×LI×Int×LDCe×LDLn×LDTh×T0W)⊕T1j))with
|none=>none
|some (.inl (aq,av,ax,ay,az,aA,aB,aD,aE,aF,aG,aH,_))=>
(dR aB aq).bind λaI=>
let aJ:=(List.modify aB aq λe=>(e.1,(e.2.1,(av,e.2.2.2))));
((ni aD).bind λ(aK,_)=>
bif aK then((dR aJ aq).bind λaL=>
let aM:=w64 (aL.2.2.2.1+1);
(dR aJ aq).bind λaO=>
let aP:=(List.modify aJ aq λe=>(e.1,(e.2.1,(e.2.2.1,(aM,e.2.2.2.2)))));
some (ax,ay,az,aA,aP,()))else
some (ax,ay,az,aA,aJ,()):Option (T14)).bind λ(aK,aL,aM,aO,aP,_)=>
some ((-1),aK,aL,aM,aO,aP,())
|some (.inr (aq,av,ax,ay,az,aA,_))=>
some (aq,av,ax,ay,az,aA,()))
def JC:X.Cfg:=⟨E0,[Ad,uR,Ae,sR,Ef,wh],[],[⟨17,0,qE,[(.normal,(qS [zaa 1,zaa 3,(7,.ptr ⟨4,4,[((),(8,0))]⟩ [0,0]),zaa 8,Uaa 9,zaa 11,zaa 12] [(4,Zac),(8,uab),(18,Uad),(24,uac),(26,uac)]))]⟩,⟨8,1,qE,[(.normal,(qS [zaa 1,(7,.ptr ⟨4,4,[((),(8,0))]⟩ [0,0]),zaa 8,Uaa 9] [(4,Zac),(18,Uad)])),(.ret,qS [zaa 1,Uaa 6] [(4,Zac)])]⟩,⟨52,2,qE,[(.normal,qS [zaa 1] [(4,Zac)])]⟩]⟩
def Cx:Ctr:=⟨170,63,[.agg uab,.ptr ⟨4,0,[]⟩ [0],shU I64],[(4,Zac)],[⟨Uac,[.one],[(4,Zac)]⟩],ap9 sc⟩
theorem Jo:Lk 4 Cx:=ls JC (aC Hj (aC zF (aC Hk (aC xw (aC Ml (aC C3 aN))))))
def tk:T3a->Option (T3a⊕T1G):=λ(v0,v1,v2,v3,v4,v5,v6,v7,v8,v9,v10,v11,v12,v13,v14,_)=>
(sc v2 v3 v4 v0 v10 v11 v12 v13 v14).bind λ(x0,x1,x2,x3,x4,x5,_)=>
bif(x0 != (-1))then(some (.inr (x0,0,x1,x2,x3,x4,x5,())))else
(eu v0).bind λx6=>
(dR x5 x6).bind λx7=>
(dR x5 x6).bind λx8=>
bif(x8.2.2.2.1==v1)then(some (.inr (0,0,x1,x2,x3,x4,x5,())))else
some (.inl (v0,v1,v2,v3,v4,v5,v6,v7,v8,v9,x1,x2,x3,x4,x5,()))
def ox(a0:LDIn)(a1:List (Int))(a2:List LI)(a3:List (Int))(a4:Int)(a5:LDCe)(a6:LDLn)(a7:LDTh)(a8:Int)(a9:Int):Option (LI×Int×LDCe×LDLn×LDTh×T02):=
((ia a0 a1 a2 a3 a4 a5 a6 a7).bind λ(x0,_)=>
bif(!x0)then(some (a8,a9,true,a0,a1,a2,a3,a4,a5,a6,a7,(),0,(),(),(),()))else
bif(decide (a8<0))then(some (a8,a9,true,a0,a1,a2,a3,a4,a5,a6,a7,(),0,(),(),(),()))else
bif(decide (a8>=4))then(some (a8,a9,true,a0,a1,a2,a3,a4,a5,a6,a7,(),0,(),(),(),()))else
bif(decide (a9<1))then(some (a8,a9,true,a0,a1,a2,a3,a4,a5,a6,a7,(),0,(),(),(),()))else
some (a8,a9,(decide (a9>64)),a0,a1,a2,a3,a4,a5,a6,a7,(),0,(),(),(),()):Option (Int×Int×Bool×LDIn×LI×LLI×LI×Int×LDCe×LDLn×LDTh×T16)).bind λ(x0,x1,x2,x3,x4,x5,x6,x7,x8,x9,ac,ae,af,ag,ah,ai,_)=>
bif x2 then(some ([],0,[],[],[],0,1,()))else
(jQ x6 x7 x8 x9 ac).bind λ(aj,ak,am,an,ap,_)=>
(eu x0).bind λaq=>
(dR ac aq).bind λav=>
bif(av.1 != 1)then(some (aj,ak,am,an,ap,3,0,()))else
(eu x0).bind λax=>
(dR ap ax).bind λay=>
(dR ap ax).bind λaz=>
let aA:=w64 (az.2.2.2.1+x1);
(dY tk NN (x0,aA,x3,x4,x5,ae,af,ag,ah,ai,aj,ak,am,an,ap,())).bind λ(aB,aD,aE,aF,aG,aH,aI,_)=>
some (aE,aF,aG,aH,aI,aB,aD,())
def Fw:X.Cfg:=⟨E0,[mw,nP,Cx],[],[⟨2,0,qE,[(.normal,qS [Uaa 2,Uaa 3,zaa 4,zaa 5,zaa 8,Xaa 33] [(10,uab),(12,zac),(18,yac)])]⟩,⟨9,1,qS [Uaa 2,zaa 4,zaa 8,zaa 11,Uaa 12] [(10,uab),(18,yac),(24,Zac)],[(.ret,qS [zaa 8,Uaa 9,Uaa 10] [(18,Zac)])]⟩]⟩
def xY:Ctr:=⟨158,64,[.agg uab,.agg zac,shU I64,shU I64],[],[⟨uL [RI,CW,(uaa KCe),j5,rh,I64,I64],[.agg 5,.one,.one],[]⟩],ap10 ox⟩
theorem ET:Lk 5 xY:=ls Fw (aC oO (aC qC (aC Jo aN)))
def lV(a0:Int):Option (ByteArray×Unit):=
let x0:ByteArray:=(bytes []);
(bif(a0==0)then(some (a0,true,()))else
bif(a0==8)then(some (a0,true,()))else
bif(a0==9)then(some (a0,true,()))else
bif(a0==11)then(some (a0,true,()))else
some (a0,(a0==12),()):Option (T01)).bind λ(x1,x2,_)=>
bif x2 then(let x3:ByteArray:=(bytes [78]);
some (x3,()))else
bif(x1==1)then(let x3:ByteArray:=(bytes [72,80,78]);
some (x3,()))else
bif(x1==2)then(let x3:ByteArray:=(bytes [72,80,78]);
some (x3,()))else
bif(x1==3)then(let x3:ByteArray:=(bytes [78,78]);
some (x3,()))else
bif(x1==4)then(let x3:ByteArray:=(bytes [72]);
some (x3,()))else
bif(x1==5)then(let x3:ByteArray:=(bytes [72,78]);
some (x3,()))else
bif(x1==10)then(let x3:ByteArray:=(bytes [78,88]);
some (x3,()))else
bif(x1==13)then(let x3:ByteArray:=(bytes [78,80,78]);
some (x3,()))else
bif(x1==14)then(let x3:ByteArray:=(bytes [78,80,78]);
some (x3,()))else
let x3:ByteArray:=(bytes []);
some (x3,())
def Fq:X.Cfg:=⟨E0,[],[],[⟨3,0,qE,[(.normal,qS [Uaa 3,Xaa 4] [])]⟩]⟩
def oU:Ctr:=⟨171,65,Uac,[],[⟨uL [.str],[.one],[]⟩],ap1 lV⟩
theorem su:Lk 1 oU:=ls Fq aN
def nE(a0:Int)(a1:Int):Option (Bool×Unit):=
bif(a0==78)then(some ((a1==0),()))else
bif(a0==72)then(some ((a1==2),()))else
bif(a0==80)then(some ((a1==1),()))else
some (true,())
def HQ:X.Cfg:=⟨E0,[],[],[]⟩
def uN:Ctr:=⟨172,66,uL [CB,CB],[],[⟨zab,[.one],[]⟩],ap2 nE⟩
theorem zC:Lk 1 uN:=ls HQ aN
def jz(a0:Int):Option (Int×Unit):=
bif(decide (a0<0))then(some ((-1),()))else
bif(decide (a0>15))then(some ((-1),()))else
bif(a0==1)then(some (1,()))else
bif(a0==13)then(some (1,()))else
bif(a0==2)then(some (2,()))else
bif(a0==14)then(some (2,()))else
some (0,())
def Dk:X.Cfg:=⟨E0,[],[],[]⟩
def kR:Ctr:=⟨162,67,Uac,[],[⟨Uac,[.one],[]⟩],ap1 jz⟩
theorem nu:Lk 1 kR:=ls Dk aN
def nh(a0:List (Int))(a1:Int)(a2:List (Int))(a3:Int)(a4:Int)(a5:Int):Option (T02):=
bif(a3 != 1)then(some (0,3,()))else
let x0:=wk .i64 a4;
(fC a0 a1 a2 x0).bind λ(x1,x2,x3,_)=>
(bif(!x3)then(some (true,a3,a4,()))else
bif(decide (a5<0))then(some (true,a3,a4,()))else
(eu x1).bind λx4=>
(dR a2 x4).bind λx5=>
let x6:=w64 (x5-x2);
some ((decide (a5>x6)),a3,a4,()):Option (T0c)).bind λ(x4,x5,x6,_)=>
bif x4 then(some (0,4,()))else
let x7:=wk .i64 x6;
some (x7,0,())
def Dm:X.Cfg:=⟨E0,[j3],[],[⟨6,0,qE,[(.normal,qS [zaa 6,Xaa 41] [(14,uac)])]⟩]⟩
def wg:Ctr:=⟨173,68,[.agg yab,shU RI,.agg uac,shU I64],[],[⟨Xac,[.one,.one],[]⟩],ap6 nh⟩
theorem CZ:Lk 2 wg:=ls Dm (aC mn aN)
def nY:T3w->Option (T3w⊕((Int×Unit)⊕(Int×ByteArray×Int×Int×Bool×T3g))):=λ(v0,v1,v2,v3,v4,v5,v6,v7,v8,v9,v10,v11,v12,v13,v14)=>
bif(decide (v3<v2))then((eu v3).bind λx0=>
(DQ v1 x0).bind λx1=>
(eu v3).bind λx2=>
(dR v13 x2).bind λx3=>
(nE x1 x3.1).bind λ(x4,_)=>
bif(!x4)then(some (.inr (.inl (6,()))))else
let x5:=w64 (v3+1);
some (.inl (v0,v1,v2,x5,v4,v5,v6,v7,v8,v9,v10,v11,v12,v13,v14)))else
some (.inr (.inr (v0,v1,v2,v3,false,v4,v5,v6,v7,v8,v9,v10,v11,v12,v13,v14)))
def ov(a0:LDIn)(a1:List (Int))(a2:List LI)(a3:List (Int))(a4:Int)(a5:LDCe)(a6:LDLn)(a7:LDTh)(a8:Int):Option (Int×Unit):=
(eu a8).bind λx0=>
(dR a7 x0).bind λx1=>
let x2:=w64 (x1.2.2.1-1);
(eu x2).bind λx3=>
(dR a0 x3).bind λx4=>
(lV x4.2.2.2.2).bind λ(x5,_)=>
let x6:=Es x5;
(match dY nY NN (x4.2.2.2.2,x5,x6,0,a0,a1,a2,a3,a4,a5,a6,a7,x1.1,x1.2.1,x1.2.2.1,x1.2.2.2.1,x1.2.2.2.2.1,x1.2.2.2.2.2.1,x1.2.2.2.2.2.2.1,x1.2.2.2.2.2.2.2,())with
|none=>none
|some (.inl (x7,_))=>
some (x7,())
|some (.inr (x7,x8,x9,ac,ae,af,ag,ah,ai,aj,ak,am,an,ap,aq,_))=>
(jz x7).bind λ(aD,_)=>
bif(decide (aD>0))then((dR aq 1).bind λaE=>
(dR aq 2).bind λaF=>
let aG:=wk .i64 aF.2;
(nh ai aj ag aE.1 aE.2 aG).bind λ(aH,aI,_)=>
bif(aI != 0)then(some (6,()))else
(dR aq 2).bind λaJ=>
bif(decide (aJ.2>16))then(some (6,()))else
(bif(x7==10)then((dR aq 0).bind λaK=>
let aL:=wk .i64 aK.2;
let aM:=dS af.length;
some ((decide (aL>=aM)),()))else
bif(x7==12)then((dR aq 0).bind λaK=>
let aL:=wk .i64 aK.2;
let aM:=dS af.length;
some ((decide (aL>=aM)),()))else
some (false,()):Option (Bool×Unit)).bind λ(aK,_)=>
bif aK then(some (6,()))else
some (0,()))else
(bif(x7==10)then((dR aq 0).bind λaE=>
let aF:=wk .i64 aE.2;
let aG:=dS af.length;
some ((decide (aF>=aG)),()))else
bif(x7==12)then((dR aq 0).bind λaE=>
let aF:=wk .i64 aE.2;
let aG:=dS af.length;
some ((decide (aF>=aG)),()))else
some (false,()):Option (Bool×Unit)).bind λ(aE,_)=>
bif aE then(some (6,()))else
some (0,()))
def Ft:X.Cfg:=⟨E0,[oU,uN,kR,wg],[],[⟨6,0,qS [zaa 3,zaa 4,zaa 7,Uaa 8,sP 9 .str,Uaa 29,Uaa 30] [(8,uab),(10,zac),(16,Zad)],[(.ret,qS [Uaa 6] []),(.exit 0,qS [zaa 3,zaa 4,zaa 7,Uaa 8,sP 9 .str,Uaa 29,Uaa 30,Xaa 31] [(8,uab),(10,zac),(16,Zad)])]⟩,⟨19,1,qE,[(.normal,qS [Xaa 93] [])]⟩]⟩
def xX:Ctr:=⟨159,69,[.agg uab,.agg zac,shU I64],[],[⟨Uac,[.one],[]⟩],ap9 ov⟩
theorem ES:Lk 3 xX:=ls Ft (aC su (aC zC (aC nu (aC CZ aN))))
def ng(a0:Int)(a1:LDCe)(a2:Int)(a3:Int)(a4:Int)(a5:Int)(a6:Int)(a7:Int):Option (T1Y):=
bif(ek 4 0 a1.length)then let x0:LDCe:=(List.append [] a1);
some (a0,x0,a2,a3,a4,a5,a6,a7,())else none
def Dl:X.Cfg:=⟨E0,[],[],[]⟩
def we:Ctr:=⟨174,70,[.agg Zad],[],[⟨yag,[.agg 8],[]⟩],ap8 ng⟩
theorem CY:Lk 1 we:=ls Dl aN
def ph(a0:Int)(a1:LDCe)(a2:Int)(a3:Int)(a4:Int)(a5:Int)(a6:Int)(a7:Int)(a8:Int)(a9:Int):Option (T1Y):=
(ng a0 a1 a2 a3 a4 a5 a6 a7).bind λ(x0,x1,x2,x3,x4,x5,_)=>
some (4,x1,x2,x3,x4,x5,a8,a9,())
def JE:X.Cfg:=⟨E0,[we],[],[]⟩
def wM:Ctr:=⟨160,71,[.agg Zad,shU I64,shU CW],[],[⟨yag,[.agg 8],[]⟩],ap10 ph⟩
theorem BI:Lk 2 wM:=ls JE (aC CY aN)
def iM(a0:Int):Option (Int×Unit):=
bif(decide (a0<0))then(some ((-1),()))else
bif(decide (a0>15))then(some ((-1),()))else
(lV a0).bind λ(x0,_)=>
let x1:=Es x0;
some (x1,())
def yX:X.Cfg:=⟨E0,[oU],[],[]⟩
def m6:Ctr:=⟨161,72,Uac,[],[⟨Uac,[.one],[]⟩],ap1 iM⟩
theorem rH:Lk 2 m6:=ls yX (aC su aN)
def i8(a0:List (Int))(a1:Int)(a2:List (Int))(a3:Int)(a4:Int):Option (T0v):=
bif(a3==0)then(some (0,a4,0,0,()))else
bif(a3==2)then(let x0:Int:=(wk .u16 (a4-a1));
some (2,x0,0,0,()))else
let x0:=wk .i64 a4;
(fC a0 a1 a2 x0).bind λ(x1,x2,x3,_)=>
bif x3 then(some (1,0,x1,x2,()))else
let x4:=wk .i64 a4;
some (1,0,(-1),x4,())
def FL:X.Cfg:=⟨E0,[j3],[],[]⟩
def oW:Ctr:=⟨31,73,[.agg yab,shU RI,.agg uac],[],[⟨Xae,[.agg 4],[]⟩],ap5 i8⟩
theorem sx:Lk 2 oW:=ls FL (aC mn aN)
def nG(a0:LDCe)(a1:LDLn)(a2:Int):Option (T02):=
let x0:=w64 (Int.tdiv a2 4);
let x1:=Int.tmod x0 4;
(eu x1).bind λx2=>
(dR a1 x2).bind λx3=>
bif(x3.1==x0)then(let x4:Int:=(Int.tmod a2 4);
(eu x4).bind λx5=>
(dR x3.2.2 x5).bind λx6=>
some (x6.1,x6.2,()))else
(eu a2).bind λx4=>
(dR a0 x4).bind λx5=>
some (x5.1,x5.2,())
def H4:X.Cfg:=⟨E0,[],[],[]⟩
def uU:Ctr:=⟨82,74,[.agg Xad,shU I64],[],[⟨uac,[.agg 2],[]⟩],ap3 nG⟩
theorem zH:Lk 1 uU:=ls H4 aN
def jO:T4d->Option (T4d⊕(Int×Int×T48)):=λ(v0,v1,v2,v3,v4,v5,v6,v7,v8,v9,v10,v11,v12,v13,v14,v15,v16,v17,v18,v19,v20,v21,v22,v23,v24,v25,v26,v27,v28,v29,v30,v31,v32,v33,v34,v35,v36,v37,v38,_)=>
bif(decide (v1<v0))then((eu v1).bind λx0=>
(dR v24 x0).bind λx1=>
(i8 v18 v19 v3 x1.1 x1.2).bind λ(x2,x3,x4,x5,_)=>
let x6:LDCn:=[(x2,(x3,(x4,x5)))];
bif(ek 24 v37.length x6.length)then let x7:LDCn:=(List.append v37 x6);
let x8:=w64 (v1+1);
some (.inl (v0,x8,v2,v3,v4,v5,v6,v7,v8,v9,v10,v11,v12,v13,v14,v15,v16,v17,v18,v19,v20,v21,v22,v23,v24,v25,v26,v27,v28,v29,v30,v31,v32,v33,v34,v35,v36,x7,v38,()))else none)else
some (.inr (v0,v1,false,v2,v3,v4,v5,v6,v7,v8,v9,v10,v11,v12,v13,v14,v15,v16,v17,v18,v19,v20,v21,v22,v23,v24,v25,v26,v27,v28,v29,v30,v31,v32,v33,v34,v35,v36,v37,v38,()))
def jN:T4c->Option (T4c⊕T4g):=λ(v0,v1,v2,v3,v4,v5,v6,v7,v8,v9,v10,v11,v12,v13,v14,v15,v16,v17,v18,v19,v20,v21,v22,v23,v24,v25,v26,v27,v28,v29,v30,v31,v32,v33,v34,v35,v36,v37,v38,_)=>
bif(decide (v1<v0))then((dR v24 1).bind λx0=>
let x1:=wk .i64 x0.2;
let x2:=w64 (x1+v1);
(nG v20 v21 x2).bind λ(x3,x4,_)=>
(i8 v18 v19 v3 x3 x4).bind λ(x5,x6,x7,x8,_)=>
let x9:LDCn:=[(x5,(x6,(x7,x8)))];
bif(ek 24 v38.length x9.length)then let ac:LDCn:=(List.append v38 x9);
let ae:=w64 (v1+1);
some (.inl (v0,ae,v2,v3,v4,v5,v6,v7,v8,v9,v10,v11,v12,v13,v14,v15,v16,v17,v18,v19,v20,v21,v22,v23,v24,v25,v26,v27,v28,v29,v30,v31,v32,v33,v34,v35,v36,v37,ac,()))else none)else
some (.inr (v0,v1,false,v2,v3,v4,v5,v6,v7,v8,v9,v10,v11,v12,v13,v14,v15,v16,v17,v18,v19,v20,v21,v22,v23,v24,v25,v26,v27,v28,v29,v30,v31,v32,v33,v34,v35,v36,v37,v38,()))
def nF(a0:LDIn)(a1:List (Int))(a2:List LI)(a3:List (Int))(a4:Int)(a5:LDCe)(a6:LDLn)(a7:LDTh)(a8:Int)(a9:Int):Option (LI×Int×LDCe×LDLn×LDTh×T29):=
(ox a0 a1 a2 a3 a4 a5 a6 a7 a8 a9).bind λ(x0,x1,x2,x3,x4,x5,x6,_)=>
bif(x6 != 0)then(some ([],0,[],[],[],0,0,0,0,0,0,[],[],x6,()))else
(eu a8).bind λx7=>
(dR x4 x7).bind λx8=>
(dR x4 x7).bind λx9=>
(dR x4 x7).bind λac=>
(match(bif(x5==2)then(some (.inl ((),0,(),(),(),0,0,0,0,0,0,(),(),x0,x1,x2,x3,x4,a8,x5,x9.2.2.2.2.2.2.1,x9.2.2.2.1,x9.2.2.1,0,(),(),())))else
bif(x5==1)then((ov a0 a1 a2 x0 x1 x2 x3 x4 a8).bind λ(ae,_)=>
bif(ae != 0)then((ph x9.1 ac.2.1 x9.2.2.1 x9.2.2.2.1 x9.2.2.2.2.1 x9.2.2.2.2.2.1 x9.2.2.2.2.2.2.1 x9.2.2.2.2.2.2.2 ae 0).bind λ(af,ag,ah,ai,aj,ak,am,an,_)=>
(eu a8).bind λap=>
(dR x4 ap).bind λaq=>
(dR x4 ap).bind λav=>
let ax:=(List.modify x4 ap λe=>(af,(ag,(ah,(ai,(aj,(ak,(am,an))))))));
some (.inl ((),0,(),(),(),0,0,0,0,0,0,(),(),x0,x1,x2,x3,ax,a8,2,ae,x9.2.2.2.1,x9.2.2.1,0,(),(),())))else
let af:=w64 (x9.2.2.1-1);
(eu af).bind λag=>
(dR a0 ag).bind λah=>
(iM ah.2.2.2.2).bind λ(ai,_)=>
(dY jO NN (ai,0,a0,a1,a2,(),0,(),(),(),0,0,0,0,0,0,(),(),x0,x1,x2,x3,x4,x9.1,ac.2.1,x9.2.2.1,x9.2.2.2.1,x9.2.2.2.2.1,x9.2.2.2.2.2.1,x9.2.2.2.2.2.2.1,x9.2.2.2.2.2.2.2,a8,x5,0,x9.2.2.2.1,x9.2.2.1,ah.2.2.2.2,[],(),())).bind λ(aj,ak,am,an,ap,aq,av,ax,ay,az,aA,aB,aD,aE,aF,aG,aH,aI,aJ,aK,aL,aM,aO,aP,aQ,aR,aS,aT,aU,aV,aW,aY,aZ,ba,bc,bd,bf,bg,bh,bi,_)=>
(jz bg).bind λ(bj,_)=>
bif(bj==1)then((dR aR 2).bind λbk=>
let bm:=wk .i64 bk.2;
(dY jN NN (bm,0,an,ap,aq,av,ax,ay,az,aA,aB,aD,aE,aF,aG,aH,aI,aJ,aK,aL,aM,aO,aP,aQ,aR,aS,aT,aU,aV,aW,aY,aZ,ba,bc,bd,bf,bg,bh,[],())).bind λ(bn)=>
some (.inr (.inl (bn))))else
some (.inr (.inr (.inl (false,an,ap,aq,av,ax,ay,az,aA,aB,aD,aE,aF,aG,aH,aI,aJ,aK,aL,aM,aO,aP,aQ,aR,aS,aT,aU,aV,aW,aY,aZ,ba,bc,bd,bf,bg,bh,bi,())))))else
some (.inr (.inr (.inr (a8,false,a0,a1,a2,(),0,(),(),(),0,0,0,0,0,0,(),(),x0,x1,x2,x3,x4,x9.1,ac.2.1,x9.2.2.1,x9.2.2.2.1,x9.2.2.2.2.1,x9.2.2.2.2.2.1,x9.2.2.2.2.2.2.1,x9.2.2.2.2.2.2.2,a8,x5,0,x9.2.2.2.1,x9.2.2.1,0,(),(),())))):Option ((Unit×Int×Unit×Unit×Unit×Int×Int×Int×Int×Int×Int×Unit×Unit×LI×Int×LDCe×LDLn×LDTh×T1T)⊕(T4g⊕(T48⊕(Int×Bool×LDIn×LI×LLI×Unit×Int×Unit×Unit×Unit×Int×Int×Int×Int×Int×Int×Unit×Unit×LI×Int×LDCe×LDLn×LDTh×Int×LDCe×Int×Int×Int×Int×Int×Int×T1T)))))with
|none=>none
|some (.inl (ae,af,ag,ah,ai,aj,ak,am,an,ap,aq,av,ax,ay,az,aA,aB,aD,aE,aF,aG,aH,aI,aJ,aK,aL,_))=>
some (ay,az,aA,aB,aD,aE,aF,aG,aH,aI,aJ,[],[],0,())
|some (.inr (.inl (ae,af,ag,ah,ai,aj,ak,am,an,ap,aq,av,ax,ay,az,aA,aB,aD,aE,aF,aG,aH,aI,aJ,aK,aL,aM,aO,aP,aQ,aR,aS,aT,aU,aV,aW,aY,aZ,ba,bc,_)))=>
some (aF,aG,aH,aI,aJ,aT,aU,aV,aW,aY,aZ,ba,bc,0,())
|some (.inr (.inr (.inl (ae,af,ag,ah,ai,aj,ak,am,an,ap,aq,av,ax,ay,az,aA,aB,aD,aE,aF,aG,aH,aI,aJ,aK,aL,aM,aO,aP,aQ,aR,aS,aT,aU,aV,aW,aY,aZ,_))))=>
some (aD,aE,aF,aG,aH,aR,aS,aT,aU,aV,aW,aY,[],0,())
|some (.inr (.inr (.inr (ae,af,ag,ah,ai,aj,ak,am,an,ap,aq,av,ax,ay,az,aA,aB,aD,aE,aF,aG,aH,aI,aJ,aK,aL,aM,aO,aP,aQ,aR,aS,aT,aU,aV,aW,aY,aZ,ba,_))))=>
some (aE,aF,aG,aH,aI,aS,aT,aU,aV,aW,aY,[],[],0,()))
def HR:X.Cfg:=⟨E0,[xY,xX,wM,m6,oW,kR,uU],[],[⟨19,0,qS [zaa 4,zaa 8,zaa 9,zaa 11,zaa 14,zaa 15,Uaa 80,Uaa 81] [(10,uab),(18,yac),(20,zag),(24,zah),(30,Zad),(32,Zaj)],[(.exit 1,qS [zaa 4,zaa 8,zaa 9,zaa 11,zaa 14,zaa 15,Uaa 80,Uaa 81,Xaa 82] [(10,uab),(18,yac),(20,zag),(24,zah),(30,Zad),(32,Zaj)])]⟩,⟨26,1,qS [zaa 4,zaa 8,zaa 9,zaa 11,zaa 14,zaa 15,Uaa 109,Uaa 110] [(10,uab),(18,yac),(20,zag),(24,zah),(30,Zad),(32,uak)],[(.exit 3,qS [zaa 4,zaa 8,zaa 9,zaa 11,zaa 14,zaa 15,Uaa 109,Uaa 110,Xaa 111] [(10,uab),(18,yac),(20,zag),(24,zah),(30,Zad),(32,uak)])]⟩,⟨7,2,qE,[(.normal,qS [zaa 8,zaa 9,zaa 11,zaa 15] [(18,yac),(20,zag),(24,zah),(32,zag)]),(.normal,qS [zaa 4,zaa 8,zaa 9,zaa 11,zaa 14,zaa 15,Uaa 109,Uaa 110,Xaa 111] [(10,uab),(18,yac),(20,zag),(24,zah),(30,Zad),(32,uak)]),(.normal,qS [zaa 4,zaa 8,zaa 9,zaa 11,zaa 14,zaa 15,Xaa 103] [(10,uab),(18,yac),(20,zag),(24,zah),(30,Zad),(32,Zaj)]),(.normal,qS [Uaa 2,zaa 4,zaa 8,zaa 9,zaa 11,zaa 14,zaa 15,Xaa 51] [(10,uab),(18,yac),(20,zag),(24,zah),(30,Zad),(32,zag)])]⟩]⟩
def Ab:Ctr:=⟨130,75,[.agg uab,.agg zac,shU I64,shU I64],[],[⟨uL [RI,CW,fA,fW,gL,I64,I64,I64,I64,I64,I64,eq,eq,I64],[.agg 5,.agg 8,.one],[]⟩],ap10 nF⟩
theorem Hh:Lk 6 Ab:=ls HR (aC ET (aC ES (aC BI (aC rH (aC sx (aC nu (aC zH aN)))))))
def jM:T2o->Option (T2o⊕T2A):=λ(v0,v1,v2,v3,v4,v5,v6,v7,v8,_)=>
bif(decide (v2<v1))then((eu v2).bind λx0=>
(dR v0 x0).bind λx1=>
bif(ek 8 0 x1.length)then let x2:List (Int):=(List.append [] x1);
bif(ek 24 v8.length (List.length [x2]))then let x3:List LI:=(List.append v8 [x2]);
let x4:=w64 (v2+1);
some (.inl (v0,v1,x4,v3,v4,v5,v6,v7,x3,()))else none else none)else
some (.inr (v0,v1,v2,false,v3,v4,v5,v6,v7,v8,()))
def nC(a0:List (Int))(a1:List LI):Option (T08):=
bif(ek 8 0 a0.length)then let x0:List (Int):=(List.append [] a0);
let x1:=dS a1.length;
(dY jM NN (a1,x1,0,a0,a1,(),(),x0,[],())).bind λ(x2,x3,x4,x5,x6,x7,x8,x9,ac)=>
some (ac)else none
def HN:X.Cfg:=⟨E0,[],[(21,(uaa I64)),(22,(uaa I64))],[(lx 4 0 [zaa 2,zaa 3,sP 11 (yaa RI),Uaa 12,Uaa 13] [(4,zaf),(6,Zab),(8,Zae)] 14)]⟩
def qL:Ctr:=⟨175,76,[.agg zaf],[],[⟨Zae,[.agg 2],[]⟩],ap2 nC⟩
theorem um:Lk 1 qL:=ls HN aN
def lu(a0:List (Int))(a1:List LI)(a2:Int)(a3:Int):Option (LI×LLI×T01):=
(nC a0 a1).bind λ(x0,x1,_)=>
(bif(decide (a2<0))then(some (a2,true,(),(),x0,x1,()))else
bif(decide (a2>=4))then(some (a2,true,(),(),x0,x1,()))else
(eu a2).bind λx2=>
(dR a0 x2).bind λx3=>
some (a2,(x3 != a3),(),(),x0,x1,()):Option (T1c)).bind λ(x2,x3,x4,x5,x6,x7,_)=>
bif x3 then(some (x6,x7,(-1),false,()))else
(eu x2).bind λx8=>
(dR x6 x8).bind λx9=>
(dR x6 x8).bind λac=>
let ae:=List.modify x6 x8 λe=>(-1);
(eu x2).bind λaf=>
(dR x7 af).bind λag=>
(dR x7 af).bind λah=>
(dR x7 af).bind λai=>
let aj:=dS ai.length;
bif(decide (aj>0))then((eu x2).bind λak=>
(dR x7 ak).bind λam=>
(dR x7 ak).bind λan=>
(dR x7 ak).bind λap=>
(dR ap 0).bind λaq=>
(dR x7 ak).bind λav=>
(dR av 0).bind λax=>
(eu x2).bind λay=>
(dR ae ay).bind λaz=>
(dR ae ay).bind λaA=>
let aB:=List.modify ae ay λe=>ax;
(eu x2).bind λaD=>
(dR x7 aD).bind λaE=>
(dR x7 aD).bind λaF=>
(dR x7 aD).bind λaG=>
bif(iz 1 aG.length aG.length)then(dR x7 aD).bind λaH=>
(eu x2).bind λaI=>
(dR x7 aI).bind λaJ=>
(dR x7 aD).bind λaK=>
(dR x7 aI).bind λaL=>
let aM:=(List.modify x7 aI λe=>(lF aK 1 (Nat.sub aG.length 1)));
(eu x2).bind λaO=>
(dR aB aO).bind λaP=>
some (aB,aM,aP,true,())else none)else
(eu x2).bind λak=>
(dR ae ak).bind λam=>
some (ae,x7,am,true,())
def HK:X.Cfg:=⟨E0,[qL],[],[⟨3,0,qE,[(.normal,qS [Uaa 1,zaa 6,zaa 9,Xaa 26] [(14,Zab),(20,Zae)])]⟩]⟩
def qK:Ctr:=⟨163,77,[.agg zaf,shU I64,shU I64],[],[⟨uL [RI,(yaa RI),I64,.bool],[.agg 2,.one,.one],[]⟩],ap4 lu⟩
theorem ul:Lk 2 qK:=ls HK (aC um aN)
def eG(a0:Int)(a1:Bool):Option (T1D):=
(bif(!a1)then(some (65535,0,0,0,0,(),0,false,()))else
some (a0,0,0,0,0,(),0,false,()):Option (Int×T1D)).bind λ(x0,_)=>
let x8:=wk .u16 x0;
some (0,x8,0,0,(),(-1),false,())
def Ff:X.Cfg:=⟨E0,[],[],[⟨1,0,qE,[(.normal,qS [Uaa 0,zaa 4] [(10,Uae)])]⟩]⟩
def mu:Ctr:=⟨176,78,uL [I64,.bool],[],[⟨Uae,[.agg 7],[]⟩],ap2 eG⟩
theorem oN:Lk 1 mu:=ls Ff aN
def pf:T36->Option (T36⊕((Int×T08)⊕(Int×Int×LLI×Int×Int×LI×T26))):=λ(v0,v1,v2,v3,v4,v5,v6,v7,v8,v9,v10,v11,v12)=>
bif(decide (v7<v6))then((eu v7).bind λx0=>
(dR v5 x0).bind λx1=>
bif(x1==v1)then(some (.inr (.inl (2,v12))))else
let x2:=w64 (v7+1);
some (.inl (v0,v1,v2,v3,v4,v5,v6,x2,v8,v9,v10,v11,v12)))else
some (.inr (.inr (v0,v1,v2,v3,v4,v5,v6,v7,false,v8,v9,v10,v11,v12)))
def pe:T2F->Option (T2F⊕((Int×T08)⊕(Int×Int×T2A))):=λ(v0,v1,v2,v3,v4,v5)=>
bif(decide (v4<v3))then((eu v4).bind λx0=>
(dR v2 x0).bind λx1=>
let x2:=dS x1.length;
(match dY pf NN (v0,v1,v2,v3,v4,x1,x2,0,v5)with
|none=>none
|some (.inl (x3,x4,x5,_))=>
some (.inr (.inl (x3,x4,x5,())))
|some (.inr (x3,x4,x5,x6,x7,x8,x9,ac,ae,af))=>
let am:=w64 (x7+1);
some (.inl (x3,x4,x5,x6,am,af))))else
some (.inr (.inr (v0,v1,v2,v3,v4,false,v5)))
def qm(a0:List (Int))(a1:List LI)(a2:Int)(a3:Int):Option (LI×LLI×Int×Unit):=
(nC a0 a1).bind λ(x0,x1,_)=>
(bif(decide (a2<0))then(some (a2,a3,true,a0,a1,(),(),x0,x1,()))else
bif(decide (a2>=4))then(some (a2,a3,true,a0,a1,(),(),x0,x1,()))else
(eu a2).bind λx2=>
(dR a0 x2).bind λx3=>
some (a2,a3,(x3==a3),a0,a1,(),(),x0,x1,()):Option (T26)).bind λ(x2,x3,x4,x5,x6,x7,x8,x9,ac,_)=>
bif x4 then(some (x9,ac,2,()))else
let ae:=dS x6.length;
(match dY pe NN (x2,x3,x6,ae,0,x5,x6,x7,x8,x9,ac,())with
|none=>none
|some (.inl (af,ag,ah,_))=>
some (ag,ah,af,())
|some (.inr (af,ag,ah,ai,aj,ak,am,an,ap,aq,av,ax,_))=>
(eu af).bind λay=>
(dR am ay).bind λaz=>
bif(az==(-1))then((eu af).bind λaA=>
(dR av aA).bind λaB=>
(dR av aA).bind λaD=>
let aE:=List.modify av aA λe=>ag;
some (aE,ax,0,()))else
(eu af).bind λaA=>
(dR ax aA).bind λaB=>
(dR ax aA).bind λaD=>
(dR ax aA).bind λaE=>
bif(ek 8 aE.length (List.length [ag]))then let aF:List (Int):=(List.append aE [ag]);
(eu af).bind λaG=>
(dR ax aG).bind λaH=>
(dR ax aG).bind λaI=>
bif(Nat.beq aG aA)then let aJ:List LI:=(List.modify ax aG λe=>aF);
some (av,aJ,1,())else none else none)
def HJ:X.Cfg:=⟨E0,[qL],[],[⟨3,0,qE,[(.normal,qS [Uaa 1,Uaa 2,zaa 3,zaa 6,zaa 8,Xaa 29] [(8,zaf),(14,Zab),(18,Zae)])]⟩,⟨13,1,qS [Uaa 1,Uaa 2,zaa 3,zaa 6,zaa 8,sP 32 (yaa RI),Uaa 33,Uaa 34,sP 38 RI,Uaa 39,Uaa 40] [(8,zaf),(14,Zab),(18,Zae)],[(.ret,qS [zaa 6,Uaa 7] [(14,Zae)]),(.exit 2,qS [Uaa 1,Uaa 2,zaa 3,zaa 6,zaa 8,sP 32 (yaa RI),Uaa 33,Uaa 34,sP 38 RI,Uaa 39,Uaa 40,Xaa 41] [(8,zaf),(14,Zab),(18,Zae)])]⟩,⟨7,2,qS [Uaa 1,Uaa 2,zaa 3,zaa 6,zaa 8,sP 32 (yaa RI),Uaa 33,Uaa 34] [(8,zaf),(14,Zab),(18,Zae)],[(.ret,qS [zaa 6,Uaa 7] [(14,Zae)]),(.exit 0,qS [Uaa 1,Uaa 2,zaa 3,zaa 6,zaa 8,sP 32 (yaa RI),Uaa 33,Uaa 34,Xaa 35] [(8,zaf),(14,Zab),(18,Zae)])]⟩]⟩
def zZ:Ctr:=⟨177,79,[.agg zaf,shU I64,shU I64],[],[⟨uL [(uaa I64),(uaa (uaa I64)),I64],[.agg 2,.one],[]⟩],ap4 qm⟩
theorem He:Lk 2 zZ:=ls HJ (aC um aN)
def lW(a0:Int)(a1:Int)(a2:Int)(a3:Int)(a4:Int)(a5:Int)(a6:LDCn)(a7:LDCn):Option (Bool×Unit):=
bif(decide (a0>=0))then(bif(decide (a0<4))then(bif(decide (a1>=0))then(bif(decide (a1<=3))then(bif(decide (a2>=0))then(bif(decide (a2<=6))then(bif(decide (a3>=0))then(bif(decide (a3<=1099511627776))then(bif(decide (a4>=0))then(bif(decide (a4<=255))then(bif(decide (a5>=0))then(bif(decide (a5<=15))then((fw a6 3).bind λ(x0,_)=>
bif x0 then((fw a7 16).bind λ(x1,_)=>
some (x1,()))else
some (false,()))else
some (false,()))else
some (false,()))else
some (false,()))else
some (false,()))else
some (false,()))else
some (false,()))else
some (false,()))else
some (false,()))else
some (false,()))else
some (false,()))else
some (false,()))else
some (false,())
def Fr:X.Cfg:=⟨E0,[is],[],[]⟩
def sQ:Ctr:=⟨179,80,[.agg uad],[],[⟨zab,[.one],[]⟩],ap8 lW⟩
theorem xu:Lk 3 sQ:=ls Fr (aC je aN)
def tU(a0:Int):Option (Bool×Unit):=
bif(decide (a0>=1))then(bif(decide (a0<=7))then(some (true,()))else
bif(a0==13)then(some (true,()))else
some ((a0==14),()))else
bif(a0==13)then(some (true,()))else
some ((a0==14),())
def HA:X.Cfg:=⟨E0,[],[],[]⟩
def zU:Ctr:=⟨189,81,Uac,[],[⟨zab,[.one],[]⟩],ap1 tU⟩
theorem G8:Lk 1 zU:=ls HA aN
def jk:T2N->Option (T2N⊕((Bool×Unit)⊕(ByteArray×LDCn×Int×Int×Bool×T1S))):=λ(v0,v1,v2,v3,v4)=>
bif(decide (v3<v2))then((eu v3).bind λx0=>
(dR v1 x0).bind λx1=>
(eu v3).bind λx2=>
(DQ v0 x2).bind λx3=>
(nE x3 x1.1).bind λ(x4,_)=>
bif(!x4)then(some (.inr (.inl (false,()))))else
let x5:=w64 (v3+1);
some (.inl (v0,v1,v2,x5,v4)))else
some (.inr (.inr (v0,v1,v2,v3,false,v4)))
def ou(a0:Int)(a1:Int)(a2:Int)(a3:Int)(a4:Int)(a5:Int)(a6:LDCn)(a7:LDCn):Option (Bool×Unit):=
(lV a5).bind λ(x0,_)=>
let x1:=Es x0;
let x2:=dS a6.length;
bif(x1 != x2)then(some (false,()))else
let x3:=dS a6.length;
(match dY jk NN (x0,a6,x3,0,a0,a1,a2,a3,a4,a5,a6,a7,())with
|none=>none
|some (.inl (x4,_))=>
some (x4,())
|some (.inr (x4,_))=>
some (true,()))
def Fs:X.Cfg:=⟨E0,[oU,uN],[],[⟨7,0,qS [sP 3 .str,sP 16 eq,Uaa 17,Uaa 18] [(4,uad)],[(.ret,qS [Xaa 2] []),(.exit 0,qS [sP 3 .str,sP 16 eq,Uaa 17,Uaa 18,Xaa 19] [(4,uad)])]⟩]⟩
def xW:Ctr:=⟨190,82,[.agg uad],[],[⟨zab,[.one],[]⟩],ap8 ou⟩
theorem ER:Lk 2 xW:=ls Fs (aC su (aC zC aN))
def iY(a0:List LDCn)(a1:LDOp)(a2:Int):Option (Bool×Unit):=
bif(decide (a2>=0))then(let x0:Int:=(dS a1.length);
bif(decide (a2<x0))then((eu a2).bind λx1=>
(dR a1 x1).bind λx2=>
some ((x2.1 != (-1)),()))else
some (false,()))else
some (false,())
def HD:X.Cfg:=⟨E0,[],[],[]⟩
def nO:Ctr:=⟨204,83,[.agg zad,shU I64],[],[⟨zab,[.one],[]⟩],ap3 iY⟩
theorem qB:Lk 1 nO:=ls HD aN
def tg:T2I->Option (T2I⊕(LDCn×Nat×Int×Int×Int×Bool×T1x)):=λ(v0,v1,v2,v3,v4,v5,v6,v7,v8,v9,v10,_)=>
bif(decide (v4<v3))then(((dR v9 v1).bind λx0=>
let x1:=w64 (x0.2.1+v4);
let x2:=dS v10.length;
bif(decide (x1<x2))then((dR v9 v1).bind λx3=>
let x4:=w64 (x3.2.1+v4);
(eu v4).bind λx5=>
(dR v0 x5).bind λx6=>
(eu x4).bind λx7=>
(dR v10 x7).bind λx8=>
(dR v10 x7).bind λx9=>
let ac:=(List.modify v10 x7 λe=>(x6.1,(x6.2.1,(x6.2.2.1,x6.2.2.2))));
some (v0,v1,v2,v3,v4,v5,v6,v7,v8,v9,ac,()))else
(eu v4).bind λx3=>
(dR v0 x3).bind λx4=>
let x5:LDCn:=[(x4.1,(x4.2.1,(x4.2.2.1,x4.2.2.2)))];
bif(ek 24 v10.length x5.length)then let x6:LDCn:=(List.append v10 x5);
some (v0,v1,v2,v3,v4,v5,v6,v7,v8,v9,x6,())else none:Option (T2I)).bind λ(x0,x1,x2,x3,x4,x5,x6,x7,x8,x9,ac,_)=>
let ae:=w64 (x4+1);
some (.inl (x0,x1,x2,x3,ae,x5,x6,x7,x8,x9,ac,())))else
some (.inr (v0,v1,v2,v3,v4,false,v5,v6,v7,v8,v9,v10,()))
def oo(a0:List LDCn)(a1:LDOp)(a2:Int)(a3:LDCn):Option (LLCn×LDOp×T01):=
(hY a0 a1).bind λ(x0,x1,_)=>
((iY a0 a1 a2).bind λ(x2,_)=>
bif(!x2)then(some (a2,a3,true,(),(),x0,x1,()))else
(eu a2).bind λx3=>
(dR a1 x3).bind λx4=>
bif(!x4.2.2)then(some (a2,a3,true,(),(),x0,x1,()))else
let x5:=dS a3.length;
(fw a3 x5).bind λ(x6,_)=>
some (a2,a3,(!x6),(),(),x0,x1,()):Option (Int×LDCn×T0T)).bind λ(x2,x3,x4,x5,x6,x7,x8,_)=>
bif x4 then(some (x7,x8,0,false,()))else
(eu x2).bind λx9=>
(dR x8 x9).bind λac=>
let ae:=dS x3.length;
(dR x8 x9).bind λaf=>
let ag:=w64 (64-af.2.1);
let ah:=mmR false ae ag;
(dR x8 x9).bind λai=>
(eu ai.1).bind λaj=>
(dR x7 aj).bind λak=>
(dR x7 aj).bind λam=>
(dR x7 aj).bind λan=>
(dY tg NN (x3,x9,ah,ah,0,x5,x6,x7,aj,x8,an,())).bind λ(ap,aq,av,ax,ay,az,aA,aB,aD,aE,aF,aG,_)=>
(dR aF aq).bind λaH=>
(eu aH.1).bind λaI=>
(dR aD aI).bind λaJ=>
(dR aD aI).bind λaK=>
bif(Nat.beq aI aE)then let aL:List LDCn:=(List.modify aD aI λe=>aG);
(dR aF aq).bind λaM=>
let aO:=w64 (aM.2.1+av);
(dR aF aq).bind λaP=>
let aQ:=(List.modify aF aq λe=>(e.1,(aO,e.2.2)));
some (aL,aQ,av,true,())else none
def Fi:X.Cfg:=⟨E0,[j0,nO,is],[],[⟨3,0,qE,[(.normal,qS [Uaa 1,sP 2 eq,zaa 6,zaa 9,Xaa 35] [(14,Zab),(20,uaf)])]⟩,⟨13,1,qE,[(.normal,(qS [sP 2 eq,zaa 6,zaa 9,(10,.ptr ⟨20,1,[((),(3,0))]⟩ [0,0]),Uaa 11,Zaa 12 27,Uaa 57,Uaa 58] [(14,Zab),(20,[.gap (uaa KCn) () () 0,shU (uaa KOp)]),(27,uag)]))]⟩,(lx 10 2 [sP 2 eq,zaa 6,zaa 9,(10,.ptr ⟨20,1,[((),(3,0))]⟩ [0,0]),Uaa 11,Zaa 12 27,Uaa 57,Uaa 58] [(14,Zab),(20,[.gap (uaa KCn) () () 0,shU (uaa KOp)]),(27,uag)] 59)]⟩
def xT:Ctr:=⟨191,84,[.agg zad,shU I64,shU eq],[],[⟨uL [(uaa (uaa KCn)),(uaa KOp),I64,.bool],[.agg 2,.one,.one],[]⟩],ap4 oo⟩
theorem EO:Lk 3 xT:=ls Fi (aC lB (aC qB (aC je aN)))
def qk(a0:List LDCn)(a1:LDOp)(a2:Int)(a3:Int):Option ((LLCn×LDOp×Unit×Bool×Unit)⊕(LLCn×LDOp×LDCn×Bool×Unit)):=
(hY a0 a1).bind λ(x0,x1,_)=>
((iY a0 a1 a2).bind λ(x2,_)=>
bif(!x2)then(some (a2,a3,true,a0,a1,(),(),x0,x1,()))else
bif(decide (a3<0))then(some (a2,a3,true,a0,a1,(),(),x0,x1,()))else
(eu a2).bind λx3=>
(dR a1 x3).bind λx4=>
some (a2,a3,x4.2.2,a0,a1,(),(),x0,x1,()):Option (T27)).bind λ(x2,x3,x4,x5,x6,x7,x8,x9,ac,_)=>
bif x4 then(some (.inl (x9,ac,(),false,())))else
(eu x2).bind λae=>
(dR ac ae).bind λaf=>
(dR ac ae).bind λag=>
(eu ag.1).bind λah=>
(dR x9 ah).bind λai=>
(dR x9 ah).bind λaj=>
(dR x9 ah).bind λak=>
let am:=dS ak.length;
(dR ac ae).bind λan=>
let ap:=w64 (am-an.2.1);
let aq:=mmR false x3 ap;
(dR ac ae).bind λav=>
(dR ac ae).bind λax=>
let ay:=w64 (ax.2.1+aq);
(eu av.2.1).bind λaz=>
(eu ay).bind λaA=>
bif(iz az aA ak.length)then let aB:LDCn:=(lF ak az (Nat.sub aA az));
bif(ek 24 0 aB.length)then let aD:LDCn:=(List.append [] aB);
(dR ac ae).bind λaE=>
let aF:=w64 (aE.2.1+aq);
(dR ac ae).bind λaG=>
let aH:=(List.modify ac ae λe=>(e.1,(aF,e.2.2)));
some (.inr (x9,aH,aD,true,()))else none else none
def HF:X.Cfg:=⟨E0,[j0,nO],[],[⟨3,0,qE,[(.normal,qS [Uaa 1,Uaa 2,zaa 6,zaa 9,Xaa 31] [(8,zad),(14,Zab),(20,uaf)])]⟩]⟩
def zX:Ctr:=⟨192,85,[.agg zad,shU I64,shU I64],[],[⟨uL [(uaa (uaa KCn)),(uaa KOp),N1,.bool],[.agg 2,.one,.one],[]⟩,⟨uL [(uaa eq),(uaa KOp),(uaa KCn),.bool],[.agg 2,.one,.one],[]⟩],ap4 qk⟩
theorem Hb:Lk 2 zX:=ls HF (aC lB (aC qB aN))
def tW:T2b->Option (T2b⊕(Int×T27)):=λ(v0,v1,v2,v3,v4,v5)=>
let x0:=dS v4.length;
bif(decide (v2<x0))then((eu v2).bind λx1=>
(dR v4 x1).bind λx2=>
bif(x2.1 != (-1))then(let x3:Int:=(w64 (v2+1));
some (.inl (v0,v1,x3,v3,v4,v5)))else
some (.inr (v0,v1,v2,false,v3,v4,v5)))else
some (.inr (v0,v1,v2,false,v3,v4,v5))
def tV:T2a->Option (T2a⊕(Int×Int×T1Q)):=λ(v0,v1,v2,v3,v4,v5,v6,v7,v8,_)=>
bif(decide (v4<v3))then(((eu v4).bind λx0=>
(dR v8 x0).bind λx1=>
(dR v8 x0).bind λx2=>
bif(x2.1==v0)then((eu v4).bind λx3=>
(dR v8 x3).bind λx4=>
(dR v8 x3).bind λx5=>
let x6:=(List.modify v8 x3 λe=>(e.1,(0,e.2.2)));
some (v0,v1,v2,v3,v4,v5,v6,v7,x6,()))else
some (v0,v1,v2,v3,v4,v5,v6,v7,v8,()):Option (T2a)).bind λ(x0,x1,x2,x3,x4,x5,x6,x7)=>
let x9:=w64 (x4+1);
some (.inl (x0,x1,x2,x3,x9,x5,x6,x7)))else
some (.inr (v0,v1,v2,v3,v4,false,v5,v6,v7,v8,()))
def ql(a0:List LDCn)(a1:LDOp)(a2:Int)(a3:Int):Option (LLCn×LDOp×Int×Unit):=
(hY a0 a1).bind λ(x0,x1,_)=>
(dY tW NN (a2,a3,0,a0,a1,(),(),x0,x1,())).bind λ(x2,x3,x4,x5,x6,x7,x8)=>
(bif(decide (x2<0))then(some (x2,x3,x4,true,x8))else
let af:=dS x6.length;
bif(decide (x2>=af))then(some (x2,x3,x4,true,x8))else
bif(decide (x3<0))then(some (x2,x3,x4,true,x8))else
bif(decide (x3>2))then(some (x2,x3,x4,true,x8))else
let ag:=dS x7.length;
some (x2,x3,x4,(x4==ag),x8):Option (T1Q)).bind λ(af,ag,ah,ai,aj,ak,am,an,_)=>
bif ai then(some (am,an,(-1),()))else
bif(ag==1)then((eu af).bind λap=>
(dR am ap).bind λaq=>
(dR am ap).bind λav=>
let ax:=List.modify am ap λe=>[];
let ay:=dS an.length;
(dY tV NN (af,ag,ah,ay,0,aj,ak,ax,an,())).bind λ(az,aA,aB,aD,aE,aF,aG,aH,aI,aJ,_)=>
(eu aB).bind λaK=>
(dR aJ aK).bind λaL=>
(dR aJ aK).bind λaM=>
let aO:=(List.modify aJ aK λe=>(az,(0,(decide (aA>0)))));
(bif(aA==2)then((eu az).bind λaP=>
(dR aI aP).bind λaQ=>
(dR aI aP).bind λaR=>
(dR aI aP).bind λaS=>
let aT:=dS aS.length;
(eu aB).bind λaU=>
(dR aO aU).bind λaV=>
(dR aO aU).bind λaW=>
let aY:=(List.modify aO aU λe=>(e.1,(aT,e.2.2)));
some (aB,aG,aH,aI,aY,()))else
some (aB,aG,aH,aI,aO,()):Option (T0Z)).bind λ(aP,aQ,aR,aS,aT,_)=>
some (aS,aT,aP,()))else
(eu ah).bind λap=>
(dR an ap).bind λaq=>
(dR an ap).bind λav=>
let ax:=(List.modify an ap λe=>(af,(0,(decide (ag>0)))));
(bif(ag==2)then((eu af).bind λay=>
(dR am ay).bind λaz=>
(dR am ay).bind λaA=>
(dR am ay).bind λaB=>
let aD:=dS aB.length;
(eu ah).bind λaE=>
(dR ax aE).bind λaF=>
(dR ax aE).bind λaG=>
let aH:=(List.modify ax aE λe=>(e.1,(aD,e.2.2)));
some (ah,aj,ak,am,aH,()))else
some (ah,aj,ak,am,ax,()):Option (T0Z)).bind λ(ay,az,aA,aB,aD,_)=>
some (aB,aD,ay,())
def HG:X.Cfg:=⟨E0,[j0],[],[(lx 4 0 [Uaa 1,Uaa 2,zaa 3,zaa 6,zaa 8,Uaa 9] [(8,zad),(14,Zab),(18,uaf)] 26),⟨8,1,qE,[(.normal,qS [Uaa 1,Uaa 2,zaa 6,zaa 8,Uaa 9,Xaa 52] [(14,Zab),(18,uaf)])]⟩,⟨17,2,qE,[(.normal,qS [Uaa 1,Uaa 2,zaa 6,zaa 8,Uaa 9,Uaa 62,Uaa 63] [(14,Zab),(18,uaf)])]⟩,⟨14,3,qS [Uaa 1,Uaa 2,zaa 6,zaa 8,Uaa 9,Uaa 62,Uaa 63] [(14,Zab),(18,uaf)],[(.exit 2,qS [Uaa 1,Uaa 2,zaa 6,zaa 8,Uaa 9,Uaa 62,Uaa 63,Xaa 64] [(14,Zab),(18,uaf)])]⟩,⟨21,4,qE,[(.normal,qS [zaa 6,zaa 8,Uaa 9] [(14,Zab),(18,uaf)])]⟩]⟩
def zY:Ctr:=⟨193,86,[.agg zad,shU I64,shU I64],[],[⟨Uak,[.agg 2,.one],[]⟩],ap4 ql⟩
theorem Hd:Lk 2 zY:=ls HG (aC lB aN)
def oq(a0:List LDCn)(a1:LDOp)(a2:Int):Option (LLCn×LDOp×Bool×Unit):=
(hY a0 a1).bind λ(x0,x1,_)=>
(iY a0 a1 a2).bind λ(x2,_)=>
bif(!x2)then(some (x0,x1,false,()))else
(eu a2).bind λx3=>
(dR x1 x3).bind λx4=>
(dR x1 x3).bind λx5=>
let x6:=(List.modify x1 x3 λe=>((-1),(0,false)));
some (x0,x6,true,())
def Fk:X.Cfg:=⟨E0,[j0,nO],[],[]⟩
def xU:Ctr:=⟨194,87,[.agg zad,shU I64],[],[⟨ual,[.agg 2,.one],[]⟩],ap3 oq⟩
theorem EP:Lk 2 xU:=ls Fk (aC lB (aC qB aN))
def qj(a0:List LDCn)(a1:LDOp)(a2:Int)(a3:Int):Option (LLCn×LDOp×Bool×Unit):=
(hY a0 a1).bind λ(x0,x1,_)=>
((iY a0 a1 a2).bind λ(x2,_)=>
bif(!x2)then(some (a2,a3,true,(),(),x0,x1,()))else
bif(decide (a3<0))then(some (a2,a3,true,(),(),x0,x1,()))else
(eu a2).bind λx3=>
(dR a1 x3).bind λx4=>
(eu x4.1).bind λx5=>
(dR a0 x5).bind λx6=>
let x7:=dS x6.length;
some (a2,a3,(decide (a3>x7)),(),(),x0,x1,()):Option (T1B)).bind λ(x2,x3,x4,x5,x6,x7,x8,_)=>
bif x4 then(some (x7,x8,false,()))else
(eu x2).bind λx9=>
(dR x8 x9).bind λac=>
(dR x8 x9).bind λae=>
let af:=(List.modify x8 x9 λe=>(e.1,(x3,e.2.2)));
some (x7,af,true,())
def HE:X.Cfg:=⟨E0,[j0,nO],[],[⟨3,0,qE,[(.normal,qS [Uaa 1,Uaa 2,zaa 6,zaa 8,Xaa 33] [(14,Zab),(18,uaf)])]⟩]⟩
def zW:Ctr:=⟨195,88,[.agg zad,shU I64,shU I64],[],[⟨ual,[.agg 2,.one],[]⟩],ap4 qj⟩
theorem Ha:Lk 2 zW:=ls HE (aC lB (aC qB aN))
def qi(a0:LDOu)(a1:Int)(a2:LDCn):Option (LDOu×T01):=
(lr a0).bind λ(x0,_)=>
(bif(decide (a1<0))then(some (a0,a1,a2,true,x0,()))else
bif(decide (a1>=2))then(some (a0,a1,a2,true,x0,()))else
let x1:=dS a0.length;
bif(decide (x1>=200))then(some (a0,a1,a2,true,x0,()))else
let x2:=dS a2.length;
some (a0,a1,a2,(decide (x2>16)),x0,()):Option (LDOu×Int×LDCn×Bool×LDOu×Unit)).bind λ(x1,x2,x3,x4,x5,_)=>
bif x4 then(some (x5,0,false,()))else
let x6:=dS x1.length;
bif(ek 24 0 x3.length)then let x7:LDCn:=(List.append [] x3);
let x8:LDOu:=[(x6,(x2,x7))];
bif(ek 40 x5.length x8.length)then let x9:LDOu:=(List.append x5 x8);
let ac:=dS x3.length;
some (x9,ac,true,())else none else none
def HB:X.Cfg:=⟨E0,[uI],[(36,Kf),(37,Kf)],[⟨3,0,qE,[(.normal,qS [sP 0 kE,Uaa 1,sP 2 eq,Zaa 9 21,Xaa 27] [(21,Uaj)])]⟩]⟩
def zV:Ctr:=⟨196,89,uL [kE,I64,eq],[],[⟨uL [(uaa Kf),I64,.bool],[.one,.one,.one],[]⟩],ap3 qi⟩
theorem G9:Lk 2 zV:=ls HB (aC zA aN)
def hU:T1F->Option (T1F⊕(Int×Int×LI×Int×Int×Bool×LLI×LDCn×Unit)):=λ(v0,v1,v2,v3,v4,v5,v6,_)=>
bif(decide (v4<v3))then((eu v4).bind λx0=>
(dR v2 x0).bind λx1=>
let x2:LDCn:=[(0,(x1,(0,0)))];
bif(ek 24 v6.length x2.length)then let x3:LDCn:=(List.append v6 x2);
let x4:=w64 (v4+1);
some (.inl (v0,v1,v2,v3,x4,v5,x3,()))else none)else
some (.inr (v0,v1,v2,v3,v4,false,v5,v6,()))
def lQ(a0:List LI)(a1:Int)(a2:Int):Option ((LLI×Unit×Bool×Unit)⊕(LLI×LDCn×Bool×Unit)):=
(gf a0).bind λ(x0,_)=>
(bif(decide (a1<0))then(some (a0,a1,a2,true,x0,()))else
let x1:=dS a0.length;
bif(decide (a1>=x1))then(some (a0,a1,a2,true,x0,()))else
some (a0,a1,a2,(decide (a2<0)),x0,()):Option (LLI×Int×Int×Bool×LLI×Unit)).bind λ(x1,x2,x3,x4,x5,_)=>
bif x4 then(some (.inl (x5,(),false,())))else
(eu x2).bind λx6=>
(dR x1 x6).bind λx7=>
let x8:=dS x7.length;
let x9:=mmR false x3 x8;
(eu x2).bind λac=>
(dR x1 ac).bind λae=>
(eu x9).bind λaf=>
bif(iz 0 af ae.length)then let ag:List (Int):=(lF ae 0 (Nat.sub af 0));
let ah:=dS ag.length;
(dY hU NN (x2,x9,ag,ah,0,x5,[],())).bind λ(ai,aj,ak,am,an,ap,aq,av,_)=>
(eu ai).bind λax=>
(dR aq ax).bind λay=>
(dR aq ax).bind λaz=>
(dR aq ax).bind λaA=>
(eu aj).bind λaB=>
bif(iz aB aA.length aA.length)then(dR aq ax).bind λaD=>
(eu ai).bind λaE=>
(dR aq aE).bind λaF=>
(dR aq ax).bind λaG=>
(dR aq aE).bind λaH=>
let aI:=(List.modify aq aE λe=>(lF aG aB (Nat.sub aA.length aB)));
some (.inr (aI,av,true,()))else none else none
def BW:X.Cfg:=⟨E0,[jI],[],[⟨3,0,qE,[(.normal,qS [sP 0 (yaa RW),Uaa 1,Uaa 2,Zaa 9 21,Xaa 27] [(21,Xai)])]⟩,(lx 9 1 [Uaa 1,Zaa 9 21,Uaa 10,Zaa 11 25,sP 41 RW,Uaa 42,Uaa 43] [(21,Xai),(25,uag)] 44)]⟩
def uG:Ctr:=⟨197,90,uL [(yaa RW),I64,I64],[],[⟨uL [(uaa (uaa CW)),N1,.bool],[.one,.one,.one],[]⟩,⟨uL [(uaa RW),(uaa KCn),.bool],[.one,.one,.one],[]⟩],ap3 lQ⟩
theorem BD:Lk 2 uG:=ls BW (aC ml aN)
def wV:T44->Option (T44⊕(LDCn×Int×Int×Bool×T3V)):=λ(v0,v1,v2,v3,v4,v5,v6,v7,v8,v9,v10,v11,v12,v13,v14,v15,v16,v17,v18,v19,v20,v21,v22,v23,v24,v25,v26,v27,v28,v29,v30,v31,v32,v33,v34,v35,v36,_)=>
bif(decide (v2<v1))then((eu v2).bind λx0=>
(dR v0 x0).bind λx1=>
let x2:=wk .i64 x1.2.1;
(eu v2).bind λx3=>
(dR v36 x3).bind λx4=>
(dR v36 x3).bind λx5=>
let x6:=List.modify v36 x3 λe=>x2;
let x7:=w64 (v2+1);
some (.inl (v0,v1,x7,v3,v4,v5,v6,v7,v8,v9,v10,v11,v12,v13,v14,v15,v16,v17,v18,v19,v20,v21,v22,v23,v24,v25,v26,v27,v28,v29,v30,v31,v32,v33,v34,v35,x6,())))else
some (.inr (v0,v1,v2,false,v3,v4,v5,v6,v7,v8,v9,v10,v11,v12,v13,v14,v15,v16,v17,v18,v19,v20,v21,v22,v23,v24,v25,v26,v27,v28,v29,v30,v31,v32,v33,v34,v35,v36,()))
def ro(a0:List (Int))(a1:List (Int))(a2:List LI)(a3:List LDCn)(a4:LDOp)(a5:LDOu)(a6:Int)(a7:Int)(a8:Int)(a9:Int)(a10:Int)(a11:Int)(a12:LDCn)(a13:LDCn):Option (LI×LI×LLI×LLCn×LDOp×LDOu×Int×Int×Int×Int×LDCn×Int×Bool×Int×Unit):=
((j9 a0 a1 a2 a3 a4 a5).bind λ(x0,_)=>
bif(!x0)then(some (true,a0,a1,a2,a3,a4,a5,a6,a7,a8,a9,a10,a11,a12,a13,(),(),(),(),(),(),0,0,0,0,(),0,false,()))else
(lW a6 a7 a8 a9 a10 a11 a12 a13).bind λ(x1,_)=>
bif(!x1)then(some (true,a0,a1,a2,a3,a4,a5,a6,a7,a8,a9,a10,a11,a12,a13,(),(),(),(),(),(),0,0,0,0,(),0,false,()))else
bif(a7 != 1)then(some (true,a0,a1,a2,a3,a4,a5,a6,a7,a8,a9,a10,a11,a12,a13,(),(),(),(),(),(),0,0,0,0,(),0,false,()))else
(tU a11).bind λ(x2,_)=>
bif(!x2)then(some (true,a0,a1,a2,a3,a4,a5,a6,a7,a8,a9,a10,a11,a12,a13,(),(),(),(),(),(),0,0,0,0,(),0,false,()))else
(ou a6 a7 a8 a9 a10 a11 a12 a13).bind λ(x3,_)=>
bif(!x3)then(some (true,a0,a1,a2,a3,a4,a5,a6,a7,a8,a9,a10,a11,a12,a13,(),(),(),(),(),(),0,0,0,0,(),0,false,()))else
(jz a11).bind λ(x4,_)=>
bif(x4==2)then((dR a12 2).bind λx5=>
some ((decide (x5.2.1>16)),a0,a1,a2,a3,a4,a5,a6,a7,a8,a9,a10,a11,a12,a13,(),(),(),(),(),(),0,0,0,0,(),0,false,()))else
some (false,a0,a1,a2,a3,a4,a5,a6,a7,a8,a9,a10,a11,a12,a13,(),(),(),(),(),(),0,0,0,0,(),0,false,()):Option (Bool×LI×LI×LLI×LLCn×LDOp×LDOu×Int×Int×Int×Int×Int×Int×LDCn×LDCn×Unit×Unit×Unit×Unit×Unit×Unit×T1D)).bind λ(x0,x1,x2,x3,x4,x5,x6,x7,x8,x9,ac,ae,af,ag,ah,ai,aj,ak,am,an,ap,aq,av,ax,ay,az,aA,aB,_)=>
bif x0 then(some ([],[],[],[],[],[],0,0,0,0,[],0,false,1,()))else
(qh x1 x2 x3 x4 x5 x6).bind λ(aD,aE,aF,aG,aH,aI,_)=>
let aJ:List (Int):=[0,0,0];
let aK:=dS ag.length;
(dY wV NN (ag,aK,0,x1,x2,x3,x4,x5,x6,x7,x8,x9,ac,ae,af,ag,ah,ai,aj,ak,am,an,ap,aq,av,ax,ay,az,aA,aB,aD,aE,aF,aG,aH,aI,aJ,())).bind λ(aL,aM,aO,aP,aQ,aR,aS,aT,aU,aV,aW,aY,aZ,ba,bc,bd,bf,bg,bh,bi,bj,bk,bm,bn,bo,bp,bq,bt,bv,bx,bA,bB,bC,bD,bE,bF,bG,bH,_)=>
(eG 0 false).bind λ(bI,bJ,bK,bL,bM)=>
(match(bif(bd==1)then((dR bH 0).bind λbP=>
(dR bH 0).bind λbQ=>
(oo aT aU bQ bg).bind λ(bR,bS,bT,bU,_)=>
(eG bT bU).bind λ(bV,bW,bY,bZ,ca,cf,cg,_)=>
some (.inl (bh,bi,bj,bk,bm,bn,bo,bp,bq,bt,bv,bx,bA,bB,bC,bD,bR,bS,bG,bV,bW,bY,bZ,[],cf,cg,())))else
bif(bd==2)then((dR bH 0).bind λbP=>
(dR bH 0).bind λbQ=>
(dR bH 2).bind λbR=>
(dR bH 2).bind λbS=>
(match qk aT aU bQ bS with
|none=>none
|some (.inl (bT,bU,bV,bW,_))=>
(eG 0 bW).bind λ(bY,bZ,ca,cf,cg,ch,ci,_)=>
some (.inl (bh,bi,bj,bk,bm,bn,bo,bp,bq,bt,bv,bx,bA,bB,bC,bD,bT,bU,bG,bY,bZ,ca,cf,[],ch,ci,()))
|some (.inr (bT,bU,bV,bW,_))=>
let bY:=dS bV.length;
(eG bY bW).bind λ(bZ,ca,cf,cg,ch,ci,cj,_)=>
some (.inl (bh,bi,bj,bk,bm,bn,bo,bp,bq,bt,bv,bx,bA,bB,bC,bD,bT,bU,bG,bZ,ca,cf,cg,bV,ci,cj,()))))else
bif(bd==3)then((dR bH 0).bind λbP=>
(dR bH 0).bind λbQ=>
(dR bH 1).bind λbR=>
(dR bH 1).bind λbS=>
(ql aT aU bQ bS).bind λ(bT,bU,bV,_)=>
bif(decide (bV>=0))then(let bW:Int:=(wk .u16 bV);
some (.inr (.inl (bh,bi,bj,bk,bm,bn,bo,bp,bq,bt,bv,bx,bA,bB,bC,bD,bT,bU,bG,2,bW,0,0,bM))))else
some (.inr (.inl (bh,bi,bj,bk,bm,bn,bo,bp,bq,bt,bv,bx,bA,bB,bC,bD,bT,bU,bG,bI,bJ,bK,bL,bM))))else
bif(bd==4)then((dR bH 0).bind λbP=>
(dR bH 0).bind λbQ=>
(oq aT aU bQ).bind λ(bR,bS,bT,_)=>
(eG 0 bT).bind λ(bU,bV,bW,bY,bZ,ca,cf,_)=>
some (.inl (bh,bi,bj,bk,bm,bn,bo,bp,bq,bt,bv,bx,bA,bB,bC,bD,bR,bS,bG,bU,bV,bW,bY,[],ca,cf,())))else
bif(bd==5)then((dR bH 0).bind λbP=>
(dR bH 0).bind λbQ=>
(dR bH 1).bind λbR=>
(dR bH 1).bind λbS=>
(qj aT aU bQ bS).bind λ(bT,bU,bV,_)=>
(eG 0 bV).bind λ(bW,bY,bZ,ca,cf,cg,ch,_)=>
some (.inl (bh,bi,bj,bk,bm,bn,bo,bp,bq,bt,bv,bx,bA,bB,bC,bD,bT,bU,bG,bW,bY,bZ,ca,[],cg,ch,())))else
bif(bd==6)then(let bP:Int:=(dS aQ.length);
bif(decide (bP>0))then((dR aQ 0).bind λbQ=>
let bR:=wk .i64 bQ;
(eG bR true).bind λ(bS,bT,bU,bV,bW,bY,bZ,_)=>
bif(iz 1 bB.length bB.length)then let ca:List (Int):=(lF bB 1 (Nat.sub bB.length 1));
some (.inr (.inr (.inl (bh,bi,bj,bk,bm,bn,bo,bp,bq,bt,bv,bx,bA,ca,bC,bD,bE,bF,bG,bS,bT,bU,bV,bW,bY,bZ,()))))else none)else
some (.inr (.inl (bh,bi,bj,bk,bm,bn,bo,bp,bq,bt,bv,bx,bA,bB,bC,bD,bE,bF,bG,bI,bJ,bK,bL,bM))))else
bif(bd==7)then(let bP:Int:=(dS aR.length);
bif(decide (bP>0))then((dR aR 0).bind λbQ=>
let bR:=wk .i64 bQ;
(eG bR true).bind λ(bS,bT,bU,bV,bW,bY,bZ,_)=>
bif(iz 1 bC.length bC.length)then let ca:List (Int):=(lF bC 1 (Nat.sub bC.length 1));
some (.inr (.inr (.inr (.inl (bh,bi,bj,bk,bm,bn,bo,bp,bq,bt,bv,bx,bA,bB,ca,bD,bE,bF,bG,bS,bT,bU,bV,bW,bY,bZ,())))))else none)else
some (.inr (.inl (bh,bi,bj,bk,bm,bn,bo,bp,bq,bt,bv,bx,bA,bB,bC,bD,bE,bF,bG,bI,bJ,bK,bL,bM))))else
bif(bd==13)then((dR bH 0).bind λbP=>
(dR bH 0).bind λbQ=>
(qi aV bQ bg).bind λ(bR,bS,bT,_)=>
(eG bS bT).bind λ(bU,bV,bW,bY,bZ,ca,cf,_)=>
some (.inr (.inl (bh,bi,bj,bk,bm,bn,bo,bp,bq,bt,bv,bx,bA,bB,bC,bD,bE,bF,bR,bU,bV,bW,bY,bZ,ca,cf,()))))else
bif(bd==14)then((dR bH 0).bind λbP=>
(dR bH 0).bind λbQ=>
(dR bH 2).bind λbR=>
(dR bH 2).bind λbS=>
(match lQ aS bQ bS with
|none=>none
|some (.inl (bT,bU,bV,_))=>
(eG 0 bV).bind λ(bW,bY,bZ,ca,cf,cg,ch,_)=>
some (.inr (.inl (bh,bi,bj,bk,bm,bn,bo,bp,bq,bt,bv,bx,bA,bB,bC,bT,bE,bF,bG,bW,bY,bZ,ca,bU,cg,ch,())))
|some (.inr (bT,bU,bV,_))=>
let bW:=dS bU.length;
(eG bW bV).bind λ(bY,bZ,ca,cf,cg,ch,ci,_)=>
some (.inr (.inr (.inr (.inr (bh,bi,bj,bk,bm,bn,bo,bp,bq,bt,bv,bx,bA,bB,bC,bT,bE,bF,bG,bY,bZ,ca,cf,bU,ch,ci,())))))))else
some (.inr (.inl (bh,bi,bj,bk,bm,bn,bo,bp,bq,bt,bv,bx,bA,bB,bC,bD,bE,bF,bG,bI,bJ,bK,bL,bM))):Option (T3L⊕(T3M⊕(T3M⊕(T3M⊕T3L)))))with
|none=>none
|some (.inl (bP,bQ,bR,bS,bT,bU,bV,bW,bY,bZ,ca,cf,cg,ch,ci,cj,cn,cq,cr,cu,cw,cx,cy,cz,cD,cE,_))=>
some (ch,ci,cj,cn,cq,cr,cu,cw,cx,cy,cz,cD,cE,0,())
|some (.inr (.inl (bP,bQ,bR,bS,bT,bU,bV,bW,bY,bZ,ca,cf,cg,ch,ci,cj,cn,cq,cr,cu,cw,cx,cy,cz,cD,cE,_)))=>
some (ch,ci,cj,cn,cq,cr,cu,cw,cx,cy,[],cD,cE,0,())
|some (.inr (.inr (.inl (bP,bQ,bR,bS,bT,bU,bV,bW,bY,bZ,ca,cf,cg,ch,ci,cj,cn,cq,cr,cu,cw,cx,cy,cz,cD,cE,_))))=>
some (ch,ci,cj,cn,cq,cr,cu,cw,cx,cy,[],cD,cE,0,())
|some (.inr (.inr (.inr (.inl (bP,bQ,bR,bS,bT,bU,bV,bW,bY,bZ,ca,cf,cg,ch,ci,cj,cn,cq,cr,cu,cw,cx,cy,cz,cD,cE,_)))))=>
some (ch,ci,cj,cn,cq,cr,cu,cw,cx,cy,[],cD,cE,0,())
|some (.inr (.inr (.inr (.inr (bP,bQ,bR,bS,bT,bU,bV,bW,bY,bZ,ca,cf,cg,ch,ci,cj,cn,cq,cr,cu,cw,cx,cy,cz,cD,cE,_)))))=>
some (ch,ci,cj,cn,cq,cr,cu,cw,cx,cy,cz,cD,cE,0,()))
def Mr:X.Cfg:=⟨E0,[oT,sQ,zU,xW,kR,uF,mu,xT,zX,zY,xU,zW,zV,uG],[],[⟨2,0,qE,[(.normal,qS [zaa 2,zaa 3,zaa 4,zaa 5,Xaa 67] [(6,Xag),(8,uad),(10,Xah),(12,Uae)])]⟩,(lx 8 1 [zaa 2,zaa 3,zaa 4,zaa 5,zaa 7,Zaa 8 19,sP 74 eq,Uaa 75,Uaa 76] [(6,Xag),(8,uad),(10,Xah),(12,Uae),(16,Xaj),(19,zae)] 77),⟨14,2,qE,[(.normal,(qS [zaa 4,zaa 5,zaa 7,zaa 11] [(10,Xah),(12,Uae),(16,uL [(uaa CW),(uaa CW),(uaa (uaa CW)),(yaa eq),iX,(uaa Kf)]),(24,yal)])),(.normal,qS [zaa 4,zaa 5,zaa 7,zaa 11] [(10,Xah),(12,Uae),(16,Xaj),(24,Uae)]),(.normal,(qS [zaa 4,zaa 5,zaa 7,zaa 11] [(10,Xah),(12,Uae),(16,uL [RW,(uaa CW),(uaa (uaa CW)),(uaa (uaa KCn)),(uaa KOp),(uaa Kf)]),(24,Uae)])),(.normal,(qS [zaa 4,zaa 5,zaa 7,zaa 11] [(10,Xah),(12,Uae),(16,uL [(uaa CW),RW,(uaa (uaa CW)),(uaa (uaa KCn)),(uaa KOp),(uaa Kf)]),(24,Uae)])),(.normal,(qS [zaa 4,zaa 5,zaa 7,zaa 11] [(10,Xah),(12,Uae),(16,uL [(uaa CW),(uaa CW),(uaa RW),(uaa (uaa KCn)),(uaa KOp),(uaa Kf)]),(24,yal)]))]⟩]⟩
def Ee:Ctr:=⟨178,91,[.agg Xag,.agg uad],[],[⟨uL [RW,RW,(yaa RW),(yaa eq),iX,kE,CB,CW,I64,I64,eq,I64,.bool,I64],[.agg 6,.agg 7,.one],[]⟩],ap14 ro⟩
theorem Mk:Lk 5 Ee:=ls Mr (aC sr (aC xu (aC G8 (aC ER (aC nu (aC zy (aC oN (aC EO (aC Hb (aC Hd (aC EP (aC Ha (aC G9 (aC BD aN))))))))))))))
def lN:T3P->Option (T3P⊕(T3G⊕(LDTh×Int×Int×Bool×T3G))):=λ(v0,v1,v2,v3,v4,v5,v6,v7,v8,v9,v10,v11,v12,v13,v14,v15,v16,v17,v18,v19,v20,v21)=>
bif(decide (v2<v1))then((eu v2).bind λx0=>
(dR v0 x0).bind λx1=>
bif(x1.1==0)then((eG v2 true).bind λ(x2,x3,x4,x5,x6,x7,x8,_)=>
some (.inr (.inl (v3,v4,v5,v6,v7,v8,v9,v10,v11,v12,v13,v14,v15,v16,v17,v18,v19,v20,x2,x3,x4,x5,x6,v2,x8,()))))else
let x2:=w64 (v2+1);
some (.inl (v0,v1,x2,v3,v4,v5,v6,v7,v8,v9,v10,v11,v12,v13,v14,v15,v16,v17,v18,v19,v20,v21)))else
some (.inr (.inr (v0,v1,v2,false,v3,v4,v5,v6,v7,v8,v9,v10,v11,v12,v13,v14,v15,v16,v17,v18,v19,v20,v21)))
def lO(a0:Int)(a1:Int)(a2:Int)(a3:Int)(a4:Int)(a5:Int)(a6:LDCn)(a7:LDCn)(a8:LDIn)(a9:List (Int))(a10:List LI)(a11:List (Int))(a12:Int)(a13:LDCe)(a14:LDLn)(a15:LDTh)(a16:List (Int))(a17:List (Int))(a18:List LI)(a19:List LDCn)(a20:LDOp)(a21:LDOu)(a22:List (Int))(a23:List LI)(a24:LDEn)(a25:List (Int)):Option (Int×Int×Int×Int×LDCn×T3v):=
(bif(a5==0)then(some (a5,true,a8,a9,a10,a11,a12,a13,a14,a15,a16,a17,a18,a19,a20,a21,a22,a23,a24,a25,a0,a1,a2,a3,a4,a5,a6,a7,0,0,0,0,(),0,false,()))else
bif(a5==12)then(some (a5,true,a8,a9,a10,a11,a12,a13,a14,a15,a16,a17,a18,a19,a20,a21,a22,a23,a24,a25,a0,a1,a2,a3,a4,a5,a6,a7,0,0,0,0,(),0,false,()))else
some (a5,(a5==15),a8,a9,a10,a11,a12,a13,a14,a15,a16,a17,a18,a19,a20,a21,a22,a23,a24,a25,a0,a1,a2,a3,a4,a5,a6,a7,0,0,0,0,(),0,false,()):Option (T3W)).bind λ(x0,x1,x2,x3,x4,x5,x6,x7,x8,x9,ac,ae,af,ag,ah,ai,aj,ak,am,an,ap,aq,av,ax,ay,az,aA,aB,aD)=>
bif x1 then((eG 0 true).bind λ(aK,aL,aM,aO,aP,aQ,aR,_)=>
some (aK,aL,aM,aO,[],aQ,aR,x2,x3,x4,x5,x6,x7,x8,x9,ac,ae,af,ag,ah,ai,aj,ak,am,an,()))else
bif(x0==8)then((dR aA 0).bind λaK=>
let aL:=wk .i64 aK.2.1;
(qm aj ak aL ap).bind λ(aM,aO,aP,_)=>
(eG 0 (aP != 2)).bind λ(aQ,aR,aS,aT,aU,aV,aW,_)=>
some (aQ,aR,aS,aT,[],aV,(aP==1),x2,x3,x4,x5,x6,x7,x8,x9,ac,ae,af,ag,ah,ai,aM,aO,am,an,()))else
bif(x0==9)then((dR aA 0).bind λaK=>
let aL:=wk .i64 aK.2.1;
(lu aj ak aL ap).bind λ(aM,aO,aP,aQ,_)=>
(eG 0 aQ).bind λ(aR,aS,aT,aU,aV,aW,aY,_)=>
some (aR,aS,aT,aU,[],aW,aY,x2,x3,x4,x5,x6,x7,x8,x9,ac,ae,af,ag,ah,ai,aM,aO,am,an,()))else
bif(x0==10)then(let aK:Int:=(dS x9.length);
(match dY lN NN (x9,aK,0,x2,x3,x4,x5,x6,x7,x8,x9,ac,ae,af,ag,ah,ai,aj,ak,am,an,aD)with
|none=>none
|some (.inl (aL,aM,aO,aP,aQ,aR,aS,aT,aU,aV,aW,aY,aZ,ba,bc,bd,bf,bg,bh,bi,bj,bk,bm,bn,bo,_))=>
some (bh,bi,bj,bk,[],bn,bo,aL,aM,aO,aP,aQ,aR,aS,aT,aU,aV,aW,aY,aZ,ba,bc,bd,bf,bg,())
|some (.inr (aL,aM,aO,aP,aQ,aR,aS,aT,aU,aV,aW,aY,aZ,ba,bc,bd,bf,bg,bh,bi,bj,bk,bm,bn,bo,bp,bq,bt,bv,_))=>
(eG 0 false).bind λ(bx,bA,bB,bC,bD,bE,bF,_)=>
some (bx,bA,bB,bC,[],bE,bF,aQ,aR,aS,aT,aU,aV,aW,aY,aZ,ba,bc,bd,bf,bg,bh,bi,bj,bk,())))else
bif(x0==11)then((dR aA 0).bind λaK=>
let aL:=wk .i64 aK.2.1;
(bif(aL==ap)then(some (aL,true,x2,x3,x4,x5,x6,x7,x8,x9,ac,ae,af,ag,ah,ai,aj,ak,am,an,ap,aq,av,ax,ay,az,aA,aB,aD))else
bif(decide (aL>=4))then(some (aL,true,x2,x3,x4,x5,x6,x7,x8,x9,ac,ae,af,ag,ah,ai,aj,ak,am,an,ap,aq,av,ax,ay,az,aA,aB,aD))else
(eu aL).bind λaM=>
(dR x9 aM).bind λaO=>
some (aL,(aO.1==0),x2,x3,x4,x5,x6,x7,x8,x9,ac,ae,af,ag,ah,ai,aj,ak,am,an,ap,aq,av,ax,ay,az,aA,aB,aD):Option (T3W)).bind λ(aM,aO,aP,aQ,aR,aS,aT,aU,aV,aW,aY,aZ,ba,bc,bd,bf,bg,bh,bi,bj,bk,bm,bn,bo,bp,bq,bt,bv,bx,bA,bB,bC,bD,bE,bF,_)=>
bif aO then((eG 0 false).bind λ(bG,bH,bI,bJ,bK,bL,bM,_)=>
some (bG,bH,bI,bJ,[],bL,bM,aP,aQ,aR,aS,aT,aU,aV,aW,aY,aZ,ba,bc,bd,bf,bg,bh,bi,bj,()))else
(eu aM).bind λbG=>
(dR aW bG).bind λbH=>
bif(bH.1==4)then(let bI:Int:=(wk .i64 bH.2.2.2.2.2.2.2);
(eG bI true).bind λ(bJ,bK,bL,bM,bN,bO,bP,_)=>
some (bJ,bK,bL,bM,[],bO,bP,aP,aQ,aR,aS,aT,aU,aV,aW,aY,aZ,ba,bc,bd,bf,bg,bh,bi,bj,()))else
(eu bk).bind λbI=>
(dR bj bI).bind λbJ=>
(dR bj bI).bind λbK=>
let bL:=List.modify bj bI λe=>aM;
(eG 0 true).bind λ(bM,bN,bO,bP,bQ,bR,bS,_)=>
some (bM,bN,bO,bP,[],bR,true,aP,aQ,aR,aS,aT,aU,aV,aW,aY,aZ,ba,bc,bd,bf,bg,bh,bi,bL,()))else
(ro ac ae af ag ah ai ap aq av ax ay az aA aB).bind λ(aK,aL,aM,aO,aP,aQ,aR,aS,aT,aU,aV,aW,aY,aZ,_)=>
some (aR,aS,aT,aU,aV,aW,aY,x2,x3,x4,x5,x6,x7,x8,x9,aK,aL,aM,aO,aP,aQ,aj,ak,am,an,())
def BV:X.Cfg:=⟨E0,[mu,zZ,qK,Ee],[],[⟨3,0,qE,[(.normal,qS [zaa 0,zaa 3,zaa 4,Uaa 21,Xaa 22] [(2,yad),(8,uad),(10,Uae)])]⟩,⟨20,1,qS [zaa 0,zaa 4,sP 87 gL,Uaa 88,Uaa 89] [(2,yad),(10,Uae)],[(.ret,qS [zaa 0,zaa 4] [(2,yad),(10,Uae)]),(.exit 1,qS [zaa 0,zaa 4,sP 87 gL,Uaa 88,Uaa 89,Xaa 90] [(2,yad),(10,Uae)])]⟩,⟨33,2,qE,[(.normal,qS [zaa 0,zaa 3,zaa 4,Uaa 14,Xaa 131] [(2,yad),(8,uad),(10,Uae)])]⟩]⟩
def uE:Ctr:=⟨164,92,[.ptr ⟨2,0,[]⟩ [0],.agg uad],[(2,yad)],[⟨Xaf,[.agg 7],[(2,yad)]⟩],ap26 lO⟩
theorem BC:Lk 6 uE:=ls BV (aC oN (aC He (aC ul (aC Mk aN))))
def lU(a0:Int)(a1:Int)(a2:Int)(a3:Int)(a4:LDCn)(a5:Int)(a6:Bool):Option (Bool×Unit):=
(i3 a0 a1 a2 a3).bind λ(x0,_)=>
bif x0 then((fw a4 16).bind λ(x1,_)=>
bif x1 then(bif(decide (a5>=(-1)))then(some ((decide (a5<4)),()))else
some (false,()))else
some (false,()))else
some (false,())
def Fl:X.Cfg:=⟨E0,[uO,is],[],[]⟩
def sL:Ctr:=⟨180,93,[.agg Xaf],[],[⟨zab,[.one],[]⟩],ap7 lU⟩
theorem xq:Lk 3 sL:=ls Fl (aC zD (aC je aN))
def iu(a0:List (Int))(a1:Int)(a2:List (Int))(a3:Int)(a4:Int)(a5:Int)(a6:Int):Option (T0e):=
(fK a2 a3 a4 a5 a6).bind λ(x0,_)=>
bif(!x0)then(some (0,0,1,()))else
bif(a3==0)then(some (0,a4,0,()))else
bif(a3==2)then(let x1:Int:=(wk .u16 (a4+a1));
some (2,x1,0,()))else
(eu a5).bind λx1=>
(dR a0 x1).bind λx2=>
let x3:=w64 (x2+a6);
let x4:=wk .u16 x3;
some (1,x4,0,())
def JG:X.Cfg:=⟨E0,[kS],[],[]⟩
def sU:Ctr:=⟨46,94,[.agg yab,shU RI,.agg Xae],[],[⟨yai,[.agg 2,.one],[]⟩],ap7 iu⟩
theorem wC:Lk 3 sU:=ls JG (aC nv aN)
def l9(a0:List (Int))(a1:Int)(a2:List (Int))(a3:Int)(a4:Int):Option (T02):=
(fL a2 a3 a4).bind λ(x0,_)=>
bif(!x0)then(some (0,6,()))else
(eu a3).bind λx1=>
(dR a0 x1).bind λx2=>
let x3:=w64 (x2+a4);
some (x3,0,())
def B5:X.Cfg:=⟨E0,[kT],[],[]⟩
def uW:Ctr:=⟨198,95,[.agg yab,shU RI,.agg Xac],[],[⟨Xac,[.one,.one],[]⟩],ap5 l9⟩
theorem BL:Lk 2 uW:=ls B5 (aC nw aN)
def wW:Option (T1Y):=
bif(ug 8 8 2)then let x0:LDCe:=(List.replicate 8 (0,0));
some (0,x0,0,0,(-1),(-1),0,0,())else none
def FA:X.Cfg:=⟨E0,[],[],[]⟩
def yb:Ctr:=⟨205,96,[],[],[⟨yag,[.agg 8],[]⟩],λh=>wW⟩
theorem EW:Lk 1 yb:=ls FA aN
def sd(a0:Int)(a1:Int)(a2:Int):Option (T1Y):=
(wW).bind λ(x0,x1,x2,x3)=>
(dR x1 0).bind λx8=>
(dR x1 0).bind λx9=>
let ac:=List.modify x1 0 λe=>(a1,a2);
some (1,ac,a0,x3)
def JD:X.Cfg:=⟨E0,[yb],[],[]⟩
def Cy:Ctr:=⟨199,97,[shU I64,.agg uac],[],[⟨yag,[.agg 8],[]⟩],ap3 sd⟩
theorem Jp:Lk 2 Cy:=ls JD (aC EW aN)
def ne:T3Q->Option (T3Q⊕(T1a⊕T3R)):=λ(v0,v1,v2,v3,v4,v5,v6,v7,v8,v9,v10,v11,v12,v13,v14,v15,v16,v17,v18,v19,v20,v21,v22,v23,v24,v25,v26,v27,v28,v29,v30,_)=>
bif(decide (v3<v2))then((eu v3).bind λx0=>
(dR v1 x0).bind λx1=>
(iu v4 v5 v10 x1.1 x1.2.1 x1.2.2.1 x1.2.2.2).bind λ(x2,x3,x4,_)=>
bif(x4 != 0)then(some (.inr (.inl (false,v4,v5,v6,v7,v8,()))))else
(fL v10 v29 v30).bind λ(x5,_)=>
bif(!x5)then(some (.inr (.inl (false,v4,v5,v6,v7,v8,()))))else
(l9 v4 v5 v10 v29 v30).bind λ(x6,x7,_)=>
(lZ x6 x2 x3 v6 v7).bind λ(x8,x9,_)=>
let ac:=w64 (v30+1);
let ae:=w64 (v3+1);
some (.inl (v0,v1,v2,ae,v4,v5,x8,x9,v8,v9,v10,v11,v12,v13,v14,v15,v16,v17,v18,v19,v20,v21,v22,v23,v24,v25,v26,v27,v28,v29,ac,())))else
some (.inr (.inr (v0,v1,v2,v3,false,v4,v5,v6,v7,v8,v9,v10,v11,v12,v13,v14,v15,v16,v17,v18,v19,v20,v21,v22,v23,v24,v25,v26,v27,v28,v29,v30,())))
def r8(a0:LDIn)(a1:List (Int))(a2:List LI)(a3:Int)(a4:Int)(a5:Int)(a6:Int)(a7:Int)(a8:Int)(a9:LDCn)(a10:LDCn)(a11:Int)(a12:Int)(a13:Int)(a14:Int)(a15:LDCn)(a16:Int)(a17:Bool)(a18:List (Int))(a19:Int)(a20:LDCe)(a21:LDLn)(a22:LDTh):Option (T1a):=
(eu a3).bind λx0=>
(dR a22 x0).bind λx1=>
(iu a18 a19 a1 a11 a12 a13 a14).bind λ(x2,x3,x4,_)=>
bif(x4 != 0)then(some (false,a18,a19,a20,a21,a22,()))else
(match((jz a8).bind λ(x5,_)=>
bif(x5==2)then(let x6:Int:=(dS a15.length);
bif(decide (x6>0))then((dR a9 1).bind λx7=>
(dR a9 1).bind λx8=>
(dR a9 1).bind λx9=>
(fK a1 x9.1 x9.2.1 x9.2.2.1 x9.2.2.2).bind λ(ac,_)=>
bif(!ac)then(some (.inl (false,a18,a19,a20,a21,a22,())))else
(dR a9 1).bind λae=>
bif(ae.1 != 1)then(some (.inl (false,a18,a19,a20,a21,a22,())))else
let af:=dS a15.length;
(match dY ne NN (x0,a15,af,0,a18,a19,a20,a21,a22,a0,a1,a2,a3,a4,a5,a6,a7,a8,a9,a10,a11,a12,a13,a14,a15,a16,a17,x2,x3,x7.2.2.1,x8.2.2.2,())with
|none=>none
|some (.inl (ag,ah,ai,aj,ak,am,_))=>
some (.inl (ag,ah,ai,aj,ak,am,()))
|some (.inr (ag,ah,ai,aj,ak,am,an,ap,aq,av,ax,ay,az,aA,aB,aD,aE,aF,aG,aH,aI,aJ,aK,aL,aM,aO,aP,aQ,aR,aS,aT,aU,_))=>
some (.inr (.inl (ag,ah,ai,aj,ak,am,an,ap,aq,av,ax,ay,az,aA,aB,aD,aE,aF,aG,aH,aI,aJ,aK,aL,aM,aO,aP,aQ,aR,aS,aT,aU,())))))else
some (.inr (.inr (x0,false,a18,a19,a20,a21,a22,a0,a1,a2,a3,a4,a5,a6,a7,a8,a9,a10,a11,a12,a13,a14,a15,a16,a17,x2,x3,()))))else
some (.inr (.inr (x0,false,a18,a19,a20,a21,a22,a0,a1,a2,a3,a4,a5,a6,a7,a8,a9,a10,a11,a12,a13,a14,a15,a16,a17,x2,x3,()))):Option (T1a⊕(T3R⊕(Nat×Bool×T3H))))with
|none=>none
|some (.inl (x5,x6,x7,x8,x9,ac,_))=>
some (x5,x6,x7,x8,x9,ac,())
|some (.inr (.inl (x5,x6,x7,x8,x9,ac,ae,af,ag,ah,ai,aj,ak,am,an,ap,aq,av,ax,ay,az,aA,aB,aD,aE,aF,aG,aH,aI,aJ,aK,aL,_)))=>
(match(bif(ax==12)then((dR ay 0).bind λaM=>
let aO:=wk .i64 aM.2.1;
bif(decide (aO>255))then(some (.inl (false,ac,ae,af,ag,ah,())))else
(dR ay 0).bind λaP=>
bif(aP.1 != 0)then(some (.inl (false,ac,ae,af,ag,ah,())))else
(dR ay 0).bind λaQ=>
let aR:=wk .i64 aQ.2.1;
(dR ah x5).bind λaS=>
let aT:=(List.modify ah x5 λe=>(e.1,(e.2.1,(e.2.2.1,(e.2.2.2.1,(aR,e.2.2.2.2.2))))));
some (.inr (x5,ac,ae,af,ag,aT,ai,aj,ak,am,an,ap,aq,av,ax,ay,az,aA,aB,aD,aE,aF,aG,aH,aI,aJ,())))else
some (.inr (x5,ac,ae,af,ag,ah,ai,aj,ak,am,an,ap,aq,av,ax,ay,az,aA,aB,aD,aE,aF,aG,aH,aI,aJ,())):Option (T1a⊕T3J))with
|none=>none
|some (.inl (aM,aO,aP,aQ,aR,aS,_))=>
some (aM,aO,aP,aQ,aR,aS,())
|some (.inr (aM,aO,aP,aQ,aR,aS,aT,aU,aV,aW,aY,aZ,ba,bc,bd,bf,bg,bh,bi,bj,bk,bm,bn,bo,bp,bq,_))=>
(match(bif(bd==10)then(bif(decide (bn>=0))then((dR bf 1).bind λbt=>
(iu aO aP aU bt.1 bt.2.1 bt.2.2.1 bt.2.2.2).bind λ(bv,bx,bA,_)=>
(bif(bA != 0)then(some (aM,true,aO,aP,aQ,aR,aS,aW,aY,aZ,ba,bc,bd,bf,bg,bh,bi,bj,bk,bm,bn,bo,bp,bq,bv,bx,()))else
(eu bn).bind λbB=>
(dR aS bB).bind λbC=>
(dR aS bB).bind λbD=>
bif(bD.1 != 0)then(some (aM,true,aO,aP,aQ,aR,aS,aW,aY,aZ,ba,bc,bd,bf,bg,bh,bi,bj,bk,bm,bn,bo,bp,bq,bv,bx,()))else
(dR bf 0).bind λbE=>
let bF:=wk .i64 bE.2.1;
bif(decide (bF>255))then(some (aM,true,aO,aP,aQ,aR,aS,aW,aY,aZ,ba,bc,bd,bf,bg,bh,bi,bj,bk,bm,bn,bo,bp,bq,bv,bx,()))else
(dR bf 0).bind λbG=>
some (aM,(bG.1 != 0),aO,aP,aQ,aR,aS,aW,aY,aZ,ba,bc,bd,bf,bg,bh,bi,bj,bk,bm,bn,bo,bp,bq,bv,bx,()):Option (T3I)).bind λ(bB,bC,bD,bE,bF,bG,bH,bI,bJ,bK,bL,bM,bN,bO,bP,bQ,bR,bS,bT,bU,bV,bW,bY,bZ,ca,cf,_)=>
bif bC then(some (.inl (false,bD,bE,bF,bG,bH,())))else
(dR bO 0).bind λcg=>
let ch:=wk .i64 cg.2.1;
(sd ch ca cf).bind λ(ci,cj,cn,cq,cr,cu,cw,cx,_)=>
(eu bV).bind λcy=>
(dR bH cy).bind λcz=>
(dR bH cy).bind λcD=>
let cE:=(List.modify bH cy λe=>(ci,(cj,(cn,(cq,(cr,(cu,(cw,cx))))))));
some (.inr (bB,bD,bE,bF,bG,cE,bI,bJ,bK,bL,bM,bN,bO,bP,bY,bZ,())))else
some (.inr (aM,aO,aP,aQ,aR,aS,aW,aY,aZ,ba,bc,bd,bf,bg,bp,bq,())))else
some (.inr (aM,aO,aP,aQ,aR,aS,aW,aY,aZ,ba,bc,bd,bf,bg,bp,bq,())):Option (T1a⊕T3i))with
|none=>none
|some (.inl (bt,bv,bx,bA,bB,bC,_))=>
some (bt,bv,bx,bA,bB,bC,())
|some (.inr (bt,bv,bx,bA,bB,bC,bD,bE,bF,bG,bH,bI,bJ,bK,bL,bM,_))=>
(dR bC bt).bind λbN=>
(dR bC bt).bind λbO=>
(dR bO.2.1 0).bind λbP=>
(dR bC bt).bind λbQ=>
(dR bQ.2.1 0).bind λbR=>
let bS:=(List.modify bC bt λe=>(e.1,((List.modify e.2.1 0 λe=>(bL,bM)),e.2.2)));
(dR bS bt).bind λbT=>
let bU:=List.modify bS bt λe=>(1,e.2);
some (true,bv,bx,bA,bB,bU,())))
|some (.inr (.inr (x5,x6,x7,x8,x9,ac,ae,af,ag,ah,ai,aj,ak,am,an,ap,aq,av,ax,ay,az,aA,aB,aD,aE,aF,aG,_)))=>
(match(bif(ap==12)then((dR aq 0).bind λaH=>
let aI:=wk .i64 aH.2.1;
bif(decide (aI>255))then(some (.inl (false,x7,x8,x9,ac,ae,())))else
(dR aq 0).bind λaJ=>
bif(aJ.1 != 0)then(some (.inl (false,x7,x8,x9,ac,ae,())))else
(dR aq 0).bind λaK=>
let aL:=wk .i64 aK.2.1;
(dR ae x5).bind λaM=>
let aO:=(List.modify ae x5 λe=>(e.1,(e.2.1,(e.2.2.1,(e.2.2.2.1,(aL,e.2.2.2.2.2))))));
some (.inr (x5,x7,x8,x9,ac,aO,af,ag,ah,ai,aj,ak,am,an,ap,aq,av,ax,ay,az,aA,aB,aD,aE,aF,aG,())))else
some (.inr (x5,x7,x8,x9,ac,ae,af,ag,ah,ai,aj,ak,am,an,ap,aq,av,ax,ay,az,aA,aB,aD,aE,aF,aG,())):Option (T1a⊕T3J))with
|none=>none
|some (.inl (aH,aI,aJ,aK,aL,aM,_))=>
some (aH,aI,aJ,aK,aL,aM,())
|some (.inr (aH,aI,aJ,aK,aL,aM,aO,aP,aQ,aR,aS,aT,aU,aV,aW,aY,aZ,ba,bc,bd,bf,bg,bh,bi,bj,bk,_))=>
(match(bif(aW==10)then(bif(decide (bh>=0))then((dR aY 1).bind λbm=>
(iu aI aJ aP bm.1 bm.2.1 bm.2.2.1 bm.2.2.2).bind λ(bn,bo,bp,_)=>
(bif(bp != 0)then(some (aH,true,aI,aJ,aK,aL,aM,aR,aS,aT,aU,aV,aW,aY,aZ,ba,bc,bd,bf,bg,bh,bi,bj,bk,bn,bo,()))else
(eu bh).bind λbq=>
(dR aM bq).bind λbt=>
(dR aM bq).bind λbv=>
bif(bv.1 != 0)then(some (aH,true,aI,aJ,aK,aL,aM,aR,aS,aT,aU,aV,aW,aY,aZ,ba,bc,bd,bf,bg,bh,bi,bj,bk,bn,bo,()))else
(dR aY 0).bind λbx=>
let bA:=wk .i64 bx.2.1;
bif(decide (bA>255))then(some (aH,true,aI,aJ,aK,aL,aM,aR,aS,aT,aU,aV,aW,aY,aZ,ba,bc,bd,bf,bg,bh,bi,bj,bk,bn,bo,()))else
(dR aY 0).bind λbB=>
some (aH,(bB.1 != 0),aI,aJ,aK,aL,aM,aR,aS,aT,aU,aV,aW,aY,aZ,ba,bc,bd,bf,bg,bh,bi,bj,bk,bn,bo,()):Option (T3I)).bind λ(bq,bt,bv,bx,bA,bB,bC,bD,bE,bF,bG,bH,bI,bJ,bK,bL,bM,bN,bO,bP,bQ,bR,bS,bT,bU,bV,_)=>
bif bt then(some (.inl (false,bv,bx,bA,bB,bC,())))else
(dR bJ 0).bind λbW=>
let bY:=wk .i64 bW.2.1;
(sd bY bU bV).bind λ(bZ,ca,cf,cg,ch,ci,cj,cn,_)=>
(eu bQ).bind λcq=>
(dR bC cq).bind λcr=>
(dR bC cq).bind λcu=>
let cw:=(List.modify bC cq λe=>(bZ,(ca,(cf,(cg,(ch,(ci,(cj,cn))))))));
some (.inr (bq,bv,bx,bA,bB,cw,bD,bE,bF,bG,bH,bI,bJ,bK,bS,bT,())))else
some (.inr (aH,aI,aJ,aK,aL,aM,aR,aS,aT,aU,aV,aW,aY,aZ,bj,bk,())))else
some (.inr (aH,aI,aJ,aK,aL,aM,aR,aS,aT,aU,aV,aW,aY,aZ,bj,bk,())):Option (T1a⊕T3i))with
|none=>none
|some (.inl (bm,bn,bo,bp,bq,bt,_))=>
some (bm,bn,bo,bp,bq,bt,())
|some (.inr (bm,bn,bo,bp,bq,bt,bv,bx,bA,bB,bC,bD,bE,bF,bG,bH,_))=>
(dR bt bm).bind λbI=>
(dR bt bm).bind λbJ=>
(dR bJ.2.1 0).bind λbK=>
(dR bt bm).bind λbL=>
(dR bL.2.1 0).bind λbM=>
let bN:=(List.modify bt bm λe=>(e.1,((List.modify e.2.1 0 λe=>(bG,bH)),e.2.2)));
(dR bN bm).bind λbO=>
let bP:=List.modify bN bm λe=>(1,e.2);
some (true,bn,bo,bp,bq,bP,()))))
def JA:X.Cfg:=⟨E0,[sU,kR,kS,kT,uW,sR,Cy],[],[⟨13,0,(qS [zaa 1,zaa 4,zaa 6,zaa 7,(9,.ptr ⟨4,4,[((),(8,0))]⟩ [0,0]),zaa 10,zaa 12,sP 80 eq,Uaa 81,Uaa 82] [(4,Zac),(10,uab),(14,uad),(16,Xaf),(22,uac),(26,Xac)]),[(.ret,qS [zaa 1,Xaa 8] [(4,Zac)]),(.exit 0,(qS [zaa 1,zaa 4,zaa 6,zaa 7,(9,.ptr ⟨4,4,[((),(8,0))]⟩ [0,0]),zaa 10,zaa 12,sP 80 eq,Uaa 81,Uaa 82,Xaa 83] [(4,Zac),(10,uab),(14,uad),(16,Xaf),(22,uac),(26,Xac)]))]⟩,⟨6,1,qE,[(.ret,qS [zaa 1,Xaa 8] [(4,Zac)]),(.normal,(qS [zaa 1,zaa 4,zaa 6,zaa 7,(9,.ptr ⟨4,4,[((),(8,0))]⟩ [0,0]),zaa 10,zaa 12,sP 80 eq,Uaa 81,Uaa 82,Xaa 83] [(4,Zac),(10,uab),(14,uad),(16,Xaf),(22,uac),(26,Xac)])),(.normal,(qS [zaa 1,zaa 4,zaa 6,zaa 7,(9,.ptr ⟨4,4,[((),(8,0))]⟩ [0,0]),zaa 10,Xaa 51] [(4,Zac),(10,uab),(14,uad),(16,Xaf),(22,uac)]))]⟩,⟨24,2,qE,[(.ret,qS [zaa 1,Xaa 8] [(4,Zac)]),(.normal,(qS [zaa 1,zaa 4,zaa 6,zaa 7,(9,.ptr ⟨4,4,[((),(8,0))]⟩ [0,0]),zaa 10] [(4,Zac),(10,uab),(14,uad),(16,Xaf),(22,uac)]))]⟩,⟨33,3,qE,[(.normal,(qS [zaa 1,zaa 6,zaa 7,(9,.ptr ⟨4,4,[((),(8,0))]⟩ [0,0]),zaa 10,zaa 19,Xaa 207] [(4,Zac),(14,uad),(16,Xaf),(22,uac),(40,uac)]))]⟩,⟨29,4,qE,[(.ret,qS [zaa 1,Xaa 8] [(4,Zac)]),(.normal,(qS [zaa 1,(9,.ptr ⟨4,4,[((),(8,0))]⟩ [0,0]),zaa 10] [(4,Zac),(14,uad),(22,uac)]))]⟩]⟩
def Cv:Ctr:=⟨181,98,[.agg uab,.ptr ⟨4,0,[]⟩ [0],.agg uad,.agg Xaf],[(4,Zac)],[⟨zab,[.one],[(4,Zac)]⟩],ap23 r8⟩
theorem Jm:Lk 4 Cv:=ls JA (aC wC (aC nu (aC nv (aC nw (aC BL (aC xw (aC Jp aN)))))))
def r9(a0:LDIn)(a1:List (Int))(a2:List LI)(a3:List (Int))(a4:Int)(a5:LDCe)(a6:LDLn)(a7:LDTh)(a8:Int)(a9:Int)(a10:Int)(a11:Int)(a12:Int)(a13:Int)(a14:LDCn)(a15:LDCn)(a16:Int)(a17:Int)(a18:Int)(a19:Int)(a20:LDCn)(a21:Int)(a22:Bool):Option (T1p):=
((ia a0 a1 a2 a3 a4 a5 a6 a7).bind λ(x0,_)=>
bif(!x0)then(some (true,a0,a1,a2,a3,a4,a5,a6,a7,a8,a9,a10,a11,a12,a13,a14,a15,a16,a17,a18,a19,a20,a21,a22,(),0,(),(),(),()))else
(lW a8 a9 a10 a11 a12 a13 a14 a15).bind λ(x1,_)=>
bif(!x1)then(some (true,a0,a1,a2,a3,a4,a5,a6,a7,a8,a9,a10,a11,a12,a13,a14,a15,a16,a17,a18,a19,a20,a21,a22,(),0,(),(),(),()))else
bif(a9 != 1)then(some (true,a0,a1,a2,a3,a4,a5,a6,a7,a8,a9,a10,a11,a12,a13,a14,a15,a16,a17,a18,a19,a20,a21,a22,(),0,(),(),(),()))else
let x2:=dS a14.length;
(iM a13).bind λ(x3,_)=>
bif(x2 != x3)then(some (true,a0,a1,a2,a3,a4,a5,a6,a7,a8,a9,a10,a11,a12,a13,a14,a15,a16,a17,a18,a19,a20,a21,a22,(),0,(),(),(),()))else
(lU a16 a17 a18 a19 a20 a21 a22).bind λ(x4,_)=>
bif(!x4)then(some (true,a0,a1,a2,a3,a4,a5,a6,a7,a8,a9,a10,a11,a12,a13,a14,a15,a16,a17,a18,a19,a20,a21,a22,(),0,(),(),(),()))else
(eu a8).bind λx5=>
(dR a7 x5).bind λx6=>
some ((x6.1 != 2),a0,a1,a2,a3,a4,a5,a6,a7,a8,a9,a10,a11,a12,a13,a14,a15,a16,a17,a18,a19,a20,a21,a22,(),0,(),(),(),()):Option (Bool×LDIn×LI×LLI×LI×Int×LDCe×LDLn×LDTh×Int×Int×Int×Int×Int×Int×LDCn×LDCn×T2R)).bind λ(x0,x1,x2,x3,x4,x5,x6,x7,x8,x9,ac,ae,af,ag,ah,ai,aj,ak,am,an,ap,aq,av,ax,_)=>
bif x0 then(some (x4,x5,x6,x7,x8,false,()))else
(jQ x4 x5 x6 x7 x8).bind λ(aE,aF,aG,aH,aI,_)=>
bif(ah==0)then((eu x9).bind λaJ=>
(dR aI aJ).bind λaK=>
(dR aI aJ).bind λaL=>
(dR ai 0).bind λaM=>
(dR aI aJ).bind λaO=>
(ph aL.1 aO.2.1 aL.2.2.1 aL.2.2.2.1 aL.2.2.2.2.1 aL.2.2.2.2.2.1 aL.2.2.2.2.2.2.1 aL.2.2.2.2.2.2.2 0 aM.2.1).bind λ(aP,aQ,aR,aS,aT,aU,aV,aW,_)=>
(eu x9).bind λaY=>
(dR aI aY).bind λaZ=>
(dR aI aY).bind λba=>
let bc:=(List.modify aI aY λe=>(aP,(aQ,(aR,(aS,(aT,(aU,(aV,aW))))))));
some (aE,aF,aG,aH,bc,true,()))else
bif ax then((eu x9).bind λaJ=>
(dR aI aJ).bind λaK=>
(dR aI aJ).bind λaL=>
let aM:=List.modify aI aJ λe=>(3,e.2);
some (aE,aF,aG,aH,aM,true,()))else
(r8 x1 x2 x3 x9 ac ae af ag ah ai aj ak am an ap aq av ax aE aF aG aH aI).bind λ(aJ,aK,aL,aM,aO,aP,_)=>
bif(!aJ)then(some (x4,x5,x6,x7,x8,false,()))else
some (aK,aL,aM,aO,aP,true,())
def JB:X.Cfg:=⟨E0,[mw,sQ,m6,sL,nP,wM,Cv],[],[⟨2,0,qE,[(.normal,qS [zaa 4,zaa 5,zaa 6,zaa 7,zaa 8,Xaa 48] [(10,uab),(12,zac),(14,uad),(16,Xaf),(18,yac)])]⟩]⟩
def Cw:Ctr:=⟨165,99,[.agg uab,.agg zac,.agg uad,.agg Xaf],[],[⟨zal,[.agg 5,.one],[]⟩],ap23 r9⟩
theorem Jn:Lk 5 Cw:=ls JB (aC oO (aC xu (aC rH (aC xq (aC qC (aC BI (aC Jm aN)))))))
def nD(a0:LDIn)(a1:List (Int))(a2:List LI)(a3:List (Int))(a4:Int)(a5:LDCe)(a6:LDLn)(a7:LDTh)(a8:Int)(a9:Int)(a10:Int)(a11:Int)(a12:Int)(a13:LDCn)(a14:Int)(a15:Bool):Option (T1p):=
((ia a0 a1 a2 a3 a4 a5 a6 a7).bind λ(x0,_)=>
bif(!x0)then(some (a8,true,a0,a1,a2,a3,a4,a5,a6,a7,a9,a10,a11,a12,a13,a14,a15,(),0,(),(),(),()))else
(lU a9 a10 a11 a12 a13 a14 a15).bind λ(x1,_)=>
bif(!x1)then(some (a8,true,a0,a1,a2,a3,a4,a5,a6,a7,a9,a10,a11,a12,a13,a14,a15,(),0,(),(),(),()))else
bif(decide (a8<0))then(some (a8,true,a0,a1,a2,a3,a4,a5,a6,a7,a9,a10,a11,a12,a13,a14,a15,(),0,(),(),(),()))else
bif(decide (a8>=4))then(some (a8,true,a0,a1,a2,a3,a4,a5,a6,a7,a9,a10,a11,a12,a13,a14,a15,(),0,(),(),(),()))else
(eu a8).bind λx2=>
(dR a7 x2).bind λx3=>
some (a8,(x3.1 != 3),a0,a1,a2,a3,a4,a5,a6,a7,a9,a10,a11,a12,a13,a14,a15,(),0,(),(),(),()):Option (Int×Bool×LDIn×LI×LLI×LI×Int×LDCe×LDLn×LDTh×T2R)).bind λ(x0,x1,x2,x3,x4,x5,x6,x7,x8,x9,ac,ae,af,ag,_)=>
bif x1 then(some (x5,x6,x7,x8,x9,false,()))else
(iu x5 x6 x3 ac ae af ag).bind λ(av,ax,ay,_)=>
bif(ay != 0)then(some (x5,x6,x7,x8,x9,false,()))else
(jQ x5 x6 x7 x8 x9).bind λ(az,aA,aB,aD,aE,_)=>
(eu x0).bind λaF=>
(dR aE aF).bind λaG=>
(dR aE aF).bind λaH=>
(dR aE aF).bind λaI=>
(dR aI.2.1 0).bind λaJ=>
(dR aE aF).bind λaK=>
(dR aK.2.1 0).bind λaL=>
let aM:=(List.modify aE aF λe=>(e.1,((List.modify e.2.1 0 λe=>(av,ax)),e.2.2)));
(eu x0).bind λaO=>
(dR aM aO).bind λaP=>
(dR aM aO).bind λaQ=>
let aR:=List.modify aM aO λe=>(1,e.2);
some (az,aA,aB,aD,aR,true,())
def HO:X.Cfg:=⟨E0,[mw,sL,sU,nP],[],[⟨2,0,qE,[(.normal,qS [Uaa 2,zaa 4,zaa 5,zaa 7,zaa 8,Xaa 38] [(10,uab),(12,zac),(16,Xaf),(18,yac)])]⟩]⟩
def uK:Ctr:=⟨182,100,[.agg uab,.agg zac,shU I64,.agg Xaf],[],[⟨zal,[.agg 5,.one],[]⟩],ap16 nD⟩
theorem zB:Lk 5 uK:=ls HO (aC oO (aC xq (aC wC (aC qC aN))))
def qf(a0:Int)(a1:Int)(a2:LDIn)(a3:List (Int))(a4:List LI)(a5:List (Int))(a6:Int)(a7:LDCe)(a8:LDLn)(a9:LDTh)(a10:List (Int))(a11:List (Int))(a12:List LI)(a13:List LDCn)(a14:LDOp)(a15:LDOu)(a16:List (Int))(a17:List LI)(a18:LDEn)(a19:List (Int)):Option (T3o):=
let x0:=wk .i64 a1;
(eG x0 true).bind λ(x1,x2,x3,x4,x5,x6,x7,_)=>
(nD a2 a3 a4 a5 a6 a7 a8 a9 a0 x1 x2 x3 x4 [] x6 x7).bind λ(x8,x9,ac,ae,af,ag,_)=>
let ah:LDEn:=[(4,(a0,(0,(0,(0,(0,(0,(0,(0,([],([],(x1,(x2,(x3,(x4,([],(x6,x7)))))))))))))))))];
bif(ek 184 a18.length ah.length)then let ai:LDEn:=(List.append a18 ah);
some (a2,a3,a4,x8,x9,ac,ae,af,a10,a11,a12,a13,a14,a15,a16,a17,ai,a19,())else none
def Hx:X.Cfg:=⟨E0,[mu,uK],[(35,Po),(36,Po)],[]⟩
def zS:Ctr:=⟨166,101,[.ptr ⟨2,0,[]⟩ [0],shU I64,shU CW],[(2,yad)],[⟨[],[],[(2,yad)]⟩],ap20 qf⟩
theorem G6:Lk 6 zS:=ls Hx (aC oN (aC zB aN))
def kH(a0:Int)(a1:Int)(a2:Int)(a3:Int)(a4:Int)(a5:Int)(a6:LDCn)(a7:LDCn)(a8:LDIn)(a9:List (Int))(a10:List LI)(a11:List (Int))(a12:Int)(a13:LDCe)(a14:LDLn)(a15:LDTh)(a16:List (Int))(a17:List (Int))(a18:List LI)(a19:List LDCn)(a20:LDOp)(a21:LDOu)(a22:List (Int))(a23:List LI)(a24:LDEn)(a25:List (Int)):Option (T3o):=
(bif(a5==9)then((dR a6 0).bind λx0=>
let x1:=wk .i64 x0.2.1;
(lu a22 a23 x1 a0).bind λ(x2,x3,x4,x5,_)=>
some (x4,a8,a9,a10,a11,a12,a13,a14,a15,a16,a17,a18,a19,a20,a21,a22,a23,a24,a25,a0,a1,a2,a3,a4,a5,a6,a7,()))else
some ((-1),a8,a9,a10,a11,a12,a13,a14,a15,a16,a17,a18,a19,a20,a21,a22,a23,a24,a25,a0,a1,a2,a3,a4,a5,a6,a7,()):Option (Int×LDIn×LI×LLI×LI×Int×LDCe×LDLn×LDTh×LI×LI×LLI×LLCn×LDOp×LDOu×LI×LLI×LDEn×LI×T1S)).bind λ(x0,x1,x2,x3,x4,x5,x6,x7,x8,x9,ac,ae,af,ag,ah,ai,aj,ak,am,an,ap,aq,av,ax,ay,az,aA,_)=>
(lO an ap aq av ax ay az aA x1 x2 x3 x4 x5 x6 x7 x8 x9 ac ae af ag ah ai aj ak am).bind λ(aB,aD,aE,aF,aG,aH,aI,aJ,aK,aL,aM,aO,aP,aQ,aR,aS,aT,aU,aV,aW,aY,aZ,ba,bc,bd,_)=>
(r9 aJ aK aL aM aO aP aQ aR an ap aq av ax ay az aA aB aD aE aF aG aH aI).bind λ(bf,bg,bh,bi,bj,bk,_)=>
let bm:LDEn:=[(2,(an,(0,(an,(ap,(aq,(av,(ax,(ay,(az,(aA,(aB,(aD,(aE,(aF,(aG,(aH,aI)))))))))))))))))];
bif(ek 184 bc.length bm.length)then let bn:LDEn:=(List.append bc bm);
bif(decide (x0>=0))then((qf x0 0 aJ aK aL bf bg bh bi bj aS aT aU aV aW aY aZ ba bn bd).bind λ(bo)=>
some (bo))else
some (aJ,aK,aL,bf,bg,bh,bi,bj,aS,aT,aU,aV,aW,aY,aZ,ba,bn,bd,())else none
def Di:X.Cfg:=⟨E0,[qK,uE,Cw,zS],[(56,Po),(57,Po)],[⟨2,0,qE,[(.normal,qS [zaa 0,zaa 3,Uaa 4] [(2,yad),(8,uad)])]⟩]⟩
def vZ:Ctr:=⟨131,102,[.ptr ⟨2,0,[]⟩ [0],.agg uad],[(2,yad)],[⟨[],[],[(2,yad)]⟩],ap26 kH⟩
theorem CV:Lk 7 vZ:=ls Di (aC ul (aC BC (aC Jn (aC G6 aN))))
def tZ:T2S->Option (T2S⊕(Int×Int×Int×Int×Nat×T1P)):=λ(v0,v1,v2,v3,v4,v5,v6,v7,v8,v9,v10,v11,_)=>
bif(decide (v6<v5))then(((eu v6).bind λx0=>
(dR v10 v4).bind λx1=>
(dR x1 x0).bind λx2=>
(dR v10 v4).bind λx3=>
(dR x3 x0).bind λx4=>
bif(x4 != v0)then(bif(ek 8 v11.length (List.length [x4]))then let x5:List (Int):=(List.append v11 [x4]);
some (v0,v1,v2,v3,v4,v5,v6,v7,v8,v9,v10,x5,())else none)else
some (v0,v1,v2,v3,v4,v5,v6,v7,v8,v9,v10,v11,()):Option (T2S)).bind λ(x0,x1,x2,x3,x4,x5,x6,x7)=>
let af:=w64 (x6+1);
some (.inl (x0,x1,x2,x3,x4,x5,af,x7)))else
some (.inr (v0,v1,v2,v3,v4,v5,v6,false,v7,v8,v9,v10,v11,()))
def tY:T1E->Option (T1E⊕(Int×T1A)):=λ(v0,v1,v2,v3,v4,v5,v6,_)=>
bif(decide (v2<v1))then((eu v2).bind λx0=>
(dR v6 x0).bind λx1=>
(dR v6 x0).bind λx2=>
(dR v6 x0).bind λx3=>
let x4:=dS x3.length;
(dY tZ NN (v0,v2,v1,v2,x0,x4,0,v3,v4,v5,v6,[],())).bind λ(x5,x6,x7,x8,x9,ac,ae,af,ag,ah,ai,aj,ak,_)=>
(eu x6).bind λam=>
(dR aj am).bind λan=>
(dR aj am).bind λap=>
let aq:=List.modify aj am λe=>ak;
let av:=w64 (x8+1);
some (.inl (x5,x7,av,ag,ah,ai,aq,())))else
some (.inr (v0,v1,v2,false,v3,v4,v5,v6,()))
def tX:T1U->Option (T1U⊕(Int×T1P)):=λ(v0,v1,v2,v3,v4,v5,v6,v7,_)=>
bif(decide (v2<v1))then((lu v5 v6 v2 v0).bind λ(x0,x1,x2,x3,_)=>
(bif x3 then(bif(decide (x2>=0))then(bif(ek 8 v7.length (List.length [x2]))then let x4:List (Int):=(List.append v7 [x2]);
some (v0,v1,v2,v3,v4,v5,v6,x4,x0,x1,())else none)else
some (v0,v1,v2,v3,v4,v5,v6,v7,x0,x1,()))else
some (v0,v1,v2,v3,v4,v5,v6,v7,x0,x1,()):Option (Int×Int×Int×Unit×Unit×LI×LLI×LI×T08)).bind λ(x4,x5,x6,x7,x8,x9,ac,ae,af,ag,_)=>
let ah:=w64 (x6+1);
some (.inl (x4,x5,ah,x7,x8,af,ag,ae,())))else
some (.inr (v0,v1,v2,false,v3,v4,v5,v6,v7,()))
def qn(a0:List (Int))(a1:List LI)(a2:Int):Option (T0p):=
(nC a0 a1).bind λ(x0,x1,_)=>
let x2:=dS x1.length;
(dY tY NN (a2,x2,0,(),(),x0,x1,())).bind λ(x3,x4,x5,x6,x7,x8,x9,ac,_)=>
let ae:=dS x9.length;
(dY tX NN (x3,ae,0,x7,x8,x9,ac,[],())).bind λ(af,ag,ah,ai,aj,ak,am)=>
some (am)
def HM:X.Cfg:=⟨E0,[qL,qK],[],[⟨15,0,qE,[(.normal,(qS [Uaa 1,zaa 4,zaa 6,Uaa 7,Zaa 9 21,(20,.pk ⟨14,1,[]⟩ [0,0]),Uaa 21,Uaa 22,(27,.pk ⟨14,1,[((),(1,0))]⟩ [0,0,0]),Uaa 28,Uaa 29] [(10,Zab),(14,Zae),(21,zae)]))]⟩,⟨12,1,(qS [Uaa 1,zaa 4,zaa 6,Uaa 7,Zaa 9 21,(20,.pk ⟨14,1,[]⟩ [0,0]),Uaa 21,Uaa 22,(27,.pk ⟨14,1,[((),(1,0))]⟩ [0,0,0]),Uaa 28,Uaa 29] [(10,Zab),(14,Zae),(21,zae)]),[(.exit 2,(qS [Uaa 1,zaa 4,zaa 6,Uaa 7,Zaa 9 21,(20,.pk ⟨14,1,[]⟩ [0,0]),Uaa 21,Uaa 22,(27,.pk ⟨14,1,[((),(1,0))]⟩ [0,0,0]),Uaa 28,Uaa 29,Xaa 30] [(10,Zab),(14,Zae),(21,zae)]))]⟩,(lx 4 2 [Uaa 1,zaa 4,zaa 6,(20,.pk ⟨14,1,[]⟩ [0,0]),Uaa 21,Uaa 22] [(10,Zab),(14,Zae)] 23),⟨27,3,qE,[(.normal,qS [Uaa 1,zaa 4,zaa 6,Zaa 12 27,zaa 14,Uaa 49,Uaa 50] [(10,Zab),(14,zaf),(27,zae),(30,zaf)])]⟩,⟨21,4,qS [Uaa 1,zaa 4,zaa 6,Zaa 12 27,Uaa 49,Uaa 50] [(10,Zab),(14,zaf),(27,zae)],[(.exit 4,qS [Uaa 1,zaa 4,zaa 6,Zaa 12 27,Uaa 49,Uaa 50,Xaa 51] [(10,Zab),(14,zaf),(27,zae)])]⟩]⟩
def z0:Ctr:=⟨167,103,[.agg zaf,shU I64],[],[⟨uL [RI,(yaa RI),(uaa I64)],[.agg 2,.one],[]⟩],ap3 qn⟩
theorem Hf:Lk 3 z0:=ls HM (aC um (aC ul aN))
def kG(a0:Int)(a1:Int)(a2:LDIn)(a3:List (Int))(a4:List LI)(a5:List (Int))(a6:Int)(a7:LDCe)(a8:LDLn)(a9:LDTh)(a10:List (Int))(a11:List (Int))(a12:List LI)(a13:List LDCn)(a14:LDOp)(a15:LDOu)(a16:List (Int))(a17:List LI)(a18:LDEn):Option (LDIn×LI×LLI×LI×Int×LDCe×LDLn×LDTh×LI×LI×LLI×LLCn×LDOp×LDOu×LI×LLI×LDEn×Unit):=
let x0:=wk .i64 a1;
(eG x0 true).bind λ(x1,x2,x3,x4,x5,x6,x7,_)=>
(nD a2 a3 a4 a5 a6 a7 a8 a9 a0 x1 x2 x3 x4 [] x6 x7).bind λ(x8,x9,ac,ae,af,ag,_)=>
let ah:LDEn:=[(4,(a0,(0,(0,(0,(0,(0,(0,(0,([],([],(x1,(x2,(x3,(x4,([],(x6,x7)))))))))))))))))];
bif(ek 184 a18.length ah.length)then let ai:LDEn:=(List.append a18 ah);
some (a2,a3,a4,x8,x9,ac,ae,af,a10,a11,a12,a13,a14,a15,a16,a17,ai,())else none
def Df:X.Cfg:=⟨E0,[mu,uK],[(35,Po),(36,Po)],[]⟩
def vV:Ctr:=⟨166,104,[.ptr ⟨2,0,[]⟩ [0],shU I64,shU CW],[(2,Ual)],[⟨[],[],[(2,Ual)]⟩],ap19 kG⟩
theorem CR:Lk 6 vV:=ls Df (aC oN (aC zB aN))
def te:T3D->Option (T3D⊕(Int×Int×Int×Bool×T3t)):=λ(v0,v1,v2,v3,v4,v5,v6,v7,v8,v9,v10,v11,v12,v13,v14,v15,v16,v17,v18,v19,v20,v21,_)=>
bif(decide (v2<v1))then((eu v2).bind λx0=>
(dR v21 x0).bind λx1=>
(dR v21 x0).bind λx2=>
(kG x2 0 v3 v4 v5 v6 v7 v8 v9 v10 v11 v12 v13 v14 v15 v16 v17 v18 v19).bind λ(x3,x4,x5,x6,x7,x8,x9,ac,ae,af,ag,ah,ai,aj,ak,am,an,_)=>
let ap:=w64 (v2+1);
some (.inl (v0,v1,ap,x3,x4,x5,x6,x7,x8,x9,ac,ae,af,ag,ah,ai,aj,ak,am,an,v20,v21,())))else
some (.inr (v0,v1,v2,false,v3,v4,v5,v6,v7,v8,v9,v10,v11,v12,v13,v14,v15,v16,v17,v18,v19,v20,v21,()))
def td:T3B->Option (T3B⊕(Int×Int×T3v)):=λ(v0,v1,v2,v3,v4,v5,v6,v7,v8,v9,v10,v11,v12,v13,v14,v15,v16,v17,v18,v19,v20,_)=>
bif(decide (v2<v1))then(((eu v2).bind λx0=>
(dR v20 x0).bind λx1=>
(dR v20 x0).bind λx2=>
bif(x2==v0)then((eu v0).bind λx3=>
(dR v10 x3).bind λx4=>
(kG v2 x4.2.2.2.2.2.2.2 v3 v4 v5 v6 v7 v8 v9 v10 v11 v12 v13 v14 v15 v16 v17 v18 v19).bind λ(x5,x6,x7,x8,x9,ac,ae,af,ag,ah,ai,aj,ak,am,an,ap,aq,_)=>
(eu v2).bind λav=>
(dR v20 av).bind λax=>
(dR v20 av).bind λay=>
let az:=List.modify v20 av λe=>(-1);
some (v0,v1,v2,x5,x6,x7,x8,x9,ac,ae,af,ag,ah,ai,aj,ak,am,an,ap,aq,az,()))else
some (v0,v1,v2,v3,v4,v5,v6,v7,v8,v9,v10,v11,v12,v13,v14,v15,v16,v17,v18,v19,v20,()):Option (T3B)).bind λ(x0,x1,x2,x3,x4,x5,x6,x7,x8,x9,ac,ae,af,ag,ah,ai,aj,ak,am,an,ap,_)=>
let aq:=w64 (x2+1);
some (.inl (x0,x1,aq,x3,x4,x5,x6,x7,x8,x9,ac,ae,af,ag,ah,ai,aj,ak,am,an,ap,())))else
some (.inr (v0,v1,v2,false,v3,v4,v5,v6,v7,v8,v9,v10,v11,v12,v13,v14,v15,v16,v17,v18,v19,v20,()))
def lP(a0:Int)(a1:LDIn)(a2:List (Int))(a3:List LI)(a4:List (Int))(a5:Int)(a6:LDCe)(a7:LDLn)(a8:LDTh)(a9:List (Int))(a10:List (Int))(a11:List LI)(a12:List LDCn)(a13:LDOp)(a14:LDOu)(a15:List (Int))(a16:List LI)(a17:LDEn)(a18:List (Int)):Option (T3o):=
(qn a15 a16 a0).bind λ(x0,x1,x2,_)=>
let x3:=dS x2.length;
(dY te NN (a0,x3,0,a1,a2,a3,a4,a5,a6,a7,a8,a9,a10,a11,a12,a13,a14,x0,x1,a17,a18,x2,())).bind λ(x4,x5,x6,x7,x8,x9,ac,ae,af,ag,ah,ai,aj,ak,am,an,ap,aq,av,ax,ay,az,aA,_)=>
let aB:=dS az.length;
(dY td NN (x4,aB,0,x8,x9,ac,ae,af,ag,ah,ai,aj,ak,am,an,ap,aq,av,ax,ay,az,())).bind λ(aD,aE,aF,aG,aH)=>
some (aH)
def Fd:X.Cfg:=⟨E0,[z0,vV],[],[(lx 4 0 [zaa 0,Uaa 1,Zaa 23 13,Uaa 24,Uaa 25] [(2,yad),(13,zae)] 26),⟨13,1,qE,[(.normal,(qS [zaa 0,Uaa 1,(36,.pk ⟨2,17,[]⟩ [0,0]),Uaa 37,Uaa 38] [(2,yad)]))]⟩,⟨10,2,(qS [zaa 0,Uaa 1,(36,.pk ⟨2,17,[]⟩ [0,0]),Uaa 37,Uaa 38] [(2,yad)]),[(.exit 2,(qS [zaa 0,Uaa 1,(36,.pk ⟨2,17,[]⟩ [0,0]),Uaa 37,Uaa 38,Xaa 39] [(2,yad)]))]⟩]⟩
def xQ:Ctr:=⟨132,105,[.ptr ⟨2,0,[]⟩ [0],shU I64],[(2,yad)],[⟨[],[],[(2,yad)]⟩],ap19 lP⟩
theorem EL:Lk 7 xQ:=ls Fd (aC Hf (aC CR aN))
def qg(a0:LDIn)(a1:List (Int))(a2:List LI)(a3:List (Int))(a4:Int)(a5:LDCe)(a6:LDLn)(a7:LDTh)(a8:List (Int))(a9:List (Int))(a10:List LI)(a11:List LDCn)(a12:LDOp)(a13:LDOu)(a14:List (Int))(a15:List LI)(a16:LDEn)(a17:List (Int))(a18:Int)(a19:Int)(a20:Bool):Option (LDIn×LI×LLI×LI×Int×LDCe×LDLn×LDTh×LI×LI×LLI×LLCn×LDOp×LDOu×LI×LLI×LDEn×T07):=
(oz a7).bind λ(x0,_)=>
let x1:=dS x0.length;
bif(x1==0)then(some ([],[],[],[],0,[],[],[],[],[],[],[],[],[],[],[],[],[],15,()))else
let x2:=dS a16.length;
bif(decide (x2>192))then(some ([],[],[],[],0,[],[],[],[],[],[],[],[],[],[],[],[],[],3,()))else
let x3:=dS x0.length;
(i9 a18 x3).bind λ(x4,_)=>
(eu x4).bind λx5=>
(dR x0 x5).bind λx6=>
(dR x0 x5).bind λx7=>
(i9 a19 64).bind λ(x8,_)=>
let x9:=w64 (1+x8);
(nd a0 a1 a2 a3 a4 a5 a6 a7 a8 a9 a10 a11 a12 a13 a14 a15 a16 a17).bind λ(ac,ae,af,ag,ah,ai,aj,ak,am,an,ap,aq,av,ax,ay,az,aA,aB,_)=>
(match(bif a20 then((pd ag ah ai aj ak x7).bind λ(aD,_)=>
bif aD then((lT ag ah ai aj ak x7).bind λ(aE,aF,aG,aH,aI,aJ,_)=>
let aK:LDEn:=[(3,(x7,(0,(0,(0,(0,(0,(0,(0,([],([],(0,(0,(0,(0,([],(0,false)))))))))))))))))];
bif(ek 184 aA.length aK.length)then let aL:LDEn:=(List.append aA aK);
some (.inl (x7,x9,(),(),(),(),0,(),(),(),(),(),(),(),(),(),(),(),(),(),ac,ae,af,aE,aF,aG,aH,aI,am,an,ap,aq,av,ax,ay,az,aL,aB,()))else none)else
some (.inr (x7,x9,(),(),(),(),0,(),(),(),(),(),(),(),(),(),(),(),(),(),ac,ae,af,ag,ah,ai,aj,ak,am,an,ap,aq,av,ax,ay,az,aA,aB,())))else
some (.inr (x7,x9,(),(),(),(),0,(),(),(),(),(),(),(),(),(),(),(),(),(),ac,ae,af,ag,ah,ai,aj,ak,am,an,ap,aq,av,ax,ay,az,aA,aB,())):Option (T4a⊕T4a))with
|none=>none
|some (.inl (aD,aE,aF,aG,aH,aI,aJ,aK,aL,aM,aO,aP,aQ,aR,aS,aT,aU,aV,aW,aY,aZ,ba,bc,bd,bf,bg,bh,bi,bj,bk,bm,bn,bo,bp,bq,bt,bv,bx,_))=>
(nF aZ ba bc bd bf bg bh bi aD aE).bind λ(bA,bB,bC,bD,bE,bF,bG,bH,bI,bJ,bK,bL,bM,bN,_)=>
let bO:LDEn:=[(1,(aD,(aE,(bF,(bG,(bH,(bI,(bJ,(bK,(bL,(bM,(0,(0,(0,(0,([],(0,false)))))))))))))))))];
bif(ek 184 bv.length bO.length)then let bP:LDEn:=(List.append bv bO);
(bif(bG==1)then((kH bF bG bH bI bJ bK bL bM aZ ba bc bA bB bC bD bE bj bk bm bn bo bp bq bt bP bx).bind λ(bQ,bR,bS,bT,bU,bV,bW,bY,bZ,ca,cf,cg,ch,ci,cj,cn,cq,cr,_)=>
some (aD,aF,aG,aH,aI,aJ,aK,aL,aM,aO,aP,aQ,aR,aS,aT,aU,aV,aW,aY,bQ,bR,bS,bT,bU,bV,bW,bY,bZ,ca,cf,cg,ch,ci,cj,cn,cq,cr,()))else
some (aD,aF,aG,aH,aI,aJ,aK,aL,aM,aO,aP,aQ,aR,aS,aT,aU,aV,aW,aY,aZ,ba,bc,bA,bB,bC,bD,bE,bj,bk,bm,bn,bo,bp,bq,bt,bP,bx,()):Option (T42)).bind λ(bQ,bR,bS,bT,bU,bV,bW,bY,bZ,ca,cf,cg,ch,ci,cj,cn,cq,cr,cu,cw,cx,cy,cz,cD,cE,cF,cG,cH,cI,cJ,cK,cL,cM,cN,cO,cP,cQ,_)=>
((eu bQ).bind λcR=>
(dR cG cR).bind λcS=>
bif(cS.1==4)then((lP bQ cw cx cy cz cD cE cF cG cH cI cJ cK cL cM cN cO cP cQ).bind λ(cT,cU,cV,cW,cX,cY,cZ,dc,de,df,dg,dh,dk,dl,dm,dn,dp,dq,_)=>
some (bR,bS,bT,bU,bV,bW,bY,bZ,ca,cf,cg,ch,ci,cj,cn,cq,cr,cu,cT,cU,cV,cW,cX,cY,cZ,dc,de,df,dg,dh,dk,dl,dm,dn,dp,dq,()))else
some (bR,bS,bT,bU,bV,bW,bY,bZ,ca,cf,cg,ch,ci,cj,cn,cq,cr,cu,cw,cx,cy,cz,cD,cE,cF,cG,cH,cI,cJ,cK,cL,cM,cN,cO,cP,cQ,()):Option (T3Z)).bind λ(cR,cS,cT,cU,cV,cW,cX,cY,cZ,dc,de,df,dg,dh,dk,dl,dm,dn,dp,dq,dx,dy,dz,dA,dB,dC,dD,dE,dF,dG,dH,dI,dJ,dK,dL,dM,_)=>
some (dp,dq,dx,dy,dz,dA,dB,dC,dD,dE,dF,dG,dH,dI,dJ,dK,dL,dM,0,())else none
|some (.inr (aD,aE,aF,aG,aH,aI,aJ,aK,aL,aM,aO,aP,aQ,aR,aS,aT,aU,aV,aW,aY,aZ,ba,bc,bd,bf,bg,bh,bi,bj,bk,bm,bn,bo,bp,bq,bt,bv,bx,_))=>
(nF aZ ba bc bd bf bg bh bi aD aE).bind λ(bA,bB,bC,bD,bE,bF,bG,bH,bI,bJ,bK,bL,bM,bN,_)=>
let bO:LDEn:=[(1,(aD,(aE,(bF,(bG,(bH,(bI,(bJ,(bK,(bL,(bM,(0,(0,(0,(0,([],(0,false)))))))))))))))))];
bif(ek 184 bv.length bO.length)then let bP:LDEn:=(List.append bv bO);
(bif(bG==1)then((kH bF bG bH bI bJ bK bL bM aZ ba bc bA bB bC bD bE bj bk bm bn bo bp bq bt bP bx).bind λ(bQ,bR,bS,bT,bU,bV,bW,bY,bZ,ca,cf,cg,ch,ci,cj,cn,cq,cr,_)=>
some (aD,aF,aG,aH,aI,aJ,aK,aL,aM,aO,aP,aQ,aR,aS,aT,aU,aV,aW,aY,bQ,bR,bS,bT,bU,bV,bW,bY,bZ,ca,cf,cg,ch,ci,cj,cn,cq,cr,()))else
some (aD,aF,aG,aH,aI,aJ,aK,aL,aM,aO,aP,aQ,aR,aS,aT,aU,aV,aW,aY,aZ,ba,bc,bA,bB,bC,bD,bE,bj,bk,bm,bn,bo,bp,bq,bt,bP,bx,()):Option (T42)).bind λ(bQ,bR,bS,bT,bU,bV,bW,bY,bZ,ca,cf,cg,ch,ci,cj,cn,cq,cr,cu,cw,cx,cy,cz,cD,cE,cF,cG,cH,cI,cJ,cK,cL,cM,cN,cO,cP,cQ,_)=>
((eu bQ).bind λcR=>
(dR cG cR).bind λcS=>
bif(cS.1==4)then((lP bQ cw cx cy cz cD cE cF cG cH cI cJ cK cL cM cN cO cP cQ).bind λ(cT,cU,cV,cW,cX,cY,cZ,dc,de,df,dg,dh,dk,dl,dm,dn,dp,dq,_)=>
some (bR,bS,bT,bU,bV,bW,bY,bZ,ca,cf,cg,ch,ci,cj,cn,cq,cr,cu,cT,cU,cV,cW,cX,cY,cZ,dc,de,df,dg,dh,dk,dl,dm,dn,dp,dq,()))else
some (bR,bS,bT,bU,bV,bW,bY,bZ,ca,cf,cg,ch,ci,cj,cn,cq,cr,cu,cw,cx,cy,cz,cD,cE,cF,cG,cH,cI,cJ,cK,cL,cM,cN,cO,cP,cQ,()):Option (T3Z)).bind λ(cR,cS,cT,cU,cV,cW,cX,cY,cZ,dc,de,df,dg,dh,dk,dl,dm,dn,dp,dq,dx,dy,dz,dA,dB,dC,dD,dE,dF,dG,dH,dI,dJ,dK,dL,dM,_)=>
some (dp,dq,dx,dy,dz,dA,dB,dC,dD,dE,dF,dG,dH,dI,dJ,dK,dL,dM,0,())else none)
def Hy:X.Cfg:=⟨E0,[ya,wN,vY,wL,uJ,Ab,vZ,xQ],[(60,Po),(61,Po),(82,Po),(83,Po)],[⟨11,0,qE,[(.normal,(qS [zaa 4,Uaa 7,Uaa 8,zaa 9] [(10,yah),(20,uL [ff,RI,(yaa RW),RI,CW,(uaa KCe),j5,rh,RW,RW,(yaa RW),(yaa eq),iX,kE,RI,(yaa RI),(uaa wQ),(uaa I64)])])),(.normal,qS [zaa 4,Uaa 7,Uaa 8,zaa 9] [(10,yah),(20,yad)])]⟩,⟨17,1,qE,[(.normal,qS [zaa 4,Uaa 7,zaa 9] [(10,yah),(20,yad)])]⟩,⟨19,2,qE,[(.normal,qS [zaa 4,zaa 9] [(10,yah),(20,yad)])]⟩]⟩
def zT:Ctr:=⟨77,106,[.agg yaf,.agg uai],[],[⟨uL [ff,RI,(yaa RW),RI,CW,fA,fW,gL,RW,RW,(yaa RW),(yaa eq),iX,kE,RI,(yaa RI),(uaa wQ),(uaa I64),I64],[.agg 18,.one],[]⟩],ap21 qg⟩
theorem G7:Lk 8 zT:=ls Hy (aC EV (aC BM (aC CU (aC BG (aC BF (aC Hh (aC CV (aC EL aN))))))))
def sj:T4e->Option (T4e⊕((Int×Bool×LI×Int×Unit×Unit×Unit×Unit×Int×Unit×Unit×Unit×Unit×Unit×Unit×Unit×Unit×Unit×Unit×Unit×Unit×Unit×LDIn×LI×LLI×LI×Int×LDCe×LDLn×LDTh×LI×LI×LLI×LLCn×LDOp×LDOu×LI×LLI×LDEn×LI×T3o)⊕(Int×Bool×T4b))):=λ(v0,v1,v2,v3,v4,v5,v6,v7,v8,v9,v10,v11,v12,v13,v14,v15,v16,v17,v18,v19,v20,v21,v22,v23,v24,v25,v26,v27,v28,v29,v30,v31,v32,v33,v34,v35,v36,v37,v38,_)=>
bif(decide (v0>0))then((oI v1 v2).bind λ(x0,x1,x2,x3,x4,_)=>
(qg v21 v22 v23 v24 v25 v26 v27 v28 v29 v30 v31 v32 v33 v34 v35 v36 v37 v38 x0 x1 x2).bind λ(x5,x6,x7,x8,x9,ac,ae,af,ag,ah,ai,aj,ak,am,an,ap,aq,av,ax,_)=>
bif(ax != 0)then(some (.inr (.inl (v0,true,x3,x4,v3,v4,v5,v6,v7,v8,v9,v10,v11,v12,v13,v14,v15,v16,v17,v18,v19,v20,v21,v22,v23,v24,v25,v26,v27,v28,v29,v30,v31,v32,v33,v34,v35,v36,v37,v38,x5,x6,x7,x8,x9,ac,ae,af,ag,ah,ai,aj,ak,am,an,ap,aq,av,()))))else
let ay:=w64 (v0-1);
some (.inl (ay,x3,x4,v3,v4,v5,v6,v7,v8,v9,v10,v11,v12,v13,v14,v15,v16,v17,v18,v19,v20,x5,x6,x7,x8,x9,ac,ae,af,ag,ah,ai,aj,ak,am,an,ap,aq,av,())))else
some (.inr (.inr (v0,false,v1,v2,v3,v4,v5,v6,v7,v8,v9,v10,v11,v12,v13,v14,v15,v16,v17,v18,v19,v20,v21,v22,v23,v24,v25,v26,v27,v28,v29,v30,v31,v32,v33,v34,v35,v36,v37,v38,())))
def vi(a0:List (Int))(a1:Int):Option (LDIn×LI×LLI×LI×Int×LDCe×LDLn×LDTh×LI×LI×LLI×LLCn×LDOp×LDOu×LI×LLI×LDEn×LI×T07):=
(nk a0 a1).bind λ(x0,x1,x2,x3,x4,_)=>
(oH x1 x3 x4).bind λ(x5,x6,x7,x8,_)=>
(nn x7 x8).bind λ(x9,ac,ae,af,ag,ah,ai,aj,_)=>
(rZ x0 x1 x2 x5 x6 x9 ac ae af ag []).bind λ(ak,am,an,ap,aq,av,ax,ay,az,aA,aB,aD,aE,aF,aG,aH,aI,aJ,aK,_)=>
(dW 16 ai aj).bind λ(aL,aM,aO,_)=>
let aP:=w64 (3+aL);
(match dY sj NN (aP,aM,aO,(),(),(),(),0,(),(),(),(),(),(),(),(),(),(),(),(),(),ak,am,an,ap,aq,av,ax,ay,az,aA,aB,aD,aE,aF,aG,aH,[],aJ,())with
|none=>none
|some (.inl (aQ,aR,aS,aT,aU,aV,aW,aY,aZ,ba,bc,bd,bf,bg,bh,bi,bj,bk,bm,bn,bo,bp,bq,bt,bv,bx,bA,bB,bC,bD,bE,bF,bG,bH,bI,bJ,bK,bL,bM,bN,_))=>
some (bq,bt,bv,bx,bA,bB,bC,bD,bE,bF,bG,bH,bI,bJ,bK,bL,bM,bN,aS,aT,())
|some (.inr (aQ,aR,aS,aT,aU,aV,aW,aY,aZ,ba,bc,bd,bf,bg,bh,bi,bj,bk,bm,bn,bo,bp,bq,bt,bv,bx,bA,bB,bC,bD,bE,bF,bG,bH,bI,bJ,bK,bL,bM,bN,_))=>
some (bq,bt,bv,bx,bA,bB,bC,bD,bE,bF,bG,bH,bI,bJ,bK,bL,bM,bN,aS,aT,()))
def Mu:X.Cfg:=⟨E0,[wq,ym,wt,xR,gr,yn,zT],[],[⟨5,0,qS [zaa 0,zaa 2,zaa 4,Uaa 6] [(2,Uab),(6,yah),(10,yad)],[(.exit 0,qS [zaa 0,zaa 2,zaa 4,Uaa 6,zaa 7,Xaa 37] [(2,Uab),(6,yah),(10,yaf),(16,yad)]),(.exit 0,qS [zaa 0,zaa 2,zaa 4,Uaa 6,Xaa 26] [(2,Uab),(6,yah),(10,yad)])]⟩]⟩
def Eh:Ctr:=⟨27,107,[.ptr ⟨2,0,[]⟩ [0]],[(2,Uab)],[⟨yaf,[.agg 18],[(2,Uab)]⟩],ap2 vi⟩
theorem Mn:Lk 9 Eh:=ls Mu (aC C9 (aC E9 (aC Da (aC EM (aC gQ (aC Fa (aC G7 aN)))))))
def ie:T35->Option (T35⊕T38):=λ(v0,v1,v2,v3,v4,v5,v6,v7,v8,v9,v10,v11,v12,_)=>
bif(decide (v6<v5))then((eu v1).bind λx0=>
(dR v9 x0).bind λx1=>
let x2:=w64 (x1+v6);
(nG v7 v8 x2).bind λ(x3,x4,_)=>
(i8 v9 v10 v0 x3 x4).bind λ(x5,x6,x7,x8,_)=>
let x9:LDCn:=[(x5,(x6,(x7,x8)))];
bif(ek 24 v12.length x9.length)then let ac:LDCn:=(List.append v12 x9);
let ae:=w64 (v6+1);
some (.inl (v0,v1,v2,v3,v4,v5,ae,v7,v8,v9,v10,v11,ac,()))else none)else
some (.inr (v0,v1,v2,v3,v4,v5,v6,false,v7,v8,v9,v10,v11,v12,()))
def ic:T2j->Option (T2j⊕T2z):=λ(v0,v1,v2,v3,v4,v5,v6,v7,v8,_)=>
bif(decide (v3<v2))then((eu v3).bind λx0=>
(dR v1 x0).bind λx1=>
(dY ie NN (v0,v3,v1,v2,v3,x1,0,v4,v5,v6,v7,v8,[],())).bind λ(x2,x3,x4,x5,x6,x7,x8,x9,ac,ae,af,ag,ah,ai,_)=>
bif(ek 24 ah.length (List.length [ai]))then let aj:List LDCn:=(List.append ah [ai]);
let ak:=w64 (x6+1);
some (.inl (x2,x4,x5,ak,ac,ae,af,ag,aj,()))else none)else
some (.inr (v0,v1,v2,v3,false,v4,v5,v6,v7,v8,()))
def l6(a0:LDCe)(a1:LDLn)(a2:List (Int))(a3:Int)(a4:List (Int)):Option (LLCn×Unit):=
let x0:=dS a4.length;
(dY ic NN (a4,a4,x0,0,a0,a1,a2,a3,[],())).bind λ(x1,x2,x3,x4,x5,x6,x7,x8,x9,ac,_)=>
some (ac,())
def B3:X.Cfg:=⟨E0,[uU,oW],[(41,(uaa KCn)),(42,(uaa KCn))],[⟨12,0,qS [sP 2 RI,zaa 3,zaa 4,Zaa 7 17,Uaa 8,Zaa 10 23,sP 12 RI,Uaa 13,Uaa 14,Uaa 19,Uaa 20] [(8,Xad),(10,yab),(17,Uah),(23,uag)],[(.exit 2,qS [sP 2 RI,zaa 3,zaa 4,Zaa 7 17,Uaa 8,Zaa 10 23,sP 12 RI,Uaa 13,Uaa 14,Uaa 19,Uaa 20,Xaa 21] [(8,Xad),(10,yab),(17,Uah),(23,uag)])]⟩,(lx 4 1 [sP 2 RI,zaa 3,zaa 4,Zaa 7 17,sP 12 RI,Uaa 13,Uaa 14] [(8,Xad),(10,yab),(17,Uah)] 15)]⟩
def uT:Ctr:=⟨30,108,[.agg Xad,.agg yab,shU RI],[],[⟨Uah,[.one],[]⟩],ap5 l6⟩
theorem BK:Lk 3 uT:=ls B3 (aC zH (aC sx aN))
def jj:T3U->Option (T3U⊕T3X):=λ(v0,v1,v2,v3,v4,v5,v6,v7,v8,v9,v10,v11,v12,v13,v14,v15,v16,v17,v18,v19,v20,v21,v22,v23,v24,v25,v26,v27,v28,v29,v30,v31,v32,v33,_)=>
bif(decide (v5<v4))then((eu v5).bind λx0=>
(dR v3 x0).bind λx1=>
(i8 v9 v10 v7 x1.1 x1.2).bind λ(x2,x3,x4,x5,_)=>
let x6:LDCn:=[(x2,(x3,(x4,x5)))];
bif(ek 24 v33.length x6.length)then let x7:LDCn:=(List.append v33 x6);
let x8:=w64 (v5+1);
some (.inl (v0,v1,v2,v3,v4,x8,v6,v7,v8,v9,v10,v11,v12,v13,v14,v15,v16,v17,v18,v19,v20,v21,v22,v23,v24,v25,v26,v27,v28,v29,v30,v31,v32,x7,()))else none)else
some (.inr (v0,v1,v2,v3,v4,v5,false,v6,v7,v8,v9,v10,v11,v12,v13,v14,v15,v16,v17,v18,v19,v20,v21,v22,v23,v24,v25,v26,v27,v28,v29,v30,v31,v32,v33,()))
def ji:T3b->Option (T3b⊕T3h):=λ(v0,v1,v2,v3,v4,v5,v6,v7,v8,v9,v10,v11,v12,v13,v14,_)=>
bif(decide (v2<v1))then((eu v2).bind λx0=>
(dR v0 x0).bind λx1=>
let x2:=dS x1.2.1.length;
(dY jj NN (v0,v1,v2,x1.2.1,x2,0,v3,v4,v5,v6,v7,v8,v9,v10,v11,v12,v13,v14,x1.1,x1.2.1,x1.2.2.1,x1.2.2.2.1,x1.2.2.2.2.1,x1.2.2.2.2.2.1,x1.2.2.2.2.2.2.1,x1.2.2.2.2.2.2.2,x1.1,x1.2.2.1,x1.2.2.2.1,x1.2.2.2.2.1,x1.2.2.2.2.2.1,x1.2.2.2.2.2.2.1,x1.2.2.2.2.2.2.2,[],())).bind λ(x3,x4,x5,x6,x7,x8,x9,ac,ae,af,ag,ah,ai,aj,ak,am,an,ap,aq,av,ax,ay,az,aA,aB,aD,aE,aF,aG,aH,aI,aJ,aK,aL,aM,_)=>
let aO:LDTs:=[(aF,(aG,(aH,(aI,(aJ,(aK,(aL,aM)))))))];
bif(ek 80 aq.length aO.length)then let aP:LDTs:=(List.append aq aO);
let aQ:=w64 (x5+1);
some (.inl (x3,x4,aQ,ac,ae,af,ag,ah,ai,aj,ak,am,an,ap,aP,()))else none)else
some (.inr (v0,v1,v2,false,v3,v4,v5,v6,v7,v8,v9,v10,v11,v12,v13,v14,()))
def i6(a0:LDIn)(a1:List (Int))(a2:List LI)(a3:List (Int))(a4:Int)(a5:LDCe)(a6:LDLn)(a7:LDTh):Option (T0a):=
(l6 a5 a6 a3 a4 a1).bind λ(x0,_)=>
let x1:=dS a7.length;
(dY ji NN (a7,x1,0,a0,a1,a2,a3,a4,a5,a6,a7,(),(),x0,[],())).bind λ(x2,x3,x4,x5,x6,x7,x8,x9,ac,ae,af,ag,ah,ai,aj)=>
some (aj)
def Fp:X.Cfg:=⟨E0,[uT,oW],[(63,Aq),(64,Aq)],[⟨12,0,qS [zaa 2,zaa 3,zaa 4,zaa 5,zaa 8,sP 20 gL,Uaa 21,Uaa 22,sP 42 fA,Uaa 43,Uaa 44] [(6,uab),(8,zac),(10,Zab),(12,uae),(16,Zad),(18,Zai)],[(.exit 2,qS [zaa 2,zaa 3,zaa 4,zaa 5,zaa 8,sP 20 gL,Uaa 21,Uaa 22,sP 42 fA,Uaa 43,Uaa 44,Xaa 45] [(6,uab),(8,zac),(10,Zab),(12,uae),(16,Zad),(18,Zai)])]⟩,(lx 4 1 [zaa 2,zaa 3,zaa 4,zaa 5,sP 20 gL,Uaa 21,Uaa 22] [(6,uab),(8,zac),(10,Zab),(12,uae)] 23)]⟩
def sO:Ctr:=⟨8,109,[.agg uab,.agg zac],[],[⟨uae,[.agg 2],[]⟩],ap8 i6⟩
theorem xt:Lk 4 sO:=ls Fp (aC BK (aC sx aN))
def jm:Int×T0n->Option ((Int×T0n)⊕(Int×T0H)):=λ(v0,v1,v2,v3,_)=>
bif(decide (v3<v2))then((eu v3).bind λx0=>
(dR v1 x0).bind λx1=>
let x2:=w64 (v0+x1);
let x3:=w64 (v3+1);
some (.inl (x2,v1,v2,x3,())))else
some (.inr (v0,v1,v2,v3,false,()))
def oE(a0:List (Int)):Option (Int×Unit):=
let x0:=dS a0.length;
(dY jm NN (0,a0,x0,0,())).bind λ(x1,_)=>
some (x1,())
def FN:X.Cfg:=⟨E0,[],[],[(lx 4 0 [Uaa 3,sP 6 RI,Uaa 7,Uaa 8] [] 9)]⟩
def yg:Ctr:=⟨80,110,uL [RI],[],[⟨Uac,[.one],[]⟩],ap1 oE⟩
theorem E2:Lk 1 yg:=ls FN aN
def se:Int×LI×T0v->Option ((Int×LI×T0v)⊕(T0e⊕T1J)):=λ(v0,v1,v2,v3,v4)=>
bif(decide (v3<v2))then((eu v3).bind λx0=>
(dR v1 x0).bind λx1=>
(match(bif(decide (v0>=0))then(bif(decide (v0<x1))then(some (.inl (0,v3,v0,())))else
some (.inr (v0,v3,x1,v1,v2,v3,false,v4)))else
some (.inr (v0,v3,x1,v1,v2,v3,false,v4)):Option (T0e⊕(Int×Int×T1J)))with
|none=>none
|some (.inl (x2,x3,x4,_))=>
some (.inr (.inl (x2,x3,x4,())))
|some (.inr (x2,x3,x4,x5,x6,x7,x8,x9))=>
let ae:=w64 (x2-x4);
let af:=w64 (x7+1);
some (.inl (ae,x5,x6,af,x9))))else
some (.inr (.inr (v0,v1,v2,v3,false,v4)))
def vh(a0:List (Int))(a1:Int):Option (T0e):=
let x0:=dS a0.length;
(match dY se NN (a1,a0,x0,0,0,0,())with
|none=>none
|some (.inl (x1,x2,x3,_))=>
some (x2,x3,x1,())
|some (.inr (x1,x2,x3,_))=>
some (0,0,6,()))
def Mt:X.Cfg:=⟨E0,[],[],[⟨8,0,qE,[(.ret,qS [zaa 4,Uaa 5] [(10,Xac)]),(.normal,qS [Uaa 1,zaa 4,Uaa 6,Uaa 7,sP 8 RI,Uaa 9,Uaa 10,Xaa 21] [(10,Xac)])]⟩,⟨3,1,qS [Uaa 1,zaa 4,sP 8 RI,Uaa 9,Uaa 10] [(10,Xac)],[(.ret,qS [zaa 4,Uaa 5] [(10,Xac)]),(.exit 0,qS [Uaa 1,zaa 4,sP 8 RI,Uaa 9,Uaa 10,Xaa 11] [(10,Xac)])]⟩]⟩
def Eg:Ctr:=⟨79,111,Uab,[],[⟨yak,[.agg 2,.one],[]⟩],ap2 vh⟩
theorem Mm:Lk 1 Eg:=ls Mt aN
def nK(a0:List (Int))(a1:List (Int))(a2:Int):Option (T1f):=
(dW 6 a1 a2).bind λ(x0,x1,x2,_)=>
bif(x0==4)then((oE a0).bind λ(x3,_)=>
(dW x3 x1 x2).bind λ(x4,x5,x6,_)=>
(vh a0 x4).bind λ(x7,x8,x9,_)=>
some (1,0,x7,x8,x5,x6,()))else
bif(x0==5)then((dW 10 x1 x2).bind λ(x3,x4,x5,_)=>
let x6:=wk .u16 x3;
some (2,x6,0,0,x4,x5,()))else
(jV x1 x2).bind λ(x3,x4,x5,_)=>
some (0,x3,0,0,x4,x5,())
def Ih:X.Cfg:=⟨E0,[gr,yg,Eg,pJ],[],[]⟩
def An:Ctr:=⟨29,112,[.ptr ⟨2,0,[]⟩ [0],shU RI],[(2,Uab)],[⟨Xae,[.agg 4],[(2,Uab)]⟩],ap3 nK⟩
theorem Ht:Lk 5 An:=ls Ih (aC gQ (aC E2 (aC Mm (aC sC aN))))
def fe:LDTs×T0m->Option ((LDTs×T0m)⊕((Bool×Unit)⊕(LDTs×T0G))):=λ(v0,v1,v2,v3,_)=>
bif(decide (v3<v2))then((eu v3).bind λx0=>
(dR v1 x0).bind λx1=>
(bif(decide (x1.1>=0))then(bif(decide (x1.1<=4))then(bif(decide (x1.2.1>=0))then(bif(decide (x1.2.1<=255))then(bif(decide (x1.2.2.1>=0))then(bif(decide (x1.2.2.1<=1099511627776))then(bif(decide (x1.2.2.2.1>=(-1)))then(bif(decide (x1.2.2.2.1<=255))then(bif(decide (x1.2.2.2.2.1>=(-1)))then(bif(decide (x1.2.2.2.2.1<=255))then(bif(decide (x1.2.2.2.2.2.1>=0))then(some (v0,(decide (x1.2.2.2.2.2.1<=6)),v1,v2,v3,x1.1,x1.2.1,x1.2.2.1,x1.2.2.2.1,x1.2.2.2.2.1,x1.2.2.2.2.2.1,x1.2.2.2.2.2.2.1,x1.2.2.2.2.2.2.2,()))else
some (v0,false,v1,v2,v3,x1.1,x1.2.1,x1.2.2.1,x1.2.2.2.1,x1.2.2.2.2.1,x1.2.2.2.2.2.1,x1.2.2.2.2.2.2.1,x1.2.2.2.2.2.2.2,()))else
some (v0,false,v1,v2,v3,x1.1,x1.2.1,x1.2.2.1,x1.2.2.2.1,x1.2.2.2.2.1,x1.2.2.2.2.2.1,x1.2.2.2.2.2.2.1,x1.2.2.2.2.2.2.2,()))else
some (v0,false,v1,v2,v3,x1.1,x1.2.1,x1.2.2.1,x1.2.2.2.1,x1.2.2.2.2.1,x1.2.2.2.2.2.1,x1.2.2.2.2.2.2.1,x1.2.2.2.2.2.2.2,()))else
some (v0,false,v1,v2,v3,x1.1,x1.2.1,x1.2.2.1,x1.2.2.2.1,x1.2.2.2.2.1,x1.2.2.2.2.2.1,x1.2.2.2.2.2.2.1,x1.2.2.2.2.2.2.2,()))else
some (v0,false,v1,v2,v3,x1.1,x1.2.1,x1.2.2.1,x1.2.2.2.1,x1.2.2.2.2.1,x1.2.2.2.2.2.1,x1.2.2.2.2.2.2.1,x1.2.2.2.2.2.2.2,()))else
some (v0,false,v1,v2,v3,x1.1,x1.2.1,x1.2.2.1,x1.2.2.2.1,x1.2.2.2.2.1,x1.2.2.2.2.2.1,x1.2.2.2.2.2.2.1,x1.2.2.2.2.2.2.2,()))else
some (v0,false,v1,v2,v3,x1.1,x1.2.1,x1.2.2.1,x1.2.2.2.1,x1.2.2.2.2.1,x1.2.2.2.2.2.1,x1.2.2.2.2.2.2.1,x1.2.2.2.2.2.2.2,()))else
some (v0,false,v1,v2,v3,x1.1,x1.2.1,x1.2.2.1,x1.2.2.2.1,x1.2.2.2.2.1,x1.2.2.2.2.2.1,x1.2.2.2.2.2.2.1,x1.2.2.2.2.2.2.2,()))else
some (v0,false,v1,v2,v3,x1.1,x1.2.1,x1.2.2.1,x1.2.2.2.1,x1.2.2.2.2.1,x1.2.2.2.2.2.1,x1.2.2.2.2.2.2.1,x1.2.2.2.2.2.2.2,()))else
some (v0,false,v1,v2,v3,x1.1,x1.2.1,x1.2.2.1,x1.2.2.2.1,x1.2.2.2.2.1,x1.2.2.2.2.2.1,x1.2.2.2.2.2.2.1,x1.2.2.2.2.2.2.2,()))else
some (v0,false,v1,v2,v3,x1.1,x1.2.1,x1.2.2.1,x1.2.2.2.1,x1.2.2.2.2.1,x1.2.2.2.2.2.1,x1.2.2.2.2.2.2.1,x1.2.2.2.2.2.2.2,()):Option (LDTs×Bool×LDTs×T2r)).bind λ(x2,x3,x4,x5,x6,x7,x8,x9,ac,ae,af,ag,ah,_)=>
(bif(!x3)then(some (x2,x4,x5,x6,true,()))else
let ai:=dS ah.length;
bif(ai != 8)then(some (x2,x4,x5,x6,true,()))else
(fw ah 8).bind λ(aj,_)=>
some (x2,x4,x5,x6,(!aj),()):Option (LDTs×T0G)).bind λ(ai,aj,ak,am,an,_)=>
bif an then(some (.inr (.inl (false,()))))else
let ap:=w64 (am+1);
some (.inl (ai,aj,ak,ap,())))else
some (.inr (.inr (v0,v1,v2,v3,false,())))
def iD(a0:LDTs):Option (Bool×Unit):=
let x0:=dS a0.length;
(match dY fe NN (a0,a0,x0,0,())with
|none=>none
|some (.inl (x1,_))=>
some (x1,())
|some (.inr (x1,_))=>
let x6:=dS x1.length;
some ((x6==4),()))
def BZ:X.Cfg:=⟨E0,[is],[],[⟨8,0,qE,[(.normal,qS [sP 0 (yaa gT),zaa 4,Xaa 5,sP 6 (yaa gT),Uaa 7,Uaa 8] [(10,uah)])]⟩,⟨9,1,qE,[(.normal,qS [sP 0 (yaa gT),sP 6 (yaa gT),Uaa 7,Uaa 8,Xaa 83] [])]⟩,⟨3,2,qS [sP 0 (yaa gT),sP 6 (yaa gT),Uaa 7,Uaa 8] [],[(.ret,qS [Xaa 2] []),(.exit 0,qS [sP 0 (yaa gT),sP 6 (yaa gT),Uaa 7,Uaa 8,Xaa 9] [])]⟩]⟩
def uM:Ctr:=⟨60,113,uL [(yaa gT)],[],[⟨zab,[.one],[]⟩],ap1 iD⟩
theorem BH:Lk 3 uM:=ls BZ (aC je aN)
def fF:T24->Option (T24⊕((Bool×Unit)⊕T2l)):=λ(v0,v1,v2,v3,v4,v5)=>
bif(decide (v2<v1))then((eu v2).bind λx0=>
(dR v0 x0).bind λx1=>
let x2:=dS x1.length;
(eu v2).bind λx3=>
(dR v4 x3).bind λx4=>
bif(x2 != x4)then(some (.inr (.inl (false,()))))else
(fw x1 32).bind λ(x5,_)=>
bif(!x5)then(some (.inr (.inl (false,()))))else
let x6:=w64 (v2+1);
some (.inl (v0,v1,x6,v3,v4,v5)))else
some (.inr (.inr (v0,v1,v2,false,v3,v4,v5)))
def hZ(a0:LDIn)(a1:List (Int))(a2:List LI)(a3:List LDCn)(a4:LDTs):Option (Bool×Unit):=
((i7 a0 a1 a2).bind λ(x0,_)=>
bif(x0 != 0)then(some (true,a0,a1,a2,a3,a4,()))else
let x1:=dS a3.length;
let x2:=dS a1.length;
bif(x1 != x2)then(some (true,a0,a1,a2,a3,a4,()))else
(iD a4).bind λ(x3,_)=>
some ((!x3),a0,a1,a2,a3,a4,()):Option (T19)).bind λ(x0,x1,x2,x3,x4,x5,_)=>
bif x0 then(some (false,()))else
let x6:=dS x4.length;
(match dY fF NN (x4,x6,0,x1,x2,x3,x4,x5,())with
|none=>none
|some (.inl (x7,_))=>
some (x7,())
|some (.inr (x7,_))=>
some (true,()))
def Fo:X.Cfg:=⟨E0,[oV,uM,is],[],[⟨2,0,qE,[(.normal,qS [zaa 2,zaa 3,Xaa 24] [(6,uab),(8,Xab)])]⟩,⟨6,1,qS [zaa 2,sP 26 (yaa eq),Uaa 27,Uaa 28] [(6,uab),(8,Xab)],[(.ret,qS [Xaa 4] []),(.exit 0,qS [zaa 2,sP 26 (yaa eq),Uaa 27,Uaa 28,Xaa 29] [(6,uab),(8,Xab)])]⟩]⟩
def sN:Ctr:=⟨21,114,[.agg uab,.agg Xab],[],[⟨zab,[.one],[]⟩],ap5 hZ⟩
theorem xr:Lk 4 sN:=ls Fo (aC sw (aC BH (aC je aN)))
def jh:LDTs×Int×Int×LLCn×LDTs×LLCn×Unit->Option ((LDTs×Int×Int×LLCn×LDTs×LLCn×Unit)⊕(LDTs×Int×Int×Bool×LLCn×LDTs×LLCn×Unit)):=λ(v0,v1,v2,v3,v4,v5,_)=>
bif(decide (v2<v1))then((eu v2).bind λx0=>
(dR v0 x0).bind λx1=>
let x2:List LDCn:=[x1.2.2.2.2.2.2.2];
bif(ek 24 v5.length x2.length)then let x3:List LDCn:=(List.append v5 x2);
let x4:=w64 (v2+1);
some (.inl (v0,v1,x4,v3,v4,x3,()))else none)else
some (.inr (v0,v1,v2,false,v3,v4,v5,()))
def ot(a0:List LDCn)(a1:LDTs):Option (LLCn×Unit):=
bif(ek 24 0 a0.length)then let x0:List LDCn:=(List.append [] a0);
let x1:=dS a1.length;
(dY jh NN (a1,x1,0,a0,a1,x0,())).bind λ(x2,x3,x4,x5,x6,x7,x8,_)=>
some (x8,())else none
def Fn:X.Cfg:=⟨E0,[],[(8,(uaa KCn)),(19,(uaa KCn)),(20,(uaa KCn))],[(lx 4 0 [Zaa 3 9,sP 10 (yaa gT),Uaa 11,Uaa 12] [(4,Xab),(9,Zah)] 13)]⟩
def xV:Ctr:=⟨43,115,[.agg Xab],[],[⟨Zah,[.one],[]⟩],ap2 ot⟩
theorem EQ:Lk 1 xV:=ls Fn aN
def iL:T3l->Option (T3l⊕(T1b⊕(Int×Int×LDCn×T3d))):=λ(v0,v1,v2,v3,v4,v5,v6,v7)=>
bif(decide (v4<v3))then((eu v4).bind λx0=>
(dR v2 x0).bind λx1=>
(fK v6 x1.1 x1.2.1 x1.2.2.1 x1.2.2.2).bind λ(x2,_)=>
bif(!x2)then(some (.inr (.inl (false,(),0,(),(),(),()))))else
let x3:=w64 (v4+1);
some (.inl (v0,v1,v2,v3,x3,v5,v6,v7)))else
some (.inr (.inr (v0,v1,v2,v3,v4,false,v5,v6,v7)))
def iK:T39->Option (T39⊕(T1b⊕T3d)):=λ(v0,v1,v2,v3,v4,v5,v6,v7,v8,v9,v10,v11,v12,v13,v14,_)=>
bif(decide (v1<v0))then((eu v1).bind λx0=>
(dR v14 x0).bind λx1=>
(dR v14 x0).bind λx2=>
let x3:=dS x2.length;
(match dY iL NN (v0,v1,x2,x3,0,v2,v3,v4,v5,v6,v7,v8,v9,v10,v11,v12,v13,v14,())with
|none=>none
|some (.inl (x4,x5,x6,x7,x8,x9,_))=>
some (.inr (.inl (x4,x5,x6,x7,x8,x9,())))
|some (.inr (x4,x5,x6,x7,x8,x9,ac))=>
let ax:=w64 (x5+1);
some (.inl (x4,ax,ac))))else
some (.inr (.inr (v0,v1,false,v2,v3,v4,v5,v6,v7,v8,v9,v10,v11,v12,v13,v14,())))
def iJ:T3E->Option (T3E⊕(Int×LLCn×Int×Int×LDCn×T3x)):=λ(v0,v1,v2,v3,v4,v5,v6,v7,v8,v9,v10,v11,v12,v13,v14,v15,v16,v17,v18,v19,v20,v21,v22)=>
bif(decide (v6<v5))then((eu v6).bind λx0=>
(dR v4 x0).bind λx1=>
(eu v0).bind λx2=>
(dR v10 x2).bind λx3=>
let x4:=w64 (x3+v6);
(iu v10 v11 v8 x1.1 x1.2.1 x1.2.2.1 x1.2.2.2).bind λ(x5,x6,x7,_)=>
(eu x4).bind λx8=>
(dR v21 x8).bind λx9=>
(dR v21 x8).bind λac=>
let ae:=List.modify v21 x8 λe=>(x5,x6);
let af:=w64 (v6+1);
some (.inl (v0,v1,v2,v3,v4,v5,af,v7,v8,v9,v10,v11,v12,v13,v14,v15,v16,v17,v18,v19,v20,ae,v22)))else
some (.inr (v0,v1,v2,v3,v4,v5,v6,false,v7,v8,v9,v10,v11,v12,v13,v14,v15,v16,v17,v18,v19,v20,v21,v22))
def iI:T3A->Option (T3A⊕(LLCn×T3x)):=λ(v0,v1,v2,v3)=>
bif(decide (v2<v1))then((eu v2).bind λx0=>
(dR v0 x0).bind λx1=>
let x2:=dS x1.length;
(dY iJ NN (v2,v0,v1,v2,x1,x2,0,v3)).bind λ(x3,x4,x5,x6,x7,x8,x9,ac,ae)=>
let aD:=w64 (x6+1);
some (.inl (x4,x5,aD,ae)))else
some (.inr (v0,v1,v2,false,v3))
def iH:T4f->Option (T4f⊕(LDTs×Int×Int×LDCn×Int×Int×Bool×T3S)):=λ(v0,v1,v2,v3,v4,v5,v6,v7,v8,v9,v10,v11,v12,v13,v14,v15,v16,v17,v18,v19,v20,v21,v22,v23,v24,v25,v26,v27,v28,v29,v30,v31,v32,v33)=>
bif(decide (v5<v4))then((eu v5).bind λx0=>
(dR v3 x0).bind λx1=>
(iu v9 v10 v7 x1.1 x1.2.1 x1.2.2.1 x1.2.2.2).bind λ(x2,x3,x4,_)=>
let x5:LDCe:=[(x2,x3)];
bif(ek 4 v32.length x5.length)then let x6:LDCe:=(List.append v32 x5);
let x7:=w64 (v5+1);
some (.inl (v0,v1,v2,v3,v4,x7,v6,v7,v8,v9,v10,v11,v12,v13,v14,v15,v16,v17,v18,v19,v20,v21,v22,v23,v24,v25,v26,v27,v28,v29,v30,v31,x6,v33))else none)else
some (.inr (v0,v1,v2,v3,v4,v5,false,v6,v7,v8,v9,v10,v11,v12,v13,v14,v15,v16,v17,v18,v19,v20,v21,v22,v23,v24,v25,v26,v27,v28,v29,v30,v31,v32,v33))
def iG:T3z->Option (T3z⊕(LDTs×Int×Int×Bool×T3j)):=λ(v0,v1,v2,v3,v4,v5,v6,v7,v8,v9,v10,v11,v12,v13,v14,v15,v16,v17,v18,v19,_)=>
bif(decide (v2<v1))then((eu v2).bind λx0=>
(dR v0 x0).bind λx1=>
let x2:=dS x1.2.2.2.2.2.2.2.length;
(dY iH NN (v0,v1,v2,x1.2.2.2.2.2.2.2,x2,0,v3,v4,v5,v6,v7,v8,v9,v10,v11,v12,v13,v14,v15,v16,v17,v18,v19,x1.1,x1.2.1,x1.2.2.1,x1.2.2.2.1,x1.2.2.2.2.1,x1.2.2.2.2.2.1,x1.2.2.2.2.2.2.1,x1.2.2.2.2.2.2.2,x1.1,[],x1.2.1,x1.2.2.1,x1.2.2.2.1,x1.2.2.2.2.1,x1.2.2.2.2.2.1,x1.2.2.2.2.2.2.1,())).bind λ(x3,x4,x5,x6,x7,x8,x9,ac,ae,af,ag,ah,ai,aj,ak,am,an,ap,aq,av,ax,ay,az,aA,aB,aD,aE,aF,aG,aH,aI,aJ,aK,aL,aM,aO,aP,aQ,aR,aS,_)=>
let aT:LDTh:=[(aK,(aL,(aM,(aO,(aP,(aQ,(aR,aS)))))))];
bif(ek 80 aA.length aT.length)then let aU:LDTh:=(List.append aA aT);
let aV:=w64 (x5+1);
some (.inl (x3,x4,aV,ac,ae,af,ag,ah,ai,aj,ak,am,an,ap,aq,av,ax,ay,az,aU,()))else none)else
some (.inr (v0,v1,v2,false,v3,v4,v5,v6,v7,v8,v9,v10,v11,v12,v13,v14,v15,v16,v17,v18,v19,()))
def jy(a0:LDIn)(a1:List (Int))(a2:List LI)(a3:List (Int))(a4:Int)(a5:List LDCn)(a6:LDTs):Option (T1p):=
(hZ a0 a1 a2 a5 a6).bind λ(x0,_)=>
bif(!x0)then(some ([],0,[],[],[],false,()))else
(gF a3 a4 a1).bind λ(x1,_)=>
bif(!x1)then(some ([],0,[],[],[],false,()))else
(ot a5 a6).bind λ(x2,_)=>
let x3:=dS x2.length;
(match dY iK NN (x3,0,a0,a1,a2,a3,a4,a5,a6,(),0,(),(),(),x2,())with
|none=>none
|some (.inl (x4,x5,x6,x7,x8,x9,_))=>
some ([],x6,[],[],[],x4,())
|some (.inr (x4,x5,x6,x7,x8,x9,ac,ae,af,ag,ah,ai,aj,ak,am,an,_))=>
bif(ek 8 0 ac.length)then let ap:List (Int):=(List.append [] ac);
bif(ug 512 512 2)then let aq:LDCe:=(List.replicate 512 (0,0));
(oD).bind λ(av,_)=>
let ax:=dS af.length;
(dY iI NN (af,ax,0,x7,x8,x9,ac,ae,af,ag,ah,ai,aj,ak,am,ap,ae,aq,av,(),())).bind λ(ay,az,aA,aB,aD,aE,aF,aG,aH,aI,aJ,aK,aL,aM,aO,aP,aQ,aR,aS,aT,aU,_)=>
let aV:=dS aJ.length;
(dY iG NN (aJ,aV,0,aD,aE,aF,aG,aH,aI,aJ,aK,aL,aM,aO,aP,aQ,aR,aS,aT,[],())).bind λ(aW,aY,aZ,ba,bc,bd,bf,bg,bh,bi,bj,bk,bm,bn,bo,bp,bq,bt,bv,bx,bA,_)=>
some (bq,bt,bv,bx,bA,true,())else none else none)
def Dj:X.Cfg:=⟨E0,[sN,my,xV,kS,sT,sU],[(150,Q6),(151,Q6)],[⟨12,0,qS [zaa 3,zaa 4,zaa 5,zaa 6,Zaa 37 77,Uaa 38,Uaa 39,sP 43 eq,Uaa 44,Uaa 45] [(8,uab),(10,yab),(12,Xab),(14,yac),(77,Zah)],[(.ret,qS [zaa 6,Xaa 7] [(14,yac)]),(.exit 2,qS [zaa 3,zaa 4,zaa 5,zaa 6,Zaa 37 77,Uaa 38,Uaa 39,sP 43 eq,Uaa 44,Uaa 45,Xaa 46] [(8,uab),(10,yab),(12,Xab),(14,yac),(77,Zah)])]⟩,⟨6,1,qS [zaa 3,zaa 4,zaa 5,zaa 6,Zaa 37 77,Uaa 38,Uaa 39] [(8,uab),(10,yab),(12,Xab),(14,yac),(77,Zah)],[(.ret,qS [zaa 6,Xaa 7] [(14,yac)]),(.exit 0,qS [zaa 3,zaa 4,zaa 5,zaa 6,Zaa 37 77,Uaa 38,Uaa 39,Xaa 40] [(8,uab),(10,yab),(12,Xab),(14,yac),(77,Zah)])]⟩,⟨28,2,qS [zaa 3,zaa 4,zaa 5,zaa 6,zaa 12,Uaa 13,sP 68 (yaa eq),Uaa 69,Uaa 70,sP 75 eq,Uaa 76,Uaa 77] [(8,uab),(10,yab),(12,Xab),(14,yac),(26,uaj)],[(.exit 6,qS [zaa 3,zaa 4,zaa 5,zaa 6,zaa 12,Uaa 13,sP 68 (yaa eq),Uaa 69,Uaa 70,sP 75 eq,Uaa 76,Uaa 77,Xaa 78] [(8,uab),(10,yab),(12,Xab),(14,yac),(26,uaj)])]⟩,⟨22,3,qS [zaa 3,zaa 4,zaa 5,zaa 6,zaa 12,sP 68 (yaa eq),Uaa 69,Uaa 70] [(8,uab),(10,yab),(12,Xab),(14,yac),(26,uaj)],[(.exit 4,qS [zaa 3,zaa 4,zaa 5,zaa 6,zaa 12,sP 68 (yaa eq),Uaa 69,Uaa 70,Xaa 71] [(8,uab),(10,yab),(12,Xab),(14,yac),(26,uaj)])]⟩,⟨43,4,qS [zaa 3,zaa 4,zaa 6,zaa 12,zaa 19,sP 104 (yaa gT),Uaa 105,Uaa 106,sP 126 eq,Uaa 127,Uaa 128] [(8,uab),(10,yab),(12,Xab),(14,yac),(26,Zac),(38,uah),(40,yag)],[(.exit 10,qS [zaa 3,zaa 4,zaa 6,zaa 12,zaa 19,sP 104 (yaa gT),Uaa 105,Uaa 106,sP 126 eq,Uaa 127,Uaa 128,Xaa 129] [(8,uab),(10,yab),(12,Xab),(14,yac),(26,Zac),(38,uah),(40,yag)])]⟩,⟨35,5,qS [zaa 3,zaa 4,zaa 6,zaa 12,sP 104 (yaa gT),Uaa 105,Uaa 106] [(8,uab),(10,yab),(12,Xab),(14,yac),(26,Zac)],[(.exit 8,qS [zaa 3,zaa 4,zaa 6,zaa 12,sP 104 (yaa gT),Uaa 105,Uaa 106,Xaa 107] [(8,uab),(10,yab),(12,Xab),(14,yac),(26,Zac)])]⟩]⟩
def wd:Ctr:=⟨13,116,[.agg uab,.agg yab,.agg Xab],[],[⟨Zak,[.agg 5,.one],[]⟩],ap7 jy⟩
theorem CX:Lk 5 wd:=ls Dj (aC xr (aC oP (aC EQ (aC nv (aC xy (aC wC aN))))))
def mU:T41->Option (T41⊕T49):=λ(v0,v1,v2,v3,v4,v5,v6,v7,v8,v9,v10,v11,v12,v13,v14,v15,v16,v17,v18,v19,v20,v21,v22,v23,v24,v25,v26,v27,v28,v29,v30,v31,v32,v33,v34,v35,v36,_)=>
bif(decide (v1<v0))then(((dW 3 v2 v3).bind λ(x0,x1,x2,_)=>
bif(x0==0)then((dR v35 0).bind λx3=>
(dR v35 0).bind λx4=>
(nK v13 x1 x2).bind λ(x5,x6,x7,x8,x9,ac,_)=>
(eu v1).bind λae=>
(dR v35 0).bind λaf=>
(dR af ae).bind λag=>
(dR v35 0).bind λah=>
(dR ah ae).bind λai=>
let aj:=(List.modify v35 0 λe=>(List.modify e ae λe=>(x5,(x6,(x7,x8)))));
some (v0,v1,x9,ac,v4,v5,v6,v7,v8,v9,v10,v11,v12,v13,v14,v15,v16,v17,v18,v19,v20,v21,v22,v23,v24,v25,v26,v27,v28,v29,v30,v31,v32,v33,v34,aj,v36,()))else
some (v0,v1,x1,x2,v4,v5,v6,v7,v8,v9,v10,v11,v12,v13,v14,v15,v16,v17,v18,v19,v20,v21,v22,v23,v24,v25,v26,v27,v28,v29,v30,v31,v32,v33,v34,v35,v36,()):Option (T41)).bind λ(x0,x1,x2,x3,x4,x5,x6,x7,x8,x9,ac,ae,af,ag,ah,ai,aj,ak)=>
let aM:=w64 (x1+1);
some (.inl (x0,aM,x2,x3,x4,x5,x6,x7,x8,x9,ac,ae,af,ag,ah,ai,aj,ak)))else
some (.inr (v0,v1,false,v2,v3,v4,v5,v6,v7,v8,v9,v10,v11,v12,v13,v14,v15,v16,v17,v18,v19,v20,v21,v22,v23,v24,v25,v26,v27,v28,v29,v30,v31,v32,v33,v34,v35,v36,()))
def ru:T4h->Option (T4h⊕(Int×Int×Int×T49)):=λ(v0,v1,v2,v3,v4,v5,v6,v7,v8,v9,v10,v11,v12,v13,v14,v15,v16,v17,v18,v19,v20,v21,v22,v23,v24,v25,v26,v27,v28,v29,v30,v31,v32,v33,v34,v35,v36,v37,v38,v39,_)=>
bif(decide (v4<v3))then(((dW 3 v5 v6).bind λ(x0,x1,x2,_)=>
bif(x0==0)then((eu v0).bind λx3=>
(dR v39 x3).bind λx4=>
(dR v39 x3).bind λx5=>
(nK v16 x1 x2).bind λ(x6,x7,x8,x9,ac,ae,_)=>
(eu v4).bind λaf=>
(dR v39 x3).bind λag=>
(dR ag.2.2.2.2.2.2.2 af).bind λah=>
(dR v39 x3).bind λai=>
(dR ai.2.2.2.2.2.2.2 af).bind λaj=>
let ak:=(List.modify v39 x3 λe=>(e.1,(e.2.1,(e.2.2.1,(e.2.2.2.1,(e.2.2.2.2.1,(e.2.2.2.2.2.1,(e.2.2.2.2.2.2.1,(List.modify e.2.2.2.2.2.2.2 af λe=>(x6,(x7,(x8,x9))))))))))));
some (v0,v1,v2,v3,v4,ac,ae,v7,v8,v9,v10,v11,v12,v13,v14,v15,v16,v17,v18,v19,v20,v21,v22,v23,v24,v25,v26,v27,v28,v29,v30,v31,v32,v33,v34,v35,v36,v37,v38,ak,()))else
some (v0,v1,v2,v3,v4,x1,x2,v7,v8,v9,v10,v11,v12,v13,v14,v15,v16,v17,v18,v19,v20,v21,v22,v23,v24,v25,v26,v27,v28,v29,v30,v31,v32,v33,v34,v35,v36,v37,v38,v39,()):Option (T4h)).bind λ(x0,x1,x2,x3,x4,x5,x6,x7,x8,x9,ac,ae,af,ag,ah,ai,aj,ak,am)=>
let aQ:=w64 (x4+1);
some (.inl (x0,x1,x2,x3,aQ,x5,x6,x7,x8,x9,ac,ae,af,ag,ah,ai,aj,ak,am)))else
some (.inr (v0,v1,v2,v3,v4,false,v5,v6,v7,v8,v9,v10,v11,v12,v13,v14,v15,v16,v17,v18,v19,v20,v21,v22,v23,v24,v25,v26,v27,v28,v29,v30,v31,v32,v33,v34,v35,v36,v37,v38,v39,()))
def mT:T41->Option (T41⊕T49):=λ(v0,v1,v2,v3,v4,v5,v6,v7,v8,v9,v10,v11,v12,v13,v14,v15,v16,v17,v18,v19,v20,v21,v22,v23,v24,v25,v26,v27,v28,v29,v30,v31,v32,v33,v34,v35,v36,_)=>
bif(decide (v1<v0))then(((eu v1).bind λx0=>
(dR v36 x0).bind λx1=>
(dR v36 x0).bind λx2=>
(dR v36 x0).bind λx3=>
let x4:=dS x3.2.2.2.2.2.2.2.length;
(dY ru NN (v1,v0,v1,x4,0,v2,v3,v4,v5,v6,v7,v8,v9,v10,v11,v12,v13,v14,v15,v16,v17,v18,v19,v20,v21,v22,v23,v24,v25,v26,v27,v28,v29,v30,v31,v32,v33,v34,v35,v36,())).bind λ(x5,x6,x7,x8,x9,ac,ae,af,ag,ah,ai,aj,ak,am,an,ap,aq,av,ax,ay,az,aA,aB,aD,aE,aF,aG,aH,aI,aJ,aK,aL,aM,aO,aP,aQ,aR,aS,aT,aU,aV,_)=>
(dW 4 ae af).bind λ(aW,aY,aZ,_)=>
bif(aW==0)then((dW 5 aY aZ).bind λ(ba,bc,bd,_)=>
(eu x5).bind λbf=>
(dR aV bf).bind λbg=>
(dR aV bf).bind λbh=>
let bi:=List.modify aV bf λe=>(ba,e.2);
some (x6,x7,bc,bd,ag,ah,ai,aj,ak,am,an,ap,aq,av,ax,ay,az,aA,aB,aD,aE,aF,aG,aH,aI,aJ,aK,aL,aM,aO,aP,aQ,aR,aS,aT,aU,bi,()))else
some (x6,x7,aY,aZ,ag,ah,ai,aj,ak,am,an,ap,aq,av,ax,ay,az,aA,aB,aD,aE,aF,aG,aH,aI,aJ,aK,aL,aM,aO,aP,aQ,aR,aS,aT,aU,aV,()):Option (T41)).bind λ(x0,x1,x2,x3,x4,x5,x6,x7,x8,x9,ac,ae,af,ag,ah,ai,aj,ak,am,an,ap,aq,av,ax,ay,az,aA,aB,aD,aE,aF,aG,aH,aI,aJ,aK,aL,_)=>
let aM:=w64 (x1+1);
some (.inl (x0,aM,x2,x3,x4,x5,x6,x7,x8,x9,ac,ae,af,ag,ah,ai,aj,ak,am,an,ap,aq,av,ax,ay,az,aA,aB,aD,aE,aF,aG,aH,aI,aJ,aK,aL,())))else
some (.inr (v0,v1,false,v2,v3,v4,v5,v6,v7,v8,v9,v10,v11,v12,v13,v14,v15,v16,v17,v18,v19,v20,v21,v22,v23,v24,v25,v26,v27,v28,v29,v30,v31,v32,v33,v34,v35,v36,()))
def kM(a0:List (Int))(a1:Int):Option (LDIn×LI×LLI×LI×Int×LDCe×LDLn×LDTh×T07):=
(vi a0 a1).bind λ(x0,x1,x2,x3,x4,x5,x6,x7,x8,x9,ac,ae,af,ag,ah,ai,aj,ak,am,an,_)=>
(match((dW 3 am an).bind λ(ap,aq,av,_)=>
bif(ap==0)then((i6 x0 x1 x2 x3 x4 x5 x6 x7).bind λ(ax,ay,_)=>
(dR ax 0).bind λaz=>
(dR ax 0).bind λaA=>
(dR ax 0).bind λaB=>
let aD:=dS aB.length;
(dY mU NN (aD,0,aq,av,(),(),(),(),0,(),(),(),x0,x1,x2,x3,x4,x5,x6,x7,x8,x9,ac,ae,af,ag,ah,ai,aj,ak,x3,x4,x5,x6,x7,ax,ay,())).bind λ(aE,aF,aG,aH,aI,aJ,aK,aL,aM,aO,aP,aQ,aR,aS,aT,aU,aV,aW,aY,aZ,ba,bc,bd,bf,bg,bh,bi,bj,bk,bm,bn,bo,bp,bq,bt,bv,bx,bA,_)=>
let bB:=dS bA.length;
(dY mT NN (bB,0,aH,aI,aJ,aK,aL,aM,aO,aP,aQ,aR,aS,aT,aU,aV,aW,aY,aZ,ba,bc,bd,bf,bg,bh,bi,bj,bk,bm,bn,bo,bp,bq,bt,bv,bx,bA,())).bind λ(bC,bD,bE,bF,bG,bH,bI,bJ,bK,bL,bM,bN,bO,bP,bQ,bR,bS,bT,bU,bV,bW,bY,bZ,ca,cf,cg,ch,ci,cj,cn,cq,cr,cu,cw,cx,cy,cz,cD,_)=>
(jy bP bQ bR cr cu cz cD).bind λ(cE,cF,cG,cH,cI,cJ,_)=>
bif cJ then(some (.inl (bF,bG,bH,bI,bJ,bK,bL,bM,bN,bO,bP,bQ,bR,bS,bT,bU,bV,bW,bY,bZ,ca,cf,cg,ch,ci,cj,cn,cq,cE,cF,cG,cH,cI,())))else
some (.inr (bF,bG,bH,bI,bJ,bK,bL,bM,bN,bO,bP,bQ,bR,bS,bT,bU,bV,bW,bY,bZ,ca,cf,cg,ch,ci,cj,cn,cq,cr,cu,cw,cx,cy,())))else
some (.inr (aq,av,(),(),(),(),0,(),(),(),x0,x1,x2,x3,x4,x5,x6,x7,x8,x9,ac,ae,af,ag,ah,ai,aj,ak,x3,x4,x5,x6,x7,())):Option (T3T⊕T3T))with
|none=>none
|some (.inl (ap,aq,av,ax,ay,az,aA,aB,aD,aE,aF,aG,aH,aI,aJ,aK,aL,aM,aO,aP,aQ,aR,aS,aT,aU,aV,aW,aY,aZ,ba,bc,bd,bf,_))=>
some (aF,aG,aH,aZ,ba,bc,bd,bf,ap,aq,())
|some (.inr (ap,aq,av,ax,ay,az,aA,aB,aD,aE,aF,aG,aH,aI,aJ,aK,aL,aM,aO,aP,aQ,aR,aS,aT,aU,aV,aW,aY,aZ,ba,bc,bd,bf,_))=>
some (aF,aG,aH,aZ,ba,bc,bd,bf,ap,aq,()))
def Dy:X.Cfg:=⟨E0,[Eh,gr,sO,An,wd],[],[⟨11,0,qE,[(.normal,qS [zaa 0,zaa 2,zaa 3,zaa 4,zaa 5,zaa 6,Uaa 27,Uaa 28] [(2,Uab),(6,yae),(8,yac),(10,yaf),(12,zac),(14,uae)])]⟩,(lx 8 1 [zaa 0,zaa 2,zaa 3,zaa 4,zaa 5,zaa 6,Uaa 27,Uaa 28] [(2,Uab),(6,yae),(8,yac),(10,yaf),(12,zac),(14,uae)] 29),⟨26,2,qE,[(.normal,qS [zaa 0,zaa 2,zaa 3,zaa 4,zaa 5,zaa 6,Uaa 8,Uaa 48,Uaa 49,Uaa 58,Uaa 59] [(2,Uab),(6,yae),(8,yac),(10,yaf),(12,zac),(14,uae)])]⟩,⟨23,3,qS [zaa 0,zaa 2,zaa 3,zaa 4,zaa 5,zaa 6,Uaa 8,Uaa 48,Uaa 49,Uaa 58,Uaa 59] [(2,Uab),(6,yae),(8,yac),(10,yaf),(12,zac),(14,uae)],[(.exit 4,qS [zaa 0,zaa 2,zaa 3,zaa 4,zaa 5,zaa 6,Uaa 8,Uaa 48,Uaa 49,Uaa 58,Uaa 59,Xaa 60] [(2,Uab),(6,yae),(8,yac),(10,yaf),(12,zac),(14,uae)])]⟩,⟨19,4,qE,[(.normal,qS [zaa 0,zaa 2,zaa 3,zaa 4,zaa 5,zaa 6,Uaa 48,Uaa 49] [(2,Uab),(6,yae),(8,yac),(10,yaf),(12,zac),(14,uae)])]⟩,⟨16,5,qS [zaa 0,zaa 2,zaa 3,zaa 4,zaa 5,zaa 6,Uaa 48,Uaa 49] [(2,Uab),(6,yae),(8,yac),(10,yaf),(12,zac),(14,uae)],[(.exit 2,qS [zaa 0,zaa 2,zaa 3,zaa 4,zaa 5,zaa 6,Uaa 48,Uaa 49,Xaa 50] [(2,Uab),(6,yae),(8,yac),(10,yaf),(12,zac),(14,uae)])]⟩,⟨3,6,qE,[(.normal,qS [zaa 0,zaa 2,zaa 3,zaa 4,zaa 5] [(2,Uab),(6,yae),(8,yac),(10,yaf),(12,Zac)]),(.normal,qS [zaa 0,zaa 2,zaa 3,zaa 4,zaa 5] [(2,Uab),(6,yae),(8,yac),(10,yaf),(12,zac)])]⟩]⟩
def wu:Ctr:=⟨7,117,[.ptr ⟨2,0,[]⟩ [0]],[(2,Uab)],[⟨uL [ff,RI,(yaa RW),RI,CW,fA,fW,gL],[.agg 3,.agg 5],[(2,Uab)]⟩],ap2 kM⟩
theorem Db:Lk 10 wu:=ls Dy (aC Mn (aC gQ (aC xt (aC Ht (aC CX aN)))))
def iO:T2U->Option (T2U⊕(Int×Int×Int×LLCn×Int×Int×Bool×T1v)):=λ(v0,v1,v2,v3,v4,v5,v6,v7,v8,v9,v10,v11,_)=>
bif(decide (v5<v4))then((eu v5).bind λx0=>
(dR v3 x0).bind λx1=>
bif(ek 24 0 x1.length)then let x2:LDCn:=(List.append [] x1);
bif(ek 24 v10.length (List.length [x2]))then let x3:List LDCn:=(List.append v10 [x2]);
let x4:=w64 (v5+1);
some (.inl (v0,v1,v2,v3,v4,x4,v6,v7,v8,v9,x3,v11,()))else none else none)else
some (.inr (v0,v1,v2,v3,v4,v5,false,v6,v7,v8,v9,v10,v11,()))
def iN:T2T->Option (T2T⊕(Int×Int×Int×LDTs×Int×Int×Bool×T1u)):=λ(v0,v1,v2,v3,v4,v5,v6,v7,v8,v9,v10,v11,_)=>
bif(decide (v5<v4))then((eu v5).bind λx0=>
(dR v3 x0).bind λx1=>
bif(ek 24 0 x1.2.2.2.2.2.2.2.length)then let x2:LDCn:=(List.append [] x1.2.2.2.2.2.2.2);
let x3:LDTs:=[(x1.1,(x1.2.1,(x1.2.2.1,(x1.2.2.2.1,(x1.2.2.2.2.1,(x1.2.2.2.2.2.1,(x1.2.2.2.2.2.2.1,x2)))))))];
bif(ek 80 v11.length x3.length)then let x4:LDTs:=(List.append v11 x3);
let x5:=w64 (v5+1);
some (.inl (v0,v1,v2,v3,v4,x5,v6,v7,v8,v9,v10,x4,()))else none else none)else
some (.inr (v0,v1,v2,v3,v4,v5,false,v6,v7,v8,v9,v10,v11,()))
def kK(a0:List LDCn)(a1:LDTs)(a2:Int)(a3:Int)(a4:Int):Option (T0a):=
let x0:=dS a0.length;
(dY iO NN (a2,a3,a4,a0,x0,0,a0,a1,(),(),[],(),())).bind λ(x1,x2,x3,x4,x5,x6,x7,x8,x9,ac,ae,af,ag,_)=>
let ah:=dS x9.length;
(dY iN NN (x1,x2,x3,x9,ah,0,x8,x9,ac,ae,af,[],())).bind λ(ai,aj,ak,am,an,ap,aq,av,ax,ay,az,aA,aB,_)=>
let aD:=dS aB.length;
(ig aj aD).bind λ(aE,_)=>
let aF:List (Int):=[(-2),(-1),0,1,4,5,6,7,255,256,1099511627777];
(ig ak 11).bind λ(aG,_)=>
(eu aG).bind λaH=>
(dR aF aH).bind λaI=>
(dR aF aH).bind λaJ=>
(match((ig ai 10).bind λ(aK,_)=>
bif(aK==0)then((eu aE).bind λaL=>
(dR aB aL).bind λaM=>
(dR aB aL).bind λaO=>
let aP:=List.modify aB aL λe=>(aJ,e.2);
some (.inl (ay,az,aA,aP,())))else
bif(aK==1)then((eu aE).bind λaL=>
(dR aB aL).bind λaM=>
(dR aB aL).bind λaO=>
let aP:=(List.modify aB aL λe=>(e.1,(aJ,e.2.2)));
some (.inl (ay,az,aA,aP,())))else
bif(aK==2)then((eu aE).bind λaL=>
(dR aB aL).bind λaM=>
(dR aB aL).bind λaO=>
let aP:=(List.modify aB aL λe=>(e.1,(e.2.1,(e.2.2.1,(e.2.2.2.1,(aJ,e.2.2.2.2.2))))));
some (.inl (ay,az,aA,aP,())))else
bif(aK==3)then((eu aE).bind λaL=>
(dR aB aL).bind λaM=>
(dR aB aL).bind λaO=>
let aP:=(List.modify aB aL λe=>(e.1,(e.2.1,(aJ,e.2.2.2))));
some (.inl (ay,az,aA,aP,())))else
bif(aK==4)then((eu aE).bind λaL=>
(dR aB aL).bind λaM=>
(dR aB aL).bind λaO=>
(dR aB aL).bind λaP=>
bif(iz 1 aP.2.2.2.2.2.2.2.length aP.2.2.2.2.2.2.2.length)then(dR aB aL).bind λaQ=>
(eu aE).bind λaR=>
(dR aB aR).bind λaS=>
(dR aB aL).bind λaT=>
(dR aB aR).bind λaU=>
let aV:=(List.modify aB aR λe=>(e.1,(e.2.1,(e.2.2.1,(e.2.2.2.1,(e.2.2.2.2.1,(e.2.2.2.2.2.1,(e.2.2.2.2.2.2.1,(lF aT.2.2.2.2.2.2.2 1 (Nat.sub aP.2.2.2.2.2.2.2.length 1))))))))));
some (.inr (.inl (ay,az,aA,aV,())))else none)else
bif(aK==5)then(bif(iz 1 aA.length aA.length)then let aL:List LDCn:=(lF aA 1 (Nat.sub aA.length 1));
some (.inr (.inr (.inl (ay,az,aL,aB,()))))else none)else
bif(aK==6)then((dR aA 0).bind λaL=>
(dR aA 0).bind λaM=>
let aO:LDCn:=[(0,(0,(0,0)))];
(dR aA 0).bind λaP=>
bif(ek 24 aP.length aO.length)then let aQ:LDCn:=(List.append aP aO);
(dR aA 0).bind λaR=>
(dR aA 0).bind λaS=>
let aT:=List.modify aA 0 λe=>aQ;
some (.inl (ay,az,aT,aB,()))else none)else
bif(aK==7)then((dR aA 0).bind λaL=>
(dR aA 0).bind λaM=>
(dR aA 0).bind λaO=>
(dR aA 0).bind λaP=>
(dR aA 0).bind λaQ=>
let aR:=dS aQ.length;
(ig aj aR).bind λ(aS,_)=>
(ig ak 4).bind λ(aT,_)=>
let aU:=wk .u8 aT;
(ig ak 6).bind λ(aV,_)=>
let aW:=w64 (aV-1);
(ig aj 36).bind λ(aY,_)=>
(eu aS).bind λaZ=>
(dR aA 0).bind λba=>
(dR ba aZ).bind λbc=>
(dR aA 0).bind λbd=>
(dR bd aZ).bind λbf=>
let bg:=(List.modify aA 0 λe=>(List.modify e aZ λe=>(aU,(0,(aW,aY)))));
some (.inl (ay,az,bg,aB,())))else
bif(aK==8)then(bif(iz 1 aB.length aB.length)then let aL:LDTs:=(lF aB 1 (Nat.sub aB.length 1));
some (.inr (.inr (.inr (ay,az,aA,aL,()))))else none)else
bif(aK==9)then((eu aE).bind λaL=>
(dR aB aL).bind λaM=>
(dR aB aL).bind λaO=>
(ig ak 5).bind λ(aP,_)=>
let aQ:=w64 (aP-1);
(ig aj 36).bind λ(aR,_)=>
(dR aB aL).bind λaS=>
(dR aS.2.2.2.2.2.2.2 0).bind λaT=>
(dR aB aL).bind λaU=>
(dR aU.2.2.2.2.2.2.2 0).bind λaV=>
let aW:=(List.modify aB aL λe=>(e.1,(e.2.1,(e.2.2.1,(e.2.2.2.1,(e.2.2.2.2.1,(e.2.2.2.2.2.1,(e.2.2.2.2.2.2.1,(List.modify e.2.2.2.2.2.2.2 0 λe=>(1,(0,(aQ,aR))))))))))));
some (.inl (ay,az,aA,aW,())))else
some (.inl (ay,az,aA,aB,())):Option (T0Q⊕(T0Q⊕(T0Q⊕T0Q))))with
|none=>none
|some (.inl (aK,aL,aM,aO,_))=>
some (aM,aO,())
|some (.inr (.inl (aK,aL,aM,aO,_)))=>
some (aM,aO,())
|some (.inr (.inr (.inl (aK,aL,aM,aO,_))))=>
some (aM,aO,())
|some (.inr (.inr (.inr (aK,aL,aM,aO,_))))=>
some (aM,aO,()))
def Dt:X.Cfg:=⟨E0,[A8],[(27,(uaa KCn)),(28,(uaa KCn)),(45,Aq),(46,Aq)],[(lx 4 0 [Uaa 1,Uaa 2,Uaa 3,zaa 4,zaa 8,zaa 9,sP 17 (yaa eq),Uaa 18,Uaa 19] [(10,Xab),(18,Zab),(20,uL [(uaa (uaa KCn)),N1])] 20),⟨11,1,qS [Uaa 1,Uaa 2,Uaa 3,zaa 8,zaa 9,sP 32 (yaa gT),Uaa 33,Uaa 34] [(10,Xab),(18,Zab),(20,uae)],[(.exit 2,qS [Uaa 1,Uaa 2,Uaa 3,zaa 8,zaa 9,sP 32 (yaa gT),Uaa 33,Uaa 34,Xaa 35] [(10,Xab),(18,Zab),(20,uae)])]⟩,⟨19,2,qE,[(.normal,qS [zaa 8,zaa 9] [(18,Zab),(20,uae)]),(.normal,(qS [zaa 8,zaa 9] [(18,Zab),(20,uL [(uaa (uaa KCn)),(uaa gT)])])),(.normal,(qS [zaa 8,zaa 9] [(18,Zab),(20,uL [(yaa eq),(uaa Aq)])])),(.normal,(qS [zaa 8,zaa 9] [(18,Zab),(20,uL [(uaa (uaa KCn)),(yaa gT)])]))]⟩]⟩
def wm:Ctr:=⟨11,118,[.agg Xab,shU I64,shU I64,shU I64],[],[⟨Xab,[.agg 2],[]⟩],ap5 kK⟩
theorem C6:Lk 3 wm:=ls Dt (aC E3 aN)
def lM(a0:List (Int))(a1:Int)(a2:Int):Option (Bool×Unit):=
bif(decide (a1>=0))then(let x0:Int:=(dS a0.length);
bif(decide (a1<x0))then(bif(decide (a2>=0))then((eu a1).bind λx1=>
(dR a0 x1).bind λx2=>
some ((decide (a2<x2)),()))else
some (false,()))else
some (false,()))else
some (false,())
def BU:X.Cfg:=⟨E0,[],[],[]⟩
def pG:Ctr:=⟨90,119,[shU RI,.agg Xac],[],[⟨zab,[.one],[]⟩],ap3 lM⟩
theorem uk:Lk 1 pG:=ls BU aN
def jn(a0:List (Int))(a1:Int)(a2:List (Int))(a3:Int)(a4:Int):Option (T02):=
(lM a2 a3 a4).bind λ(x0,_)=>
bif(!x0)then(some (0,6,()))else
let x1:=dS a0.length;
bif(decide (a3>=x1))then(some (0,6,()))else
(eu a3).bind λx2=>
(dR a0 x2).bind λx3=>
let x4:=w64 (x3+a4);
some (x4,0,())
def AG:X.Cfg:=⟨E0,[pG],[],[]⟩
def oe:Ctr:=⟨92,120,[.agg yab,shU RI,.agg Xac],[],[⟨Xac,[.one,.one],[]⟩],ap5 jn⟩
theorem tz:Lk 2 oe:=ls AG (aC uk aN)
def sf(a0:LDCe)(a1:LDLn)(a2:Int):Option (T0d):=
(bif(decide (a2<0))then(some (a2,true,a0,a1,0,0,()))else
bif(decide (a2>=512))then(some (a2,true,a0,a1,0,0,()))else
let x0:=dS a0.length;
some (a2,(decide (a2>=x0)),a0,a1,0,0,()):Option (Int×Bool×LDCe×LDLn×T02)).bind λ(x0,x1,x2,x3,x4)=>
bif x1 then(some (0,0,false,()))else
let x6:=w64 (Int.tdiv x0 4);
let x7:=Int.tmod x6 4;
(let x8:=dS x3.length;
bif(decide (x7<x8))then((eu x7).bind λx9=>
(dR x3 x9).bind λac=>
bif(ac.1==x6)then(let ae:Int:=(Int.tmod x0 4);
(eu x7).bind λaf=>
(dR x3 af).bind λag=>
let ah:=dS ag.2.2.length;
some (x0,x7,(decide (ae<ah)),x2,x3,x4))else
some (x0,x7,false,x2,x3,x4))else
some (x0,x7,false,x2,x3,x4):Option (Int×Int×Bool×LDCe×LDLn×T02)).bind λ(x8,x9,ac,ae,af,ag,ah,_)=>
bif ac then((eu x9).bind λai=>
(dR af ai).bind λaj=>
let ak:=Int.tmod x8 4;
(eu ak).bind λam=>
(dR aj.2.2 am).bind λan=>
some (an.1,an.2,true,()))else
(eu x8).bind λai=>
(dR ae ai).bind λaj=>
some (aj.1,aj.2,true,())
def JI:X.Cfg:=⟨E0,[],[],[⟨2,0,qE,[(.normal,qS [Uaa 1,zaa 2,zaa 4,Xaa 20] [(6,Xad),(10,uac)])]⟩,⟨7,1,qE,[(.normal,qS [Uaa 1,zaa 2,zaa 4,Uaa 7,Xaa 52] [(6,Xad),(10,uac)])]⟩]⟩
def CA:Ctr:=⟨100,121,[.agg Xad,shU I64],[],[⟨uL [CB,CW,.bool],[.agg 2,.one],[]⟩],ap3 sf⟩
theorem Jr:Lk 1 CA:=ls JI aN
def fk:T2i->Option (T2i⊕(T0c⊕T2y)):=λ(v0,v1,v2,v3,v4,v5)=>
bif(decide (v4<v3))then((eu v4).bind λx0=>
(dR v2 x0).bind λx1=>
(let x2:=dS v0.length;
bif(decide (v4<x2))then(bif(decide (v1>=x1))then(let x3:Int:=(w64 (v1-x1));
(eu v4).bind λx4=>
(dR v0 x4).bind λx5=>
some (v0,v1,v4,x1,v2,v3,v4,(decide (x3<x5)),v5))else
some (v0,v1,v4,x1,v2,v3,v4,false,v5))else
some (v0,v1,v4,x1,v2,v3,v4,false,v5):Option (T2Y)).bind λ(x2,x3,x4,x5,x6,x7,x8,x9,ac)=>
bif x9 then(let ah:Int:=(w64 (x3-x5));
some (.inr (.inl (true,x4,ah,()))))else
let ah:=w64 (x8+1);
some (.inl (x2,x3,x6,x7,ah,ac)))else
some (.inr (.inr (v0,v1,v2,v3,v4,false,v5)))
def lj(a0:List (Int))(a1:Int)(a2:List (Int))(a3:Int):Option (T0d):=
let x0:=dS a0.length;
(match dY fk NN (a2,a3,a0,x0,0,a0,a1,0,0,())with
|none=>none
|some (.inl (x1,x2,x3,_))=>
some (x2,x3,x1,())
|some (.inr (x1,x2,x3,_))=>
some (0,0,false,()))
def AF:X.Cfg:=⟨E0,[],[],[⟨8,0,qE,[(.normal,qS [sP 1 RI,Uaa 2,zaa 6,Uaa 8,Uaa 9,sP 11 RI,Uaa 12,Uaa 13,Xaa 36] [(8,yab),(14,Xac)])]⟩,⟨3,1,qS [sP 1 RI,Uaa 2,zaa 6,sP 11 RI,Uaa 12,Uaa 13] [(8,yab),(14,Xac)],[(.ret,qS [zaa 6,Xaa 7] [(14,Xac)]),(.exit 0,qS [sP 1 RI,Uaa 2,zaa 6,sP 11 RI,Uaa 12,Uaa 13,Xaa 14] [(8,yab),(14,Xac)])]⟩]⟩
def tD:Ctr:=⟨101,122,[.agg yab,shU RI,shU I64],[],[⟨uai,[.agg 2,.one],[]⟩],ap4 lj⟩
theorem AA:Lk 1 tD:=ls AF aN
def kJ(a0:List (Int))(a1:Int)(a2:List (Int))(a3:Int)(a4:Int):Option (T0v):=
bif(a3==2)then(let x0:Int:=(wk .u16 (a4-a1));
some (a3,x0,0,0,()))else
bif(a3==1)then(let x0:Int:=(wk .i64 a4);
(lj a0 a1 a2 x0).bind λ(x1,x2,x3,_)=>
(bif(!x3)then(let x4:Int:=(wk .i64 a4);
some (a3,a4,0,0,0,0,(-1),x4,()))else
some (a3,a4,0,0,0,0,x1,x2,()):Option (T1R)).bind λ(x4,x5,x6,x7,x8,x9,ac)=>
some (x4,0,ac))else
some (a3,a4,0,0,())
def Ds:X.Cfg:=⟨E0,[tD],[],[⟨7,0,qE,[(.normal,qS [zaa 5,zaa 6,zaa 7] [(12,uac),(14,Xae),(16,Xac)])]⟩]⟩
def rd:Ctr:=⟨54,123,[.agg yab,shU RI,.agg uac],[],[⟨Xae,[.agg 4],[]⟩],ap5 kJ⟩
theorem vP:Lk 2 rd:=ls Ds (aC AA aN)
def ir:T35->Option (T35⊕T38):=λ(v0,v1,v2,v3,v4,v5,v6,v7,v8,v9,v10,v11,v12,_)=>
bif(decide (v6<v5))then((jn v9 v10 v0 v1 v6).bind λ(x0,x1,_)=>
(sf v7 v8 x0).bind λ(x2,x3,x4,_)=>
(kJ v9 v10 v0 x2 x3).bind λ(x5,x6,x7,x8,_)=>
let x9:LDCn:=[(x5,(x6,(x7,x8)))];
bif(ek 24 v12.length x9.length)then let ac:LDCn:=(List.append v12 x9);
let ae:=w64 (v6+1);
some (.inl (v0,v1,v2,v3,v4,v5,ae,v7,v8,v9,v10,v11,ac,()))else none)else
some (.inr (v0,v1,v2,v3,v4,v5,v6,false,v7,v8,v9,v10,v11,v12,()))
def iq:T2j->Option (T2j⊕T2z):=λ(v0,v1,v2,v3,v4,v5,v6,v7,v8,_)=>
bif(decide (v3<v2))then((eu v3).bind λx0=>
(dR v1 x0).bind λx1=>
(dY ir NN (v0,v3,v1,v2,v3,x1,0,v4,v5,v6,v7,v8,[],())).bind λ(x2,x3,x4,x5,x6,x7,x8,x9,ac,ae,af,ag,ah,ai,_)=>
bif(ek 24 ah.length (List.length [ai]))then let aj:List LDCn:=(List.append ah [ai]);
let ak:=w64 (x6+1);
some (.inl (x2,x4,x5,ak,ac,ae,af,ag,aj,()))else none)else
some (.inr (v0,v1,v2,v3,false,v4,v5,v6,v7,v8,()))
def md(a0:LDCe)(a1:LDLn)(a2:List (Int))(a3:Int)(a4:List (Int)):Option (LLCn×Unit):=
let x0:=dS a4.length;
(dY iq NN (a4,a4,x0,0,a0,a1,a2,a3,[],())).bind λ(x1,x2,x3,x4,x5,x6,x7,x8,x9,ac,_)=>
some (ac,())
def B8:X.Cfg:=⟨E0,[oe,CA,rd],[(52,(uaa KCn)),(53,(uaa KCn))],[⟨12,0,qS [sP 2 RI,zaa 3,zaa 4,Zaa 7 17,Uaa 8,Zaa 10 23,sP 16 RI,Uaa 17,Uaa 18,Uaa 23,Uaa 24] [(8,Xad),(10,yab),(17,Uah),(23,uag)],[(.exit 2,qS [sP 2 RI,zaa 3,zaa 4,Zaa 7 17,Uaa 8,Zaa 10 23,sP 16 RI,Uaa 17,Uaa 18,Uaa 23,Uaa 24,Xaa 25] [(8,Xad),(10,yab),(17,Uah),(23,uag)])]⟩,(lx 4 1 [sP 2 RI,zaa 3,zaa 4,Zaa 7 17,sP 16 RI,Uaa 17,Uaa 18] [(8,Xad),(10,yab),(17,Uah)] 19)]⟩
def uZ:Ctr:=⟨53,124,[.agg Xad,.agg yab,shU RI],[],[⟨Uah,[.one],[]⟩],ap5 md⟩
theorem BO:Lk 3 uZ:=ls B8 (aC tz (aC Jr (aC vP aN)))
def gu:T3U->Option (T3U⊕T3X):=λ(v0,v1,v2,v3,v4,v5,v6,v7,v8,v9,v10,v11,v12,v13,v14,v15,v16,v17,v18,v19,v20,v21,v22,v23,v24,v25,v26,v27,v28,v29,v30,v31,v32,v33,_)=>
bif(decide (v5<v4))then((eu v5).bind λx0=>
(dR v3 x0).bind λx1=>
(kJ v9 v10 v7 x1.1 x1.2).bind λ(x2,x3,x4,x5,_)=>
let x6:LDCn:=[(x2,(x3,(x4,x5)))];
bif(ek 24 v33.length x6.length)then let x7:LDCn:=(List.append v33 x6);
let x8:=w64 (v5+1);
some (.inl (v0,v1,v2,v3,v4,x8,v6,v7,v8,v9,v10,v11,v12,v13,v14,v15,v16,v17,v18,v19,v20,v21,v22,v23,v24,v25,v26,v27,v28,v29,v30,v31,v32,x7,()))else none)else
some (.inr (v0,v1,v2,v3,v4,v5,false,v6,v7,v8,v9,v10,v11,v12,v13,v14,v15,v16,v17,v18,v19,v20,v21,v22,v23,v24,v25,v26,v27,v28,v29,v30,v31,v32,v33,()))
def gt:T3b->Option (T3b⊕T3h):=λ(v0,v1,v2,v3,v4,v5,v6,v7,v8,v9,v10,v11,v12,v13,v14,_)=>
bif(decide (v2<v1))then((eu v2).bind λx0=>
(dR v0 x0).bind λx1=>
let x2:=dS x1.2.1.length;
(dY gu NN (v0,v1,v2,x1.2.1,x2,0,v3,v4,v5,v6,v7,v8,v9,v10,v11,v12,v13,v14,x1.1,x1.2.1,x1.2.2.1,x1.2.2.2.1,x1.2.2.2.2.1,x1.2.2.2.2.2.1,x1.2.2.2.2.2.2.1,x1.2.2.2.2.2.2.2,x1.1,x1.2.2.1,x1.2.2.2.1,x1.2.2.2.2.1,x1.2.2.2.2.2.1,x1.2.2.2.2.2.2.1,x1.2.2.2.2.2.2.2,[],())).bind λ(x3,x4,x5,x6,x7,x8,x9,ac,ae,af,ag,ah,ai,aj,ak,am,an,ap,aq,av,ax,ay,az,aA,aB,aD,aE,aF,aG,aH,aI,aJ,aK,aL,aM,_)=>
let aO:LDTs:=[(aF,(aG,(aH,(aI,(aJ,(aK,(aL,aM)))))))];
bif(ek 80 aq.length aO.length)then let aP:LDTs:=(List.append aq aO);
let aQ:=w64 (x5+1);
some (.inl (x3,x4,aQ,ac,ae,af,ag,ah,ai,aj,ak,am,an,ap,aP,()))else none)else
some (.inr (v0,v1,v2,false,v3,v4,v5,v6,v7,v8,v9,v10,v11,v12,v13,v14,()))
def ke(a0:LDIn)(a1:List (Int))(a2:List LI)(a3:List (Int))(a4:Int)(a5:LDCe)(a6:LDLn)(a7:LDTh):Option (T0a):=
(md a5 a6 a3 a4 a1).bind λ(x0,_)=>
let x1:=dS a7.length;
(dY gt NN (a7,x1,0,a0,a1,a2,a3,a4,a5,a6,a7,(),(),x0,[],())).bind λ(x2,x3,x4,x5,x6,x7,x8,x9,ac,ae,af,ag,ah,ai,aj)=>
some (aj)
def y8:X.Cfg:=⟨E0,[uZ,rd],[(63,Aq),(64,Aq)],[⟨12,0,qS [zaa 2,zaa 3,zaa 4,zaa 5,zaa 8,sP 20 gL,Uaa 21,Uaa 22,sP 42 fA,Uaa 43,Uaa 44] [(6,uab),(8,zac),(10,Zab),(12,uae),(16,Zad),(18,Zai)],[(.exit 2,qS [zaa 2,zaa 3,zaa 4,zaa 5,zaa 8,sP 20 gL,Uaa 21,Uaa 22,sP 42 fA,Uaa 43,Uaa 44,Xaa 45] [(6,uab),(8,zac),(10,Zab),(12,uae),(16,Zad),(18,Zai)])]⟩,(lx 4 1 [zaa 2,zaa 3,zaa 4,zaa 5,sP 20 gL,Uaa 21,Uaa 22] [(6,uab),(8,zac),(10,Zab),(12,uae)] 23)]⟩
def rR:Ctr:=⟨17,125,[.agg uab,.agg zac],[],[⟨uae,[.agg 2],[]⟩],ap8 ke⟩
theorem yT:Lk 4 rR:=ls y8 (aC BO (aC vP aN))
def vz:T0E->Option (T0E⊕((Bool×Unit)⊕(LDCn×T0D))):=λ(v0,v1,v2,v3,_)=>
bif(decide (v3<v2))then((eu v3).bind λx0=>
(dR v0 x0).bind λx1=>
(eu v3).bind λx2=>
(dR v1 x2).bind λx3=>
let x4:Bool:=(!((x1.1==x3.1)&&((x1.2.1==x3.2.1)&&((x1.2.2.1==x3.2.2.1)&&((x1.2.2.2==x3.2.2.2)&&true)))));
bif x4 then(some (.inr (.inl (false,()))))else
let x5:=w64 (v3+1);
some (.inl (v0,v1,v2,x5,())))else
some (.inr (.inr (v0,v1,v2,v3,false,())))
def fV(a0:LDCn)(a1:LDCn):Option (Bool×Unit):=
let x0:=dS a0.length;
let x1:=dS a1.length;
bif(x0 != x1)then(some (false,()))else
let x2:=dS a0.length;
(match dY vz NN (a0,a1,x2,0,())with
|none=>none
|some (.inl (x3,_))=>
some (x3,())
|some (.inr (x3,_))=>
some (true,()))
def yY:X.Cfg:=⟨E0,[],[],[⟨6,0,qS [sP 0 eq,sP 1 eq,Uaa 12,Uaa 13] [],[(.ret,qS [Xaa 4] []),(.exit 0,qS [sP 0 eq,sP 1 eq,Uaa 12,Uaa 13,Xaa 14] [])]⟩]⟩
def m7:Ctr:=⟨52,126,uL [eq,eq],[],[⟨zab,[.one],[]⟩],ap2 fV⟩
theorem rI:Lk 1 m7:=ls yY aN
def iF:T1g->Option (T1g⊕((Bool×Unit)⊕T1z)):=λ(v0,v1,v2,v3,v4,v5,_)=>
bif(decide (v1<v0))then((eu v1).bind λx0=>
(dR v2 x0).bind λx1=>
(eu v1).bind λx2=>
(dR v4 x2).bind λx3=>
(fV x1 x3).bind λ(x4,_)=>
bif(!x4)then(some (.inr (.inl (false,()))))else
let x5:=w64 (v1+1);
some (.inl (v0,x5,v2,v3,v4,v5,())))else
some (.inr (.inr (v0,v1,false,v2,v3,v4,v5,())))
def iE:T1L->Option (T1L⊕((Bool×Unit)⊕T21)):=λ(v0,v1,v2,v3,v4,v5,v6,_)=>
bif(decide (v2<v1))then((eu v2).bind λx0=>
(dR v0 x0).bind λx1=>
(eu v2).bind λx2=>
(dR v6 x2).bind λx3=>
(bif(x1.1 != x3.1)then(some (v0,v1,v2,true,v3,v4,v5,v6,()))else
bif(x1.2.1 != x3.2.1)then(some (v0,v1,v2,true,v3,v4,v5,v6,()))else
bif(x1.2.2.1 != x3.2.2.1)then(some (v0,v1,v2,true,v3,v4,v5,v6,()))else
bif(x1.2.2.2.1 != x3.2.2.2.1)then(some (v0,v1,v2,true,v3,v4,v5,v6,()))else
bif(x1.2.2.2.2.1 != x3.2.2.2.2.1)then(some (v0,v1,v2,true,v3,v4,v5,v6,()))else
bif(x1.2.2.2.2.2.1 != x3.2.2.2.2.2.1)then(some (v0,v1,v2,true,v3,v4,v5,v6,()))else
bif(x1.2.2.2.2.2.2.1 != x3.2.2.2.2.2.2.1)then(some (v0,v1,v2,true,v3,v4,v5,v6,()))else
(fV x1.2.2.2.2.2.2.2 x3.2.2.2.2.2.2.2).bind λ(x4,_)=>
some (v0,v1,v2,(!x4),v3,v4,v5,v6,()):Option (T21)).bind λ(x4,x5,x6,x7,x8)=>
bif x7 then(some (.inr (.inl (false,()))))else
let af:=w64 (x6+1);
some (.inl (x4,x5,af,x8)))else
some (.inr (.inr (v0,v1,v2,false,v3,v4,v5,v6,())))
def iZ(a0:List LDCn)(a1:LDTs)(a2:List LDCn)(a3:LDTs):Option (Bool×Unit):=
let x0:=dS a0.length;
let x1:=dS a2.length;
bif(x0 != x1)then(some (false,()))else
let x2:=dS a1.length;
let x3:=dS a3.length;
bif(x2 != x3)then(some (false,()))else
let x4:=dS a0.length;
(match dY iF NN (x4,0,a0,a1,a2,a3,())with
|none=>none
|some (.inl (x5,_))=>
some (x5,())
|some (.inr (x5,x6,x7,x8,x9,ac))=>
let af:=dS x9.length;
(match dY iE NN (x9,af,0,x8,x9,ac)with
|none=>none
|some (.inl (ag,_))=>
some (ag,())
|some (.inr (ag,_))=>
some (true,())))
def HP:X.Cfg:=⟨E0,[m7],[],[⟨6,0,qS [zaa 2,zaa 3,Uaa 27,Uaa 28] [(6,Xab),(8,Xab)],[(.ret,qS [Xaa 4] []),(.exit 0,qS [zaa 2,zaa 3,Uaa 27,Uaa 28,Xaa 29] [(6,Xab),(8,Xab)])]⟩,⟨21,1,qE,[(.normal,qS [zaa 3,sP 45 (yaa gT),Uaa 46,Uaa 47,Xaa 111] [(6,Xab),(8,Xab)])]⟩,⟨15,2,qS [zaa 3,sP 45 (yaa gT),Uaa 46,Uaa 47] [(6,Xab),(8,Xab)],[(.ret,qS [Xaa 4] []),(.exit 2,qS [zaa 3,sP 45 (yaa gT),Uaa 46,Uaa 47,Xaa 48] [(6,Xab),(8,Xab)])]⟩]⟩
def Aa:Ctr:=⟨16,127,[.agg Xab,.agg Xab],[],[⟨zab,[.one],[]⟩],ap4 iZ⟩
theorem Hg:Lk 2 Aa:=ls HP (aC rI aN)
def qU:Option (T1Y):=
bif(ug 8 8 2)then let x0:LDCe:=(List.replicate 8 (0,0));
some (0,x0,0,0,(-1),(-1),0,0,())else none
def Dv:X.Cfg:=⟨E0,[],[],[]⟩
def wo:Ctr:=⟨93,128,[],[],[⟨yag,[.agg 8],[]⟩],λh=>qU⟩
theorem C8:Lk 1 wo:=ls Dv aN
def jo(a0:Int)(a1:Int)(a2:Int)(a3:Int)(a4:Int)(a5:Int)(a6:Int)(a7:LDCn):Option (T1Y):=
(qU).bind λ(x0,x1,_)=>
some (a0,x1,a1,a2,a3,a4,a5,a6,())
def AH:X.Cfg:=⟨E0,[wo],[],[]⟩
def of:Ctr:=⟨41,129,[.agg uah],[],[⟨yag,[.agg 8],[]⟩],ap8 jo⟩
theorem tA:Lk 2 of:=ls AH (aC C8 aN)
def fE(a0:Int)(a1:Int)(a2:Int):Option (Bool×Unit):=
bif(decide (a0>=a1))then(some ((decide (a0<=a2)),()))else
some (false,())
def AE:X.Cfg:=⟨E0,[],[],[]⟩
def tC:Ctr:=⟨139,130,yak,[],[⟨zab,[.one],[]⟩],ap3 fE⟩
theorem Az:Lk 1 tC:=ls AE aN
def zm(a0:Int)(a1:Int):Option (Bool×Unit):=
some ((decide (a0<=2)),())
def Hw:X.Cfg:=⟨E0,[],[],[]⟩
def zR:Ctr:=⟨142,131,[.agg uac],[],[⟨zab,[.one],[]⟩],ap2 zm⟩
theorem GZ:Lk 1 zR:=ls Hw aN
def s9(a0:Int)(a1:Int):Option (Bool×Unit):=
(zm a0 a1).bind λ(x0,_)=>
some ((!x0),())
def AD:X.Cfg:=⟨E0,[zR],[],[]⟩
def tB:Ctr:=⟨141,132,[.agg uac],[],[⟨zab,[.one],[]⟩],ap2 s9⟩
theorem Ay:Lk 2 tB:=ls AD (aC GZ aN)
def pN:T0j->Option (T0j⊕((Int×Unit)⊕T0B)):=λ(v0,v1,v2,_)=>
bif(decide (v2<v1))then((eu v2).bind λx0=>
(dR v0 x0).bind λx1=>
(s9 x1.1 x1.2).bind λ(x2,_)=>
bif x2 then(some (.inr (.inl (v2,()))))else
let x3:=w64 (v2+1);
some (.inl (v0,v1,x3,())))else
some (.inr (.inr (v0,v1,v2,false,())))
def lK(a0:LDCe):Option (Int×Unit):=
let x0:=dS a0.length;
(match dY pN NN (a0,x0,0,())with
|none=>none
|some (.inl (x1,_))=>
some (x1,())
|some (.inr (x1,_))=>
some ((-1),()))
def sE:X.Cfg:=⟨E0,[tB],[],[⟨3,0,(qS [sP 0 fA,(1,.fn 141 []),Uaa 7,Uaa 8] []),[(.ret,qS [Uaa 4] []),(.exit 0,(qS [sP 0 fA,(1,.fn 141 []),Uaa 7,Uaa 8,Xaa 9] []))]⟩]⟩
def mt:Ctr:=⟨168,133,[shU fA,.fn 141 []],[],[⟨Uac,[.one],[]⟩],ap1 lK⟩
theorem sq:Lk 3 mt:=ls sE (aC Ay aN)
def gX(a0:LDCe):Option (Bool×Unit):=
(lK a0).bind λ(x0,_)=>
some ((decide (x0>=0)),())
def qa:X.Cfg:=⟨E0,[mt],[],[]⟩
def kt:Ctr:=⟨140,134,[shU fA,.fn 141 []],[],[⟨zab,[.one],[]⟩],ap1 gX⟩
theorem pU:Lk 4 kt:=ls qa (aC sq aN)
def qQ(a0:Int)(a1:LDCe)(a2:Int)(a3:Int)(a4:Int)(a5:Int)(a6:Int)(a7:Int):Option (Bool×Unit):=
(fE a0 0 4).bind λ(x0,_)=>
bif x0 then(let x1:Int:=(dS a1.length);
bif(x1==8)then((gX a1).bind λ(x2,_)=>
bif(!x2)then((fE a2 0 255).bind λ(x3,_)=>
bif x3 then((fE a3 0 1099511627776).bind λ(x4,_)=>
bif x4 then((fE a4 (-1) 255).bind λ(x5,_)=>
bif x5 then((fE a5 (-1) 255).bind λ(x6,_)=>
bif x6 then((fE a6 0 6).bind λ(x7,_)=>
some (x7,()))else
some (false,()))else
some (false,()))else
some (false,()))else
some (false,()))else
some (false,()))else
some (false,()))else
some (false,())
def Dc:X.Cfg:=⟨E0,[tC,kt],[],[]⟩
def vT:Ctr:=⟨103,135,[.agg Zad],[],[⟨zab,[.one],[]⟩],ap8 qQ⟩
theorem CP:Lk 5 vT:=ls Dc (aC Az (aC pU aN))
def na(a0:Int)(a1:Int)(a2:Int)(a3:Int):Option (Bool×Unit):=
bif(a0==0)then(bif(a2==0)then(some ((a3==0),()))else
some (false,()))else
bif(a0==2)then(bif(a2==0)then(some ((a3==0),()))else
some (false,()))else
bif(a0==1)then((bif(a2==(-1))then(bif(decide (a3>=0))then(some ((decide (a3<=65535)),a0,a1,a2,a3,()))else
some (false,a0,a1,a2,a3,()))else
some (false,a0,a1,a2,a3,()):Option (T0S)).bind λ(x0,x1,x2,x3,x4,_)=>
bif(x2==0)then(bif x0 then(some (true,()))else
bif(decide (x3>=0))then(bif(decide (x3<4))then(bif(decide (x4>=0))then(some ((decide (x4<32)),()))else
some (false,()))else
some (false,()))else
some (false,()))else
some (false,()))else
some (false,())
def Dd:X.Cfg:=⟨E0,[],[],[⟨7,0,qE,[(.normal,qS [zaa 1,Xaa 3] [(4,Xae)])]⟩]⟩
def vU:Ctr:=⟨105,136,[.agg Xae],[],[⟨zab,[.one],[]⟩],ap4 na⟩
theorem CQ:Lk 1 vU:=ls Dd aN
def mR(a0:Int)(a1:Int)(a2:Int)(a3:Int):Option (Bool×Unit):=
(na a0 a1 a2 a3).bind λ(x0,_)=>
some ((!x0),())
def yW:X.Cfg:=⟨E0,[vU],[],[]⟩
def rP:Ctr:=⟨104,137,[.agg Xae],[],[⟨zab,[.one],[]⟩],ap4 mR⟩
theorem yR:Lk 2 rP:=ls yW (aC CQ aN)
def gM:T0k->Option (T0k⊕((Int×Unit)⊕T0D)):=λ(v0,v1,v2,_)=>
bif(decide (v2<v1))then((eu v2).bind λx0=>
(dR v0 x0).bind λx1=>
(mR x1.1 x1.2.1 x1.2.2.1 x1.2.2.2).bind λ(x2,_)=>
bif x2 then(some (.inr (.inl (v2,()))))else
let x3:=w64 (v2+1);
some (.inl (v0,v1,x3,())))else
some (.inr (.inr (v0,v1,v2,false,())))
def ge(a0:LDCn):Option (Int×Unit):=
let x0:=dS a0.length;
(match dY gM NN (a0,x0,0,())with
|none=>none
|some (.inl (x1,_))=>
some (x1,())
|some (.inr (x1,_))=>
some ((-1),()))
def rK:X.Cfg:=⟨E0,[rP],[],[⟨3,0,(qS [sP 0 eq,(1,.fn 104 []),Uaa 7,Uaa 8] []),[(.ret,qS [Uaa 4] []),(.exit 0,(qS [sP 0 eq,(1,.fn 104 []),Uaa 7,Uaa 8,Xaa 9] []))]⟩]⟩
def lD:Ctr:=⟨134,138,[shU eq,.fn 104 []],[],[⟨Uac,[.one],[]⟩],ap1 ge⟩
theorem rG:Lk 3 lD:=ls rK (aC yR aN)
def gN(a0:LDCn):Option (Bool×Unit):=
(ge a0).bind λ(x0,_)=>
some ((decide (x0>=0)),())
def pB:X.Cfg:=⟨E0,[lD],[],[]⟩
def jY:Ctr:=⟨87,139,[shU eq,.fn 104 []],[],[⟨zab,[.one],[]⟩],ap1 gN⟩
theorem pz:Lk 4 jY:=ls pB (aC rG aN)
def fX(a0:LDCn)(a1:Int):Option (Bool×Unit):=
let x0:=dS a0.length;
bif(decide (x0<=a1))then((gN a0).bind λ(x1,_)=>
some ((!x1),()))else
some (false,())
def BT:X.Cfg:=⟨E0,[jY],[],[]⟩
def jZ:Ctr:=⟨56,140,uL [eq,I64],[],[⟨zab,[.one],[]⟩],ap2 fX⟩
theorem mj:Lk 5 jZ:=ls BT (aC pz aN)
def f6(a0:Int)(a1:Int)(a2:Int)(a3:Int)(a4:Int)(a5:Int)(a6:Int)(a7:LDCn):Option (Bool×Unit):=
(jo a0 a1 a2 a3 a4 a5 a6 a7).bind λ(x0,x1,x2,x3,x4,x5,x6,x7,_)=>
(qQ x0 x1 x2 x3 x4 x5 x6 x7).bind λ(x8,_)=>
bif(!x8)then(some (true,()))else
let x9:=dS a7.length;
bif(x9 != 8)then(some (true,()))else
(fX a7 8).bind λ(ac,_)=>
some ((!ac),())
def uv:X.Cfg:=⟨E0,[of,vT,jZ],[],[]⟩
def nQ:Ctr:=⟨102,141,[.agg uah],[],[⟨zab,[.one],[]⟩],ap8 f6⟩
theorem up:Lk 6 nQ:=ls uv (aC tA (aC CP (aC mj aN)))
def fj:T0m->Option (T0m⊕((Int×Unit)⊕T0G)):=λ(v0,v1,v2,_)=>
bif(decide (v2<v1))then((eu v2).bind λx0=>
(dR v0 x0).bind λx1=>
(f6 x1.1 x1.2.1 x1.2.2.1 x1.2.2.2.1 x1.2.2.2.2.1 x1.2.2.2.2.2.1 x1.2.2.2.2.2.2.1 x1.2.2.2.2.2.2.2).bind λ(x2,_)=>
bif x2 then(some (.inr (.inl (v2,()))))else
let x3:=w64 (v2+1);
some (.inl (v0,v1,x3,())))else
some (.inr (.inr (v0,v1,v2,false,())))
def i5(a0:LDTs):Option (Int×Unit):=
let x0:=dS a0.length;
(match dY fj NN (a0,x0,0,())with
|none=>none
|some (.inl (x1,_))=>
some (x1,())
|some (.inr (x1,_))=>
some ((-1),()))
def sD:X.Cfg:=⟨E0,[nQ],[],[⟨3,0,(qS [sP 0 (yaa gT),(1,.fn 102 []),Uaa 7,Uaa 8] []),[(.ret,qS [Uaa 4] []),(.exit 0,(qS [sP 0 (yaa gT),(1,.fn 102 []),Uaa 7,Uaa 8,Xaa 9] []))]⟩]⟩
def ms:Ctr:=⟨135,142,[shU (yaa gT),.fn 102 []],[],[⟨Uac,[.one],[]⟩],ap1 i5⟩
theorem so:Lk 7 ms:=ls sD (aC up aN)
def gW(a0:LDTs):Option (Bool×Unit):=
(i5 a0).bind λ(x0,_)=>
some ((decide (x0>=0)),())
def p9:X.Cfg:=⟨E0,[ms],[],[]⟩
def kq:Ctr:=⟨88,143,[shU (yaa gT),.fn 102 []],[],[⟨zab,[.one],[]⟩],ap1 gW⟩
theorem pT:Lk 8 kq:=ls p9 (aC so aN)
def gP(a0:LDTs):Option (Bool×Unit):=
let x0:=dS a0.length;
bif(x0==4)then((gW a0).bind λ(x1,_)=>
some ((!x1),()))else
some (false,())
def wG:X.Cfg:=⟨E0,[kq],[],[]⟩
def lp:Ctr:=⟨55,144,uL [(yaa gT)],[],[⟨zab,[.one],[]⟩],ap1 gP⟩
theorem pA:Lk 9 lp:=ls wG (aC pT aN)
def kL:T0g->Option (T0g⊕T0u):=λ(v0,v1,v2,_)=>
bif(decide (v0>=0))then(let x0:Int:=(w64 (8*v0));
(eu x0).bind λx1=>
let x2:Int:=(shR .shr .i64 v1 x1);
let x3:=wk .u8 x2;
bif(ek 1 v2.length (List.length [x3]))then let x4:List (Int):=(List.append v2 [x3]);
let x5:=w64 (v0-1);
some (.inl (x5,v1,x4,()))else none)else
some (.inr (v0,v1,false,v2,()))
def gj(a0:Int)(a1:Int)(a2:List (Int)):Option (LI×Unit):=
let x0:=w64 (a0-1);
(dY kL NN (x0,a1,a2,())).bind λ(x1,x2,x3,x4,_)=>
some (x4,())
def JJ:X.Cfg:=⟨E0,[],[],[(lx 3 0 [Zaa 0 3,Uaa 1,Uaa 2] [(3,Zaf)] 10)]⟩
def sX:Ctr:=⟨58,145,[.pk ⟨3,0,[]⟩ [0,0],shU I64,shU I64],[(3,Zaf)],[⟨Zaf,[.one],[(3,[])]⟩],ap3 gj⟩
theorem wD:Lk 1 sX:=ls JJ aN
def qt(a0:Int)(a1:Int)(a2:Int)(a3:Int)(a4:List (Int)):Option (LI×Unit):=
bif(a0==1)then(let x0:Int:=(w64 (a2+1));
let x1:=wk .u8 x0;
let x2:List (Int):=[a0,x1];
bif(ek 1 a4.length x2.length)then let x3:List (Int):=(List.append a4 x2);
(gj 2 a3 x3).bind λ(x4,_)=>
some (x4,())else none)else
let x0:List (Int):=[a0,0];
bif(ek 1 a4.length x0.length)then let x1:List (Int):=(List.append a4 x0);
let x2:=wk .i64 a1;
(gj 2 x2 x1).bind λ(x3,_)=>
some (x3,())else none
def Id:X.Cfg:=⟨E0,[sX],[],[]⟩
def Ak:Ctr:=⟨106,146,[.pk ⟨3,0,[]⟩ [0,0],.agg Xae],[(3,Zaf)],[⟨Zaf,[.one],[(3,[])]⟩],ap5 qt⟩
theorem Hq:Lk 2 Ak:=ls Id (aC wD aN)
def po:LDCn×T0g->Option ((LDCn×T0g)⊕(LDCn×T0u)):=λ(v0,v1,v2,v3,_)=>
bif(decide (v2<v1))then((eu v2).bind λx0=>
(dR v0 x0).bind λx1=>
(qt x1.1 x1.2.1 x1.2.2.1 x1.2.2.2 v3).bind λ(x2,_)=>
let x3:=w64 (v2+1);
some (.inl (v0,v1,x3,x2,())))else
some (.inr (v0,v1,v2,false,v3,()))
def jU(a0:LDCn)(a1:List (Int)):Option (LI×Unit):=
let x0:=dS a0.length;
let x1:=wk .u8 x0;
bif(ek 1 a1.length (List.length [x1]))then let x2:List (Int):=(List.append a1 [x1]);
let x3:=dS a0.length;
(dY po NN (a0,x3,0,x2,())).bind λ(x4,x5,x6,x7,x8,_)=>
some (x8,())else none
def Ic:X.Cfg:=⟨E0,[Ak],[],[(lx 4 0 [Zaa 0 3,sP 13 eq,Uaa 14,Uaa 15] [(3,Zaf)] 16)]⟩
def uY:Ctr:=⟨57,147,[.pk ⟨3,0,[]⟩ [0,0],shU eq],[(3,Zaf)],[⟨Zaf,[.one],[(3,[])]⟩],ap2 jU⟩
theorem zJ:Lk 3 uY:=ls Ic (aC Hq aN)
def fq:LLCn×T0Y->Option ((LLCn×T0Y)⊕((Int×Unit×Unit)⊕(LLCn×Int×Int×Bool×T0q))):=λ(v0,v1,v2,v3,v4,v5,_)=>
bif(decide (v2<v1))then((eu v2).bind λx0=>
(dR v0 x0).bind λx1=>
let x2:=dS x1.length;
bif(x2==0)then(some (.inr (.inl (1,(),()))))else
(fX x1 32).bind λ(x3,_)=>
bif(!x3)then(some (.inr (.inl (1,(),()))))else
(jU x1 v5).bind λ(x4,_)=>
let x5:=w64 (v2+1);
some (.inl (v0,v1,x5,v3,v4,x4,())))else
some (.inr (.inr (v0,v1,v2,false,v3,v4,v5,())))
def fD:LDTs×T0Y->Option ((LDTs×T0Y)⊕(LDTs×Int×Int×Bool×T0q)):=λ(v0,v1,v2,v3,v4,v5,_)=>
bif(decide (v2<v1))then((eu v2).bind λx0=>
(dR v0 x0).bind λx1=>
let x2:=wk .u8 x1.1;
let x3:=wk .u8 x1.2.1;
let x4:=wk .u8 x1.2.2.2.2.2.1;
let x5:List (Int):=[x2,x3,x4];
bif(ek 1 v5.length x5.length)then let x6:List (Int):=(List.append v5 x5);
(gj 6 x1.2.2.1 x6).bind λ(x7,_)=>
let x8:=w64 (x1.2.2.2.1+1);
(gj 2 x8 x7).bind λ(x9,_)=>
let ac:=w64 (x1.2.2.2.2.1+1);
(gj 2 ac x9).bind λ(ae,_)=>
let af:=wk .i64 x1.2.2.2.2.2.2.1;
(gj 2 af ae).bind λ(ag,_)=>
(jU x1.2.2.2.2.2.2.2 ag).bind λ(ah,_)=>
let ai:=w64 (v2+1);
some (.inl (v0,v1,ai,v3,v4,ah,()))else none)else
some (.inr (v0,v1,v2,false,v3,v4,v5,()))
def fR(a0:List LDCn)(a1:LDTs):Option (T07):=
(let x0:=dS a0.length;
bif(decide (x0<1))then(some (true,a0,a1,()))else
let x1:=dS a0.length;
bif(decide (x1>4))then(some (true,a0,a1,()))else
(gP a1).bind λ(x2,_)=>
some ((!x2),a0,a1,()):Option (Bool×T0a)).bind λ(x0,x1,x2,_)=>
bif x0 then(some ([],1,()))else
let x3:=dS x1.length;
let x4:=wk .u8 x3;
let x5:=dS x1.length;
(match dY fq NN (x1,x5,0,x1,x2,[x4],())with
|none=>none
|some (.inl (x6,x7,_))=>
some ([],x6,())
|some (.inr (x6,x7,x8,x9,ac,ae,af,_))=>
let ag:=dS ae.length;
(dY fD NN (ae,ag,0,ac,ae,af,())).bind λ(ah,ai,aj,ak,am,an,ap,_)=>
some (ap,0,()))
def tK:X.Cfg:=⟨E0,[lp,jZ,uY,sX],[],[⟨2,0,qE,[(.normal,qS [zaa 1,Xaa 24] [(4,Xab)])]⟩,⟨7,1,qS [zaa 1,Zaa 4 11,sP 31 (yaa eq),Uaa 32,Uaa 33] [(4,Xab),(11,Zaf)],[(.ret,(qS [Zaa 2 7,Uaa 3] [(7,uL [N1])])),(.exit 0,qS [zaa 1,Zaa 4 11,sP 31 (yaa eq),Uaa 32,Uaa 33,Xaa 34] [(4,Xab),(11,Zaf)])]⟩,⟨17,2,qS [Zaa 4 11,sP 50 (yaa gT),Uaa 51,Uaa 52] [(4,Xab),(11,Zaf)],[(.exit 2,qS [Zaa 4 11,sP 50 (yaa gT),Uaa 51,Uaa 52,Xaa 53] [(4,Xab),(11,Zaf)])]⟩]⟩
def mK:Ctr:=⟨18,148,[.agg Xab],[],[⟨uL [(uaa CB),I64],[.one,.one],[]⟩],ap2 fR⟩
theorem tG:Lk 10 mK:=ls tK (aC pA (aC mj (aC zJ (aC wD aN))))
def yw:T0K->Option (T0K⊕((Bool×Unit)⊕(LI×T0H))):=λ(v0,v1,v2,v3,_)=>
bif(decide (v3<v2))then((eu v3).bind λx0=>
(dR v1 x0).bind λx1=>
bif(decide (x1<1))then(some (.inr (.inl (false,()))))else
bif(decide (x1>32))then(some (.inr (.inl (false,()))))else
let x2:=w64 (v3+1);
some (.inl (v0,v1,v2,x2,())))else
some (.inr (.inr (v0,v1,v2,v3,false,())))
def nb(a0:List (Int)):Option (Bool×Unit):=
let x0:=dS a0.length;
(match dY yw NN (a0,a0,x0,0,())with
|none=>none
|some (.inl (x1,_))=>
some (x1,())
|some (.inr (x1,_))=>
let x6:=dS x1.length;
bif(decide (x6>=1))then(let x7:Int:=(dS x1.length);
some ((decide (x7<=4)),()))else
some (false,()))
def De:X.Cfg:=⟨E0,[],[],[⟨3,0,qS [sP 0 RI,sP 5 RI,Uaa 6,Uaa 7] [],[(.ret,qS [Xaa 2] []),(.exit 0,qS [sP 0 RI,sP 5 RI,Uaa 6,Uaa 7,Xaa 8] [])]⟩]⟩
def rb:Ctr:=⟨84,152,uL [RI],[],[⟨zab,[.one],[]⟩],ap1 nb⟩
theorem vO:Lk 1 rb:=ls De aN
def qT(a0:Int):Option (T0r):=
(bif(a0==1)then(some (a0,true,false,false,false,false,()))else
bif(a0==15)then(some (a0,true,false,false,false,false,()))else
bif(a0==19)then(some (a0,true,false,false,false,false,()))else
bif(a0==20)then(some (a0,true,false,false,false,false,()))else
some (a0,(a0==21),false,false,false,false,()):Option (Int×Bool×T0r)).bind λ(x0,x1,_)=>
bif x1 then(some (true,false,false,true,()))else
bif(x0==2)then(some (true,true,false,false,()))else
bif(x0==16)then(some (true,true,false,true,()))else
bif(x0==17)then(some (true,true,false,true,()))else
bif(x0==18)then(some (false,false,false,true,()))else
bif(x0==23)then(some (false,false,false,true,()))else
bif(x0==22)then(some (true,false,false,false,()))else
bif(x0==0)then(some (false,false,false,false,()))else
bif(x0==24)then(some (false,false,false,false,()))else
some (true,true,true,false,())
def Du:X.Cfg:=⟨E0,[],[],[⟨3,0,qE,[(.normal,qS [zaa 2,Uaa 3,Xaa 4] [(6,Uag)])]⟩]⟩
def wn:Ctr:=⟨143,153,Uac,[],[⟨Uag,[.agg 4],[]⟩],ap1 qT⟩
theorem C7:Lk 1 wn:=ls Du aN
def gO(a0:Bool)(a1:Int)(a2:Int):Option (Bool×Unit):=
bif(a1==0)then(some (true,()))else
bif a0 then(bif(decide (a1>0))then(some ((decide (a1<=a2)),()))else
some (false,()))else
some (false,())
def B7:X.Cfg:=⟨E0,[],[],[]⟩
def uX:Ctr:=⟨144,154,uL [.bool,I64,I64],[],[⟨zab,[.one],[]⟩],ap3 gO⟩
theorem BN:Lk 1 uX:=ls B7 aN
def oG(a0:Int):Option (Bool×Unit):=
bif(a0==18)then(some (true,()))else
bif(a0==19)then(some (true,()))else
bif(a0==20)then(some (true,()))else
some ((a0==21),())
def FS:X.Cfg:=⟨E0,[],[],[]⟩
def sW:Ctr:=⟨109,155,Uac,[],[⟨zab,[.one],[]⟩],ap1 oG⟩
theorem xA:Lk 1 sW:=ls FS aN
def qr(a0:Int):Option (Int×Unit):=
(oG a0).bind λ(x0,_)=>
bif x0 then(some (63,()))else
bif(a0==15)then(some (3,()))else
bif(a0==23)then(some (15,()))else
some (65535,())
def Ib:X.Cfg:=⟨E0,[sW],[],[]⟩
def Aj:Ctr:=⟨145,156,Uac,[],[⟨Uac,[.one],[]⟩],ap1 qr⟩
theorem Hp:Lk 2 Aj:=ls Ib (aC xA aN)
def mc(a0:Int)(a1:Int)(a2:Int)(a3:Int)(a4:Int):Option (Bool×Unit):=
bif(decide (a0<0))then(some (false,()))else
bif(decide (a0>24))then(some (false,()))else
(qT a0).bind λ(x0,x1,x2,x3,_)=>
(gO x0 a1 7).bind λ(x4,_)=>
bif x4 then((gO x1 a2 7).bind λ(x5,_)=>
bif x5 then((gO x2 a3 7).bind λ(x6,_)=>
bif x6 then((qr a0).bind λ(x7,_)=>
(gO x3 a4 x7).bind λ(x8,_)=>
some (x8,()))else
some (false,()))else
some (false,()))else
some (false,())
def FR:X.Cfg:=⟨E0,[wn,uX,Aj],[],[]⟩
def yj:Ctr:=⟨108,157,[.agg Uad],[],[⟨zab,[.one],[]⟩],ap5 mc⟩
theorem E6:Lk 3 yj:=ls FR (aC C7 (aC BN (aC Hp aN)))
def lm:T1w->Option (T1w⊕((Int×Unit)⊕T1M)):=λ(v0,v1,v2,v3,v4,v5,_)=>
bif(decide (v2<v1))then((eu v2).bind λx0=>
(dR v0 x0).bind λx1=>
let x2:=dS x1.length;
(eu v2).bind λx3=>
(dR v4 x3).bind λx4=>
bif(decide (x2>x4))then(some (.inr (.inl (1,()))))else
let x5:=w64 (v2+1);
some (.inl (v0,v1,x5,v3,v4,v5,())))else
some (.inr (.inr (v0,v1,v2,false,v3,v4,v5,())))
def lk:T1I->Option (T1I⊕((Int×Unit)⊕T1Z)):=λ(v0,v1,v2,v3,v4,v5,v6,_)=>
bif(decide (v3<v2))then((match((eu v3).bind λx0=>
(dR v1 x0).bind λx1=>
(mc x1.1 x1.2.1 x1.2.2.1 x1.2.2.2.1 x1.2.2.2.2).bind λ(x2,_)=>
bif(!x2)then(some (.inl (5,())))else
((oG x1.1).bind λ(x3,_)=>
bif x3 then(let x4:Int:=(dS v4.length);
bif(decide (x1.2.2.2.2>=x4))then(some (v0,v1,v2,v3,true,v4,v5,v6,()))else
bif(x1.1==15)then(let x5:Int:=(dS v5.length);
some (v0,v1,v2,v3,(decide (x1.2.2.2.2>=x5)),v4,v5,v6,()))else
some (v0,v1,v2,v3,false,v4,v5,v6,()))else
bif(x1.1==15)then(let x4:Int:=(dS v5.length);
some (v0,v1,v2,v3,(decide (x1.2.2.2.2>=x4)),v4,v5,v6,()))else
some (v0,v1,v2,v3,false,v4,v5,v6,()):Option (T1Z)).bind λ(x3,x4,x5,x6,x7,x8)=>
bif x7 then(some (.inr (6,x4,x5,x6,x8)))else
some (.inr (x3,x4,x5,x6,x8)):Option ((Int×Unit)⊕T1I))with
|none=>none
|some (.inl (x0,_))=>
some (.inr (.inl (x0,())))
|some (.inr (x0,x1,x2,x3,x4,x5,x6,_))=>
let x7:=w64 (x3+1);
some (.inl (x0,x1,x2,x7,x4,x5,x6,()))))else
some (.inr (.inr (v0,v1,v2,v3,false,v4,v5,v6,())))
def me(a0:LDIn)(a1:List (Int))(a2:List LI):Option (Int×Unit):=
(nb a1).bind λ(x0,_)=>
bif(!x0)then(some (1,()))else
let x1:=dS a2.length;
let x2:=dS a1.length;
bif(x1 != x2)then(some (1,()))else
let x3:=dS a2.length;
(match dY lm NN (a2,x3,0,a0,a1,a2,())with
|none=>none
|some (.inl (x4,_))=>
some (x4,())
|some (.inr (x4,x5,x6,x7,x8,x9))=>
let ae:=dS x8.length;
bif(ae==0)then(some (3,()))else
let af:=dS x8.length;
bif(decide (af>64))then(some (3,()))else
let ag:=dS x8.length;
(match dY lk NN (0,x8,ag,0,x8,x9)with
|none=>none
|some (.inl (ah,_))=>
some (ah,())
|some (.inr (ah,_))=>
some (ah,())))
def FU:X.Cfg:=⟨E0,[rb,yj,sW],[],[⟨6,0,qS [zaa 1,sP 22 (yaa RW),Uaa 23,Uaa 24] [(4,uab)],[(.ret,qS [Uaa 2] []),(.exit 0,qS [zaa 1,sP 22 (yaa RW),Uaa 23,Uaa 24,Xaa 25] [(4,uab)])]⟩,⟨27,1,qE,[(.normal,qS [zaa 1,Uaa 5,sP 49 ff,Uaa 50,Uaa 51,Xaa 81] [(4,uab)])]⟩,⟨22,2,qE,[(.ret,qS [Uaa 2] []),(.normal,qS [zaa 1,Uaa 5,sP 49 ff,Uaa 50,Uaa 51] [(4,uab)])]⟩,⟨19,3,qS [zaa 1,Uaa 5,sP 49 ff,Uaa 50,Uaa 51] [(4,uab)],[(.ret,qS [Uaa 2] []),(.exit 2,qS [zaa 1,Uaa 5,sP 49 ff,Uaa 50,Uaa 51,Xaa 52] [(4,uab)])]⟩]⟩
def yl:Ctr:=⟨63,158,[.agg uab],[],[⟨Uac,[.one],[]⟩],ap3 me⟩
theorem E8:Lk 4 yl:=ls FU (aC vO (aC E6 (aC xA aN)))
def fO:T24->Option (T24⊕((Bool×Unit)⊕T2l)):=λ(v0,v1,v2,v3,v4,v5)=>
bif(decide (v2<v1))then((eu v2).bind λx0=>
(dR v0 x0).bind λx1=>
let x2:=dS x1.length;
(eu v2).bind λx3=>
(dR v4 x3).bind λx4=>
bif(x2 != x4)then(some (.inr (.inl (false,()))))else
(eu v2).bind λx5=>
(dR v4 x5).bind λx6=>
(fX x1 x6).bind λ(x7,_)=>
bif(!x7)then(some (.inr (.inl (false,()))))else
let x8:=w64 (v2+1);
some (.inl (v0,v1,x8,v3,v4,v5)))else
some (.inr (.inr (v0,v1,v2,false,v3,v4,v5)))
def iP(a0:LDIn)(a1:List (Int))(a2:List LI)(a3:List LDCn)(a4:LDTs):Option (Bool×Unit):=
(me a0 a1 a2).bind λ(x0,_)=>
bif(x0 != 0)then(some (false,()))else
let x1:=dS a3.length;
let x2:=dS a1.length;
bif(x1 != x2)then(some (false,()))else
let x3:=dS a3.length;
(match dY fO NN (a3,x3,0,a0,a1,a2,a3,a4,())with
|none=>none
|some (.inl (x4,_))=>
some (x4,())
|some (.inr (x4,x5,x6,x7,x8,x9,ac,ae,af,_))=>
(gP af).bind λ(ag,_)=>
some (ag,()))
def yZ:X.Cfg:=⟨E0,[yl,jZ,lp],[],[⟨6,0,qS [zaa 2,zaa 3,sP 20 (yaa eq),Uaa 21,Uaa 22] [(6,uab),(8,Xab)],[(.ret,qS [Xaa 4] []),(.exit 0,qS [zaa 2,zaa 3,sP 20 (yaa eq),Uaa 21,Uaa 22,Xaa 23] [(6,uab),(8,Xab)])]⟩]⟩
def rQ:Ctr:=⟨20,159,[.agg uab,.agg Xab],[],[⟨zab,[.one],[]⟩],ap5 iP⟩
theorem yS:Lk 10 rQ:=ls yZ (aC E8 (aC mj (aC pA aN)))
def qu(a0:Int)(a1:Int)(a2:Int)(a3:Int):Option (Bool×Unit):=
bif(a0==1)then(some ((a2==(-1)),()))else
some (false,())
def xI:X.Cfg:=⟨E0,[],[],[]⟩
def qM:Ctr:=⟨65,160,[.agg Xae],[],[⟨zab,[.one],[]⟩],ap4 qu⟩
theorem xB:Lk 1 qM:=ls xI aN
def nW:T0k->Option (T0k⊕((Int×Unit)⊕T0D)):=λ(v0,v1,v2,_)=>
bif(decide (v2<v1))then((eu v2).bind λx0=>
(dR v0 x0).bind λx1=>
(qu x1.1 x1.2.1 x1.2.2.1 x1.2.2.2).bind λ(x2,_)=>
bif x2 then(some (.inr (.inl (v2,()))))else
let x3:=w64 (v2+1);
some (.inl (v0,v1,x3,())))else
some (.inr (.inr (v0,v1,v2,false,())))
def kj(a0:LDCn):Option (Int×Unit):=
let x0:=dS a0.length;
(match dY nW NN (a0,x0,0,())with
|none=>none
|some (.inl (x1,_))=>
some (x1,())
|some (.inr (x1,_))=>
some ((-1),()))
def pZ:X.Cfg:=⟨E0,[qM],[],[⟨3,0,(qS [sP 0 eq,(1,.fn 65 []),Uaa 7,Uaa 8] []),[(.ret,qS [Uaa 4] []),(.exit 0,(qS [sP 0 eq,(1,.fn 65 []),Uaa 7,Uaa 8,Xaa 9] []))]⟩]⟩
def kp:Ctr:=⟨134,161,[shU eq,.fn 65 []],[],[⟨Uac,[.one],[]⟩],ap1 kj⟩
theorem pS:Lk 2 kp:=ls pZ (aC xB aN)
def gi(a0:LDCn):Option (Bool×Unit):=
(kj a0).bind λ(x0,_)=>
some ((decide (x0>=0)),())
def oc:X.Cfg:=⟨E0,[kp],[],[]⟩
def gp:Ctr:=⟨87,162,[shU eq,.fn 65 []],[],[⟨zab,[.one],[]⟩],ap1 gi⟩
theorem jq:Lk 3 gp:=ls oc (aC pS aN)
def nJ(a0:LDCn):Option (Bool×Unit):=
(gi a0).bind λ(x0,_)=>
some (x0,())
def uy:X.Cfg:=⟨E0,[gp],[],[]⟩
def nT:Ctr:=⟨86,163,[shU eq,.ip [.fn 65 []]],[],[⟨zab,[.one],[]⟩],ap1 nJ⟩
theorem ut:Lk 4 nT:=ls uy (aC jq aN)
def nV:LLCn×T02->Option ((LLCn×T02)⊕((Int×Unit)⊕(LLCn×T0d))):=λ(v0,v1,v2,_)=>
bif(decide (v2<v1))then((eu v2).bind λx0=>
(dR v0 x0).bind λx1=>
(nJ x1).bind λ(x2,_)=>
bif x2 then(some (.inr (.inl (v2,()))))else
let x3:=w64 (v2+1);
some (.inl (v0,v1,x3,())))else
some (.inr (.inr (v0,v1,v2,false,())))
def ki(a0:List LDCn):Option (Int×Unit):=
let x0:=dS a0.length;
(match dY nV NN (a0,x0,0,())with
|none=>none
|some (.inl (x1,_))=>
some (x1,())
|some (.inr (x1,_))=>
some ((-1),()))
def pY:X.Cfg:=⟨E0,[nT],[],[⟨3,0,(qS [sP 0 (yaa eq),(1,.fn 86 [.ip [.fn 65 []]]),Uaa 7,Uaa 8] []),[(.ret,qS [Uaa 4] []),(.exit 0,(qS [sP 0 (yaa eq),(1,.fn 86 [.ip [.fn 65 []]]),Uaa 7,Uaa 8,Xaa 9] []))]⟩]⟩
def ko:Ctr:=⟨133,164,[shU (yaa eq),.fn 86 [.ip [.fn 65 []]]],[],[⟨Uac,[.one],[]⟩],ap1 ki⟩
theorem pR:Lk 5 ko:=ls pY (aC ut aN)
def jg(a0:List LDCn):Option (Bool×Unit):=
(ki a0).bind λ(x0,_)=>
some ((decide (x0>=0)),())
def oa:X.Cfg:=⟨E0,[ko],[],[]⟩
def ju:Ctr:=⟨85,165,[shU (yaa eq),.fn 86 [.ip [.fn 65 []]]],[],[⟨zab,[.one],[]⟩],ap1 jg⟩
theorem n7:Lk 6 ju:=ls oa (aC pR aN)
def nI(a0:Int)(a1:Int)(a2:Int)(a3:Int)(a4:Int)(a5:Int)(a6:Int)(a7:LDCn):Option (Bool×Unit):=
(gi a7).bind λ(x0,_)=>
some (x0,())
def ux:X.Cfg:=⟨E0,[gp],[],[]⟩
def nS:Ctr:=⟨89,166,[.agg uah,.ip [.fn 65 []]],[],[⟨zab,[.one],[]⟩],ap8 nI⟩
theorem ur:Lk 4 nS:=ls ux (aC jq aN)
def om:T0m->Option (T0m⊕((Int×Unit)⊕T0G)):=λ(v0,v1,v2,_)=>
bif(decide (v2<v1))then((eu v2).bind λx0=>
(dR v0 x0).bind λx1=>
(nI x1.1 x1.2.1 x1.2.2.1 x1.2.2.2.1 x1.2.2.2.2.1 x1.2.2.2.2.2.1 x1.2.2.2.2.2.2.1 x1.2.2.2.2.2.2.2).bind λ(x2,_)=>
bif x2 then(some (.inr (.inl (v2,()))))else
let x3:=w64 (v2+1);
some (.inl (v0,v1,x3,())))else
some (.inr (.inr (v0,v1,v2,false,())))
def kF(a0:LDTs):Option (Int×Unit):=
let x0:=dS a0.length;
(match dY om NN (a0,x0,0,())with
|none=>none
|some (.inl (x1,_))=>
some (x1,())
|some (.inr (x1,_))=>
some ((-1),()))
def q9:X.Cfg:=⟨E0,[nS],[],[⟨3,0,(qS [sP 0 (yaa gT),(1,.fn 89 [.ip [.fn 65 []]]),Uaa 7,Uaa 8] []),[(.ret,qS [Uaa 4] []),(.exit 0,(qS [sP 0 (yaa gT),(1,.fn 89 [.ip [.fn 65 []]]),Uaa 7,Uaa 8,Xaa 9] []))]⟩]⟩
def kQ:Ctr:=⟨135,167,[shU (yaa gT),.fn 89 [.ip [.fn 65 []]]],[],[⟨Uac,[.one],[]⟩],ap1 kF⟩
theorem qY:Lk 5 kQ:=ls q9 (aC ur aN)
def jD(a0:LDTs):Option (Bool×Unit):=
(kF a0).bind λ(x0,_)=>
some ((decide (x0>=0)),())
def oR:X.Cfg:=⟨E0,[kQ],[],[]⟩
def jH:Ctr:=⟨88,168,[shU (yaa gT),.fn 89 [.ip [.fn 65 []]]],[],[⟨zab,[.one],[]⟩],ap1 jD⟩
theorem oM:Lk 6 jH:=ls oR (aC qY aN)
def pq(a0:List LDCn)(a1:LDTs):Option (Bool×Unit):=
(jg a0).bind λ(x0,_)=>
bif x0 then(some (true,()))else
(jD a1).bind λ(x1,_)=>
some (x1,())
def wH:X.Cfg:=⟨E0,[ju,jH],[],[]⟩
def pI:Ctr:=⟨35,169,[.agg Xab,.fn 65 []],[],[⟨zab,[.one],[]⟩],ap2 pq⟩
theorem wE:Lk 7 pI:=ls wH (aC n7 (aC oM aN))
def to(a0:List LDCn)(a1:LDTs):Option (Bool×Unit):=
(pq a0 a1).bind λ(x0,_)=>
some (x0,())
def AI:X.Cfg:=⟨E0,[pI],[],[]⟩
def tE:Ctr:=⟨22,170,[.agg Xab],[],[⟨zab,[.one],[]⟩],ap2 to⟩
theorem AB:Lk 8 tE:=ls AI (aC wE aN)
def fv:T0E->Option (T0E⊕((Bool×Unit)⊕(LDCn×T0D))):=λ(v0,v1,v2,v3,_)=>
bif(decide (v3<v2))then((eu v3).bind λx0=>
(dR v0 x0).bind λx1=>
(eu v3).bind λx2=>
(dR v1 x2).bind λx3=>
let x4:Bool:=(!((x1.1==x3.1)&&((x1.2.1==x3.2.1)&&((x1.2.2.1==x3.2.2.1)&&((x1.2.2.2==x3.2.2.2)&&true)))));
bif x4 then(some (.inr (.inl (false,()))))else
let x5:=w64 (v3+1);
some (.inl (v0,v1,v2,x5,())))else
some (.inr (.inr (v0,v1,v2,v3,false,())))
def kx(a0:LDCn)(a1:LDCn):Option (Bool×Unit):=
let x0:=dS a0.length;
let x1:=dS a1.length;
bif(x0 != x1)then(some (false,()))else
let x2:=dS a0.length;
(match dY fv NN (a0,a1,x2,0,())with
|none=>none
|some (.inl (x3,_))=>
some (x3,())
|some (.inr (x3,_))=>
some (true,()))
def fU(a0:Int)(a1:Int)(a2:Int):Option (Bool×Unit):=
bif(decide (a0>=a1))then(some ((decide (a0<=a2)),()))else
some (false,())
def yV:X.Cfg:=⟨E0,[],[],[]⟩
def rO:Ctr:=⟨136,180,yak,[],[⟨zab,[.one],[]⟩],ap3 fU⟩
theorem yQ:Lk 1 rO:=ls yV aN
def tT(a0:Int)(a1:Int)(a2:Int)(a3:Int)(a4:Int)(a5:Int)(a6:LDCn)(a7:LDCn):Option (Bool×Unit):=
(fU a0 0 3).bind λ(x0,_)=>
bif x0 then((fU a1 0 3).bind λ(x1,_)=>
bif x1 then((fU a2 0 6).bind λ(x2,_)=>
bif x2 then((fU a3 0 1099511627776).bind λ(x3,_)=>
bif x3 then((fU a4 0 255).bind λ(x4,_)=>
bif x4 then((fU a5 0 15).bind λ(x5,_)=>
bif x5 then((fX a6 3).bind λ(x6,_)=>
bif x6 then((fX a7 16).bind λ(x7,_)=>
some (x7,()))else
some (false,()))else
some (false,()))else
some (false,()))else
some (false,()))else
some (false,()))else
some (false,()))else
some (false,())
def BS:X.Cfg:=⟨E0,[rO,jZ],[],[]⟩
def uD:Ctr:=⟨96,181,[.agg uad],[],[⟨zab,[.one],[]⟩],ap8 tT⟩
theorem BB:Lk 6 uD:=ls BS (aC yQ (aC mj aN))
def mS(a0:Int)(a1:Int)(a2:Int)(a3:Int)(a4:Int)(a5:Int)(a6:LDCn)(a7:LDCn):Option (T07):=
(tT a0 a1 a2 a3 a4 a5 a6 a7).bind λ(x0,_)=>
bif(!x0)then(some ([],1,()))else
let x1:=wk .u8 a0;
let x2:=wk .u8 a1;
let x3:=wk .u8 a2;
let x4:List (Int):=[x1,x2,x3];
(gj 6 a3 x4).bind λ(x5,_)=>
let x6:=wk .u8 a4;
let x7:=wk .u8 a5;
let x8:List (Int):=[x6,x7];
bif(ek 1 x5.length x8.length)then let x9:List (Int):=(List.append x5 x8);
(jU a6 x9).bind λ(ac,_)=>
(jU a7 ac).bind λ(ae,_)=>
some (ae,0,())else none
def y9:X.Cfg:=⟨E0,[uD,sX,uY],[],[]⟩
def m8:Ctr:=⟨49,182,[.agg uad],[],[⟨uL [(uaa CB),I64],[.one,.one],[]⟩],ap8 mS⟩
theorem rJ:Lk 7 m8:=ls y9 (aC BB (aC wD (aC zJ aN)))
def mH(a0:Int)(a1:List (Int))(a2:Bool):Option (LI×T06):=
bif a2 then(some ([],a1,true,()))else
let x0:=dS a1.length;
bif(decide (a0>x0))then(some ([],a1,true,()))else
(eu a0).bind λx1=>
bif(iz 0 x1 a1.length)then let x2:List (Int):=(lF a1 0 (Nat.sub x1 0));
(eu a0).bind λx3=>
bif(iz x3 a1.length a1.length)then let x4:List (Int):=(lF a1 x3 (Nat.sub a1.length x3));
some (x2,x4,a2,())else none else none
def tL:X.Cfg:=⟨E0,[],[],[]⟩
def mL:Ctr:=⟨137,183,[.ptr ⟨2,0,[]⟩ [0],shU I64],[(2,Zag)],[⟨uL [(yaa CB)],[.one],[(2,Zag)]⟩],ap3 mH⟩
theorem tH:Lk 1 mL:=ls tL aN
def pt:Int×LI×T0x->Option ((Int×LI×T0x)⊕(Int×LI×Int×Int×Bool×T06)):=λ(v0,v1,v2,v3,v4)=>
bif(decide (v3<v2))then((eu v3).bind λx0=>
(dR v1 x0).bind λx1=>
let x2:Int:=(shR .shl .i64 v0 8);
let x3:=wk .i64 x1;
let x4:Int:=(arR .or .i64 x2 x3);
let x5:=w64 (v3+1);
some (.inl (x4,v1,v2,x5,v4)))else
some (.inr (v0,v1,v2,v3,false,v4))
def eF(a0:Int)(a1:List (Int))(a2:Bool):Option (T0h):=
(mH a0 a1 a2).bind λ(x0,x1)=>
let x3:=dS x0.length;
(dY pt NN (0,x0,x3,0,x1)).bind λ(x4,x5,x6,x7,x8,x9)=>
some (x4,x9)
def rL:X.Cfg:=⟨E0,[mL],[],[(lx 4 0 [zaa 0,Uaa 5,sP 10 (yaa CB),Uaa 11,Uaa 12] [(2,Zag)] 13)]⟩
def gg:Ctr:=⟨97,184,[.ptr ⟨2,0,[]⟩ [0],shU I64],[(2,Zag)],[⟨Uac,[.one],[(2,Zag)]⟩],ap3 eF⟩
theorem iT:Lk 2 gg:=ls rL (aC tH aN)
def mI(a0:List (Int))(a1:Bool):Option (Int×Int×T0x):=
(eF 1 a0 a1).bind λ(x0,x1,x2,_)=>
let x3:=wk .u8 x0;
(eF 1 x1 x2).bind λ(x4,x5,x6,_)=>
(eF 2 x5 x6).bind λ(x7,x8)=>
bif(x3==1)then(let ac:Int:=(w64 (x4-1));
some (x3,0,ac,x7,x8))else
let ac:=wk .u16 x7;
some (x3,ac,x4,0,x8)
def tN:X.Cfg:=⟨E0,[gg],[],[]⟩
def mN:Ctr:=⟨138,185,[.ptr ⟨2,0,[]⟩ [0]],[(2,Zag)],[⟨Xae,[.agg 4],[(2,Zag)]⟩],ap2 mI⟩
theorem tJ:Lk 3 mN:=ls tN (aC iT aN)
def qV:Int×LI×Bool×LDCn×Unit->Option ((Int×LI×Bool×LDCn×Unit)⊕(Int×Bool×LI×Bool×LDCn×Unit)):=λ(v0,v1,v2,v3,_)=>
bif(decide (v0>0))then(bif(!v2)then((mI v1 v2).bind λ(x0,x1,x2,x3,x4,x5,_)=>
let x6:LDCn:=[(x0,(x1,(x2,x3)))];
bif(ek 24 v3.length x6.length)then let x7:LDCn:=(List.append v3 x6);
let x8:=w64 (v0-1);
some (.inl (x8,x4,x5,x7,()))else none)else
some (.inr (v0,false,v1,v2,v3,())))else
some (.inr (v0,false,v1,v2,v3,()))
def jB(a0:List (Int))(a1:Bool):Option (LDCn×T06):=
(eF 1 a0 a1).bind λ(x0,x1,x2,_)=>
(dY qV NN (x0,x1,x2,[],())).bind λ(x3,x4,x5,x6,x7,_)=>
some (x7,x5,x6,())
def tM:X.Cfg:=⟨E0,[gg,mN],[],[(lx 4 0 [zaa 0,Zaa 3 9,Uaa 4] [(2,Zag),(9,uag)] 15)]⟩
def mM:Ctr:=⟨98,186,[.ptr ⟨2,0,[]⟩ [0]],[(2,Zag)],[⟨uag,[.one],[(2,Zag)]⟩],ap2 jB⟩
theorem tI:Lk 4 mM:=ls tM (aC iT (aC tJ aN))
def wX(a0:List (Int))(a1:List (Int)):Option (Bool×Unit):=
let x0:ByteArray:=(tO a0);
let x1:ByteArray:=(tO a1);
some ((Pu x0 x1),())
def FT:X.Cfg:=⟨E0,[],[],[]⟩
def yk:Ctr:=⟨99,187,uL [(yaa CB),(yaa CB)],[],[⟨zab,[.one],[]⟩],ap2 wX⟩
theorem E7:Lk 1 yk:=ls FT aN
def tp(a0:List (Int)):Option (T29):=
(eF 1 a0 false).bind λ(x0,x1,x2,_)=>
(eF 1 x1 x2).bind λ(x3,x4,x5,_)=>
(eF 1 x4 x5).bind λ(x6,x7,x8,_)=>
(eF 6 x7 x8).bind λ(x9,ac,ae,_)=>
(eF 1 ac ae).bind λ(af,ag,ah,_)=>
(eF 1 ag ah).bind λ(ai,aj,ak,_)=>
(jB aj ak).bind λ(am,an,ap,_)=>
(jB an ap).bind λ(aq,av,ax,_)=>
bif ax then(some (0,0,0,0,0,0,[],[],4,()))else
(mS x0 x3 x6 x9 af ai am aq).bind λ(ay,az,_)=>
(let aA:=dS av.length;
bif(decide (aA>0))then(some (true,0,0,0,0,0,0,(),(),x0,x3,x6,x9,af,ai,am,aq,()))else
bif(az != 0)then(some (true,0,0,0,0,0,0,(),(),x0,x3,x6,x9,af,ai,am,aq,()))else
(wX ay a0).bind λ(aB,_)=>
some ((!aB),0,0,0,0,0,0,(),(),x0,x3,x6,x9,af,ai,am,aq,()):Option (Bool×Int×Int×Int×Int×Int×Int×Unit×Unit×T1S)).bind λ(aA,aB,aD,aE,aF,aG,aH,aI,aJ,aK,aL,aM,aO,aP,aQ,aR,aS,_)=>
bif aA then(some (0,0,0,0,0,0,[],[],5,()))else
some (aK,aL,aM,aO,aP,aQ,aR,aS,0,())
def AJ:X.Cfg:=⟨E0,[gg,mM,m8,yk],[],[⟨10,0,qE,[(.normal,qS [zaa 2,zaa 5,Xaa 55] [(6,zag),(12,uad)])]⟩]⟩
def tF:Ctr:=⟨50,188,uL [(yaa CB)],[],[⟨uL [I64,I64,I64,I64,I64,I64,eq,eq,I64],[.agg 8,.one],[]⟩],ap1 tp⟩
theorem AC:Lk 8 tF:=ls AJ (aC iT (aC tI (aC rJ (aC E7 aN))))
def zn(a0:Int)(a1:Int)(a2:Int)(a3:Int)(a4:Int)(a5:Int)(a6:LDCn)(a7:LDCn)(a8:Int)(a9:Int)(a10:Int)(a11:Int)(a12:Int)(a13:Int)(a14:LDCn)(a15:LDCn):Option (Bool×Unit):=
bif(a0==a8)then(bif(a1==a9)then(bif(a2==a10)then(bif(a3==a11)then(bif(a4==a12)then(bif(a5==a13)then((fV a6 a14).bind λ(x0,_)=>
bif x0 then((fV a7 a15).bind λ(x1,_)=>
some (x1,()))else
some (false,()))else
some (false,()))else
some (false,()))else
some (false,()))else
some (false,()))else
some (false,()))else
some (false,())
def HS:X.Cfg:=⟨E0,[m7],[],[]⟩
def Ac:Ctr:=⟨51,189,[.agg uad,.agg uad],[],[⟨zab,[.one],[]⟩],ap16 zn⟩
theorem Hi:Lk 2 Ac:=ls HS (aC rI aN)
def ii:Option (Bool×Unit):=
let x0:LDCn:=[(1,(0,(1,3)))];
(mS 0 1 0 0 0 10 x0 []).bind λ(x1,x2,_)=>
(tp x1).bind λ(x3,x4,x5,x6,x7,x8,x9,ac,ae,_)=>
bif(x2==0)then(bif(ae==0)then(let af:Int:=(dS x1.length);
bif(af==17)then(bif(iz 11 16 x1.length)then let ag:List (Int):=(lF x1 11 (Nat.sub 16 11));
let ah:ByteArray:=(tO ag);
bif(Pu ah (bytes [1,1,2,0,3]))then((zn x3 x4 x5 x6 x7 x8 x9 ac 0 1 0 0 0 10 x0 []).bind λ(ai,_)=>
some (ai,()))else
some (false,())else none)else
some (false,()))else
some (false,()))else
some (false,())
def FQ:X.Cfg:=⟨E0,[m8,tF,Ac],[],[]⟩
def yi:Ctr:=⟨15,190,[],[],[⟨zab,[.one],[]⟩],λh=>ii⟩
theorem E5:Lk 9 yi:=ls FQ (aC rJ (aC AC (aC Hi aN)))
def gK:T2w->Option (T2w⊕((Bool×Unit)⊕T2K)):=λ(v0,v1,v2,v3,v4,v5,v6,v7,v8,v9,_)=>
bif(decide (v7<v6))then((match((eu v7).bind λx0=>
(dR v8 x0).bind λx1=>
(eu v7).bind λx2=>
(dR v0 x2).bind λx3=>
let x4:=w64 (x1+x3);
bif(decide (v2<=x4))then((eu v7).bind λx5=>
(dR v8 x5).bind λx6=>
(eu v1).bind λx7=>
(dR v0 x7).bind λx8=>
let x9:=w64 (v2+x8);
bif(decide (x6<=x9))then(some (.inl (false,())))else
some (.inr (v0,v1,v2,v3,v4,v5,v6,v7,false,v8,v9,())))else
some (.inr (v0,v1,v2,v3,v4,v5,v6,v7,false,v8,v9,())):Option ((Bool×Unit)⊕T2K))with
|none=>none
|some (.inl (x0,_))=>
some (.inr (.inl (x0,())))
|some (.inr (x0,x1,x2,x3,x4,x5,x6,x7,x8,x9,ac,_))=>
let ae:=w64 (x7+1);
some (.inl (x0,x1,x2,x3,x4,x5,x6,ae,x9,ac,()))))else
some (.inr (.inr (v0,v1,v2,v3,v4,v5,v6,v7,false,v8,v9,())))
def gJ:T1q->Option (T1q⊕((Bool×Unit)⊕(LI×T1o))):=λ(v0,v1,v2,v3,v4)=>
bif(decide (v3<v2))then((eu v3).bind λx0=>
(dR v1 x0).bind λx1=>
(bif(decide (x1<0))then(some (v0,v3,x1,v1,v2,v3,true,v4))else
bif(decide (x1>=512))then(some (v0,v3,x1,v1,v2,v3,true,v4))else
(eu v3).bind λx2=>
(dR v0 x2).bind λx3=>
let x4:=w64 (x1+x3);
some (v0,v3,x1,v1,v2,v3,(decide (x4>512)),v4):Option (T2h)).bind λ(x2,x3,x4,x5,x6,x7,x8,x9)=>
bif x8 then(some (.inr (.inl (false,()))))else
(match dY gK NN (x2,x3,x4,x5,x6,x7,x3,0,x9)with
|none=>none
|some (.inl (ae,_))=>
some (.inr (.inl (ae,())))
|some (.inr (ae,af,ag,ah,ai,aj,ak,am,an,ap))=>
let av:=w64 (aj+1);
some (.inl (ae,ah,ai,av,ap))))else
some (.inr (.inr (v0,v1,v2,v3,false,v4)))
def kI(a0:List (Int))(a1:Int)(a2:List (Int)):Option (Bool×Unit):=
(nb a2).bind λ(x0,_)=>
bif(!x0)then(some (false,()))else
let x1:=dS a0.length;
let x2:=dS a2.length;
bif(x1 != x2)then(some (false,()))else
let x3:=dS a0.length;
(match dY gJ NN (a2,a0,x3,0,a0,a1,())with
|none=>none
|some (.inl (x4,_))=>
some (x4,())
|some (.inr (x4,_))=>
some (true,()))
def Dr:X.Cfg:=⟨E0,[rb],[],[⟨12,0,qE,[(.normal,qS [sP 1 RI,zaa 2,Uaa 5,Uaa 6,sP 20 RI,Uaa 21,Uaa 22,Xaa 41] [(6,yab)])]⟩,⟨18,1,qE,[(.ret,qS [Xaa 4] []),(.normal,qS [sP 1 RI,zaa 2,Uaa 5,Uaa 6,sP 20 RI,Uaa 21,Uaa 22,Uaa 42,Uaa 43,Xaa 71] [(6,yab)])]⟩,⟨15,2,qS [sP 1 RI,zaa 2,Uaa 5,Uaa 6,sP 20 RI,Uaa 21,Uaa 22,Uaa 42,Uaa 43] [(6,yab)],[(.ret,qS [Xaa 4] []),(.exit 2,qS [sP 1 RI,zaa 2,Uaa 5,Uaa 6,sP 20 RI,Uaa 21,Uaa 22,Uaa 42,Uaa 43,Xaa 44] [(6,yab)])]⟩,⟨6,3,qS [sP 1 RI,zaa 2,sP 20 RI,Uaa 21,Uaa 22] [(6,yab)],[(.ret,qS [Xaa 4] []),(.exit 0,qS [sP 1 RI,zaa 2,sP 20 RI,Uaa 21,Uaa 22,Xaa 23] [(6,yab)])]⟩]⟩
def wl:Ctr:=⟨34,192,[.agg yab,shU RI],[],[⟨zab,[.one],[]⟩],ap3 kI⟩
theorem C5:Lk 2 wl:=ls Dr (aC vO aN)
def mb(a0:List (Int))(a1:Int)(a2:Int)(a3:Int)(a4:Int):Option (Bool×Unit):=
bif(a1==0)then(bif(a3==0)then(some ((a4==0),()))else
some (false,()))else
bif(a1==2)then(bif(a3==0)then(some ((a4==0),()))else
some (false,()))else
bif(a1==1)then(bif(a2==0)then((lM a0 a3 a4).bind λ(x0,_)=>
some (x0,()))else
some (false,()))else
some (false,())
def B6:X.Cfg:=⟨E0,[pG],[],[]⟩
def pH:Ctr:=⟨37,193,[shU RI,.agg Xae],[],[⟨zab,[.one],[]⟩],ap5 mb⟩
theorem uo:Lk 2 pH:=ls B6 (aC uk aN)
def ky(a0:Int)(a1:Int)(a2:Int)(a3:Int)(a4:LDIn)(a5:List (Int))(a6:List LI):Option (Bool×Unit):=
(mb a5 a0 a1 a2 a3).bind λ(x0,_)=>
some ((!x0),())
def vD:X.Cfg:=⟨E0,[pH],[],[]⟩
def oi:Ctr:=⟨36,194,[.agg Xae,.ip uab],[],[⟨zab,[.one],[]⟩],ap7 ky⟩
theorem vB:Lk 3 oi:=ls vD (aC uo aN)
def eX:LDCn×T11->Option ((LDCn×T11)⊕((Int×Unit)⊕(LDCn×T1n))):=λ(v0,v1,v2,v3,v4,v5,_)=>
bif(decide (v5<v4))then((eu v5).bind λx0=>
(dR v0 x0).bind λx1=>
(ky x1.1 x1.2.1 x1.2.2.1 x1.2.2.2 v1 v2 v3).bind λ(x2,_)=>
bif x2 then(some (.inr (.inl (v5,()))))else
let x3:=w64 (v5+1);
some (.inl (v0,v1,v2,v3,v4,x3,())))else
some (.inr (.inr (v0,v1,v2,v3,v4,v5,false,())))
def gV(a0:LDCn)(a1:LDIn)(a2:List (Int))(a3:List LI):Option (Int×Unit):=
let x0:=dS a0.length;
(match dY eX NN (a0,a1,a2,a3,x0,0,())with
|none=>none
|some (.inl (x1,_))=>
some (x1,())
|some (.inr (x1,_))=>
some ((-1),()))
def pX:X.Cfg:=⟨E0,[oi],[],[⟨3,0,(qS [sP 0 eq,(1,.fn 36 [.ip uab]),Uaa 7,Uaa 8] []),[(.ret,qS [Uaa 4] []),(.exit 0,(qS [sP 0 eq,(1,.fn 36 [.ip uab]),Uaa 7,Uaa 8,Xaa 9] []))]⟩]⟩
def kn:Ctr:=⟨134,195,[shU eq,.fn 36 [.ip uab]],[],[⟨Uac,[.one],[]⟩],ap4 gV⟩
theorem pQ:Lk 4 kn:=ls pX (aC vB aN)
end
end Go.Proofs.YtffnecakpdhpcaaGreat
