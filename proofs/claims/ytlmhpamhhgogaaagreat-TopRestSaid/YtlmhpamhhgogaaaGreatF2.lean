import Derived.Test.YtlmhpamhhgogaaaGreatF0
set_option linter.all false
set_option maxHeartbeats 16000000
set_option maxRecDepth 100000
open Bool renaming false→zb,true→I
open Go.Proofs.Tryz renaming prog→X0
open Option renaming some→O,none→zc
open _root_ renaming List→F
namespace Go.Proofs.YtlmhpamhhgogaaaGreat
open Go.Proofs.YtlmhpamhhgogaaaGreat.Sx
def Db:=rdF 181 _ [([],pO [192,9,7,205]),([],pO [192,204,198,19,213,28])]
def Cj:=rdF 182 _ [([],pO [1536,28]),([],pO [960,211])]
def CG:=rdF 183 _ [([],pO [2304]),([],pO [2496]),([],pO [1152,22])]
def Ct:=rdF 184 _ [([],pO [3456]),([],pO [1536,28]),([],pO [1152,214])]
def Ci:=rdF 185 _ [([],pO [1920]),([11],pO [1920,35,37]),([],pO [1536,28,222])]
def B8:=rdF 186 _ [([11],pO [1920,35,37]),([10],pO [1536,28,32,34]),([],pO [576,18,204,22,24,28]),([],pO [960,19])]
def Dc:=rdF 187 _ [([],pO [3648,61,255,70]),([],pO [960,19]),([],pO [768,208])]
def Ck:=rdF 188 _ [([],pO [1920]),([],pO [192,969,7,220]),([11],pO [1920,35,37])]
def B7:=rdF 189 _ [([],pO [2496]),([],pO [1152,22])]
def Da:=rdF 190 _ [([],pO [2112,37]),([],pO [1152,22])]
def Ce:=rdF 191 _
def Bf:=rdF 193 _ [] [[8]]
def Ei:=rdF 194 _
def FV:=rdF 195 _
def HK:=rdF 197 _
def HJ:=rdF 198 _
def Fb:=rdF 199 _
def Ki:=rdF 200 _
def B5:=rdF 201 _ [([7],pO [960,19,23,25]),([],pO [0,1734,3,37,231,46,240,55])]
def C9:=rdF 202 _ [([],pO [2112]),([],pO [768,208])]
def Cr:=rdF 203 _ [([],pO [2304])]
def CV:=rdF 204 _ [([],pO [384,12,10,16,210,219,24,34])]
def B6:=rdF 205 _ [([],pO [192,12,198,16,786,34,228,43]),([],pO [960,211])]
def B4:=rdF 206 _ [([],pO [0,591,4,390,603]),([],pO [0,2310,3,46,240,55,249,64])]
def CE:=rdF 207 _
def CD:=rdF 208 _ [([],pO [192,12,795,198,16,402,618,55,249,64]),([],pO [960,211])]
def CK:=rdF 209 _ [([],pO [1344,25,795]),([],pO [0,591,4,390,795]),([],pO [192,7,393,403]),([],pO [768,208])]
def CW:=rdF 210 _ [([],pO [4416,73]),([],pO [192,7,393,211])]
def Cs:=rdF 211 _ [([],pO [3072,52])]
def CF:=rdF 212 _ [([],pO [2880,49])]
def C8:=rdF 213 _ [([],pO [2112]),([],pO [768,208])]
def C5:=rdF 214 _ [([12,13],pO [1344,25,411,230,235]),([],pO [1536,28,30,34,36,40])]
def DW:=rdF 215 _
def Cc:=rdF 216 _ [] [[15]]
def Ef:=rdF 217 _
def B3:=rdF 218 _
def Cy:=rdF 219 _ [] [[15]]
def Fz:=rdF 220 _
def BU:=rdF 221 _
def JP:=rdF 222 _
def FM:=rdF 223 _
def Hi:=rdF 225 _
def Dd:=rdF 226 _ [([],pO [192,207,390,22,216,31]),([],pO [3,0,7,9,13])]
def BV:=rdF 227 _
def DG:=rdF 228 _ [([],pO [192,12,210,6,15,9,25,219,34])]
def Il:=rdF 229 _
def Hh:=rdF 230 _ [] [[3,9]]
def Eh:=rdF 231 _
def EV:=rdF 232 _ [] [[]]
def FB:=rdF 233 _
def FC:=rdF 235 _
def FU:=rdF 236 _
def G8:=rdF 237 _
def FT:=rdF 238 _ [([],pO [1344,987,24,46,240,55])]
def GE:=rdF 239 _ [([],pO [1536])]
def Fe:=rdF 240 _
def Dq:=rdF 241 _ [([],pO [192,588,198,25,219,34])]
def C7:=rdF 242 _ [([],pO [4992,82,852]),([],pO [0,1734,4,37,1191])]
def Ff:=rdF 243 _ [([],pO [3648])]
def H5:=rdF 244 _
def EF:=rdF 245 _ [([],pO [3840,64])]
def FZ:=rdF 246 _ [([],pO [768,54,15,30,594,1185,58,60,64])]
def F0:=rdF 247 _ [([],pO [0,783,4,390,222])]
def Ii:=rdF 248 _
def JS:=rdF 249 _ [([],pO [576,205])]
def Co:=rdF 250 _ [] [[15]]
def EY:=rdF 251 _
def CZ:=rdF 252 _
def Eg:=rdF 254 _
def Ij:=rdF 255 _ [([],pO [1152])] [[22]]
def CI:=rdF 256 _ [] [[15]]
def FA:=rdF 257 _
def Gf:=rdF 275 _
abbrev zl0:F SV:=[(.v (.int .i64 (0))),(.v (.string ⟨#[]⟩)),(.v (.string ⟨#[]⟩)),(.v (.string ⟨#[]⟩)),(.v (.int .i64 (0))),(.v (.int .i64 (0))),(.v (.int .i64 (0))),(.v (.slice zc 0 0)),(.v (.slice zc 0 0)),(.v (.slice zc 0 0)),(.v (.int .i64 (0))),(.v (.string ⟨#[]⟩)),(.v (.string ⟨#[]⟩)),(.v (.string ⟨#[]⟩)),(.v (.int .i64 (0))),(.v (.int .i64 (0))),(.v (.int .i64 (0))),(.v (.slice zc 0 0)),(.v (.slice zc 0 0)),(.v (.slice zc 0 0))]
abbrev zl1:F SV:=[(.v (.int .i64 (0))),(.v (.string ⟨#[]⟩)),(.v (.string ⟨#[]⟩)),(.v (.string ⟨#[]⟩)),(.v (.int .i64 (0))),(.v (.int .i64 (0))),(.v (.int .i64 (0))),(.v (.slice zc 0 0)),(.v (.slice zc 0 0)),(.v (.slice zc 0 0)),(.v (.int .i64 (0))),(.v (.string ⟨#[]⟩)),(.v (.string ⟨#[]⟩)),(.v (.string ⟨#[]⟩)),(.v (.int .i64 (0))),(.v (.int .i64 (0))),(.v (.int .i64 (0))),(.v (.slice zc 0 0)),(.v (.slice zc 0 0)),(.v (.slice zc 0 0)),(.v (.int .i64 (0))),(.v (.string ⟨#[]⟩)),(.v (.string ⟨#[]⟩)),(.v (.string ⟨#[]⟩)),(.v (.int .i64 (0))),(.v (.int .i64 (0))),(.v (.int .i64 (0))),(.v (.slice zc 0 0)),(.v (.slice zc 0 0)),(.v (.slice zc 0 0))]
abbrev zl2:F SV:=[(.v (.int .i64 (0))),(.v (.int .i64 (0))),(.v (.int .i64 (0))),(.v (.int .i64 (0))),(.v (.int .i64 (0))),(.v (.bool zb)),(.v (.int .i64 (0))),(.v (.bool zb)),(.v (.bool zb)),(.v (.bool zb)),(.v (.int .i64 (0))),(.v (.int .i64 (0))),(.v (.int .i64 (0))),(.v (.int .i64 (0))),(.v (.int .i64 (0))),(.v (.int .i64 (0))),(.v (.int .i64 (0))),(.v (.int .u64 (0))),(.v (.int .u64 (0))),(.v (.int .u64 (0))),(.v (.int .u64 (0))),(.v (.int .u64 (0))),(.v (.int .u64 (0)))]
abbrev zl3:F SV:=[(.v (.int .i64 (0))),(.v (.int .i64 (0))),(.v (.int .i64 (0))),(.v (.int .i64 (0))),(.v (.int .i64 (0))),(.v (.int .i64 (0))),(.v (.int .i64 (0))),(.v (.int .i64 (0))),(.v (.int .i64 (0))),(.v (.int .i64 (0))),(.v (.int .i64 (0))),(.v (.int .i64 (0))),(.v (.int .u64 (0))),(.v (.int .u64 (0))),(.v (.int .u64 (0))),(.v (.int .u64 (0))),(.v (.int .u64 (0))),(.v (.int .u64 (0)))]
abbrev zl4:F SV:=[(.v (.int .i64 (0))),(.v (.int .i64 (0))),(.v (.int .i64 (0))),(.v (.int .i64 (0))),(.v (.int .i64 (0))),(.v (.int .i64 (0))),(.v (.int .i64 (0))),(.v (.int .u64 (0))),(.v (.int .u64 (0))),(.v (.int .u64 (0))),(.v (.int .u64 (0))),(.v (.int .u64 (0))),(.v (.int .u64 (0)))]
abbrev zl5:F SV:=[(.v (.int .i64 (0))),(.v (.string ⟨#[]⟩)),(.v (.string ⟨#[]⟩)),(.v (.string ⟨#[]⟩)),(.v (.int .i64 (0))),(.v (.int .i64 (0))),(.v (.int .i64 (0))),(.v (.slice zc 0 0)),(.v (.slice zc 0 0)),(.v (.slice zc 0 0)),(.v (.int .i64 (0))),(.v (.int .i64 (0))),(.v (.int .i64 (0))),(.v (.int .i64 (0))),(.v (.int .i64 (0))),(.v (.int .i64 (0))),(.v (.int .i64 (0))),(.v (.int .i64 (0))),(.v (.int .i64 (0))),(.v (.int .u64 (0))),(.v (.int .i64 (0))),(.v (.int .i64 (0))),(.v (.int .i64 (0))),(.v (.int .i64 (0))),(.v (.bool zb)),(.v (.int .i64 (0))),(.v (.int .i64 (0))),(.v (.int .i64 (0))),(.v (.int .i64 (0))),(.v (.int .i64 (0))),(.v (.int .i64 (0))),(.v (.int .i64 (0))),(.v (.int .u64 (0))),(.v (.int .u64 (0))),(.v (.int .u64 (0))),(.v (.int .u64 (0))),(.v (.int .u64 (0))),(.v (.int .u64 (0))),(.v (.int .u64 (0))),(.v (.int .u64 (0))),(.v (.int .u64 (0))),(.v (.int .u64 (0))),(.v (.int .u64 (0))),(.v (.int .u64 (0)))]
def qLM:FnD:=⟨72,[.cell 6 23 I],
 [(.reg [xo 3 (.box 278 (.t 0)),xo 6 (.alloc 121 zl2)]),(.reg [xo 14 (.load zb 1 (.t 3)),xo 15 (.nck (.t 14)),xo 16 (.Fp 0 (.t 15)),xo 17 (.Fp 7 (.t 16)),xo 18 (.load I 3 (.t 17)),xo 19 (.call 27 [(.t 18)]),xo 13 (.mov (.t 19)),xo 20 (.ext 0 (.t 13)),xo 21 (.ext 1 (.t 13)),xo 22 (.ext 2 (.t 13)),xo 7 (.alloc 68 [(.v (.slice zc 0 0)),(.v (.slice zc 0 0)),(.v (.slice zc 0 0))]),xo 8 (.alloc 35 [(.v (.int .i64 (0)))]),xn (.store 3 (.t 7) (.t 20)),xn (.store 1 (.t 8) (.t 21)),xo 9 (.mov (.t 22))]),(.seq (.reg [xo 23 (.load zb 1 (.t 8)),xo 24 (.Ld .eql (.t 23) (.c (.int .i64 (0))))])
 (.cond (.t 24)
 (.seq (.reg [xo 10 (.alloc 71 [(.v (.slice zc 0 0)),(.v (.slice zc 0 0)),(.v (.slice zc 0 0)),(.v (.slice zc 0 0)),(.v (.bool zb))])])
 (.seq (.reg [xo 26 (.load I 3 (.t 7)),xo 27 (.call 63 [(.t 26)]),xo 25 (.mov (.t 27)),xo 28 (.ext 0 (.t 25)),xo 29 (.ext 1 (.t 25)),xn (.store 5 (.t 10) (.t 28)),xn (.store 1 (.t 8) (.t 29))])
 (.seq (.reg [xo 30 (.load zb 1 (.t 8)),xo 31 (.Ld .eql (.t 30) (.c (.int .i64 (0))))])
 (.cond (.t 31)
 (.seq (.reg [xo 33 (.mov (.t 1)),xo 34 (.load I 5 (.t 10)),xo 35 (.I4 (.t 33) [(.t 34)]),xo 32 (.mov (.t 35)),xo 36 (.ext 0 (.t 32)),xo 37 (.ext 1 (.t 32)),xo 11 (.mov (.t 36)),xo 12 (.mov (.t 37))])
 (.seq (.Kp [] (.op ⟨0,I,[],xo 38 (.load zb 1 (.t 3))⟩
 (.op ⟨7,zb,[],xo 45 (.mov (.t 11))⟩
 (.op ⟨9,zb,[],xo 47 (.nck (.t 38))⟩
 (.op ⟨10,zb,[],xo 48 (.Fp 13 (.t 47))⟩
 (.op ⟨8,zb,[],xo 46 (.mov (.t 12))⟩
 (.op ⟨1,I,[],xo 39 (.load zb 1 (.t 3))⟩
 (.op ⟨2,I,[],xo 40 (.load zb 1 (.t 3))⟩
 (.op ⟨3,I,[],xo 41 (.load zb 1 (.t 3))⟩
 (.op ⟨4,I,[],xo 42 (.load zb 1 (.t 3))⟩
 (.op ⟨5,I,[],xo 43 (.load zb 1 (.t 3))⟩
 (.op ⟨6,I,[],xo 44 (.load zb 1 (.t 3))⟩
 (.op ⟨11,zb,[6,5,4,3,2,1],xn (.store 1 (.t 48) (.t 45))⟩
 (.op ⟨12,zb,[],xo 49 (.nck (.t 39))⟩
 (.op ⟨13,zb,[],xo 50 (.Fp 15 (.t 49))⟩
 (.op ⟨14,zb,[6,5,4,3,2],xn (.store 1 (.t 50) (.c (.int .i64 (0))))⟩
 (.op ⟨15,zb,[],xo 51 (.nck (.t 40))⟩
 (.op ⟨16,zb,[],xo 52 (.Fp 16 (.t 51))⟩
 (.op ⟨17,zb,[6,5,4,3],xn (.store 1 (.t 52) (.c (.int .i64 (0))))⟩
 (.op ⟨18,zb,[],xo 53 (.nck (.t 41))⟩
 (.op ⟨19,zb,[],xo 54 (.Fp 17 (.t 53))⟩
 (.op ⟨20,zb,[6,5,4],xn (.store 1 (.t 54) (.c (.int .i64 (0))))⟩
 (.op ⟨21,zb,[],xo 55 (.nck (.t 42))⟩
 (.op ⟨22,zb,[],xo 56 (.Fp 18 (.t 55))⟩
 (.op ⟨23,zb,[6,5],xn (.store 1 (.t 56) (.c (.int .i64 (0))))⟩
 (.op ⟨24,zb,[],xo 57 (.nck (.t 43))⟩
 (.op ⟨25,zb,[],xo 58 (.Fp 21 (.t 57))⟩
 (.op ⟨26,zb,[6],xn (.store 1 (.t 58) (.t 46))⟩
 (.op ⟨27,zb,[],xo 59 (.nck (.t 44))⟩
 (.op ⟨28,zb,[],xo 60 (.Fp 11 (.t 59))⟩
 (.op ⟨29,zb,[],xn (.store 1 (.t 60) (.c (.int .i64 (1))))⟩
 .nil)))))))))))))))))))))))))))))))
 (.seq (.reg [xo 61 (.load zb 1 (.t 3)),xo 62 (.mov (.t 12)),xo 63 (.call 177 [(.t 61),(.c (.int .i64 (6))),(.c (.int .i64 (3))),(.t 62)]),xn (.store 23 (.t 6) (.t 63))])
 (.seq (.reg [xo 64 (.Fp 8 (.t 6)),xn (.store 1 (.t 64) (.b I))])
 (.seq (.reg [xo 65 (.load I 23 (.t 6)),xn (.store 23 (.t 6) (.t 65))])
 .ret)))))
 .skip))))
 .skip))],.mkf (.func 224) [] [(.t 3),(.t 6),(.t 8)],66,224,
 (.seq (.reg [xo 67 (.load zb 1 (.t 3)),xo 68 (.mov (.t 2)),xo 69 (.call 177 [(.t 67),(.c (.int .i64 (1))),(.c (.int .i64 (3))),(.t 68)]),xn (.store 23 (.t 6) (.t 69))])
 (.seq (.reg [xo 70 (.Fp 8 (.t 6)),xn (.store 1 (.t 70) (.b I))])
 (.seq (.reg [xo 71 (.load I 23 (.t 6)),xn (.store 23 (.t 6) (.t 71))])
 .ret))),
 ⟨15,[],
 (.seq (.reg [xo 3 (.load zb 1 (.t 0)),xo 4 (.nck (.t 3)),xo 5 (.Fp 24 (.t 4)),xn (.store 1 (.t 5) (.b I)),xo 6 (.Fp 9 (.t 1)),xn (.store 1 (.t 6) (.b I))])
 (.reg [xo 7 (.load zb 1 (.t 0)),xo 8 (.load zb 1 (.t 2)),xo 9 (.build zl4 [(0,1,(.c (.int .i64 (9)))),(6,1,(.t 8))]),xo 10 (.load zb 1 (.t 2)),xo 11 (.build zl4 [(0,1,(.c (.int .i64 (9)))),(6,1,(.t 10))]),xo 12 (.nck (.t 7)),xo 13 (.Fp 25 (.t 12)),xn (.store 13 (.t 13) (.t 9)),xo 14 (.Fp 10 (.t 1)),xn (.store 13 (.t 14) (.t 11))]))⟩⟩
def qhL:qxS X0 175 [([],(.first 0 (.first 7 (.first 9 (.first 10 (.first 8 (.first 1 (.first 2 (.first 3 (.first 4 (.first 5 (.first 6 (.exec 11 (.first 12 (.first 13 (.exec 14 (.first 15 (.first 16 (.exec 17 (.first 18 (.first 19 (.exec 20 (.first 21 (.first 22 (.exec 23 (.first 24 (.first 25 (.exec 26 (.first 27 (.first 28 (.exec 29 .nil)))))))))))))))))))))))))))))))] [] [] []=O qLM:=se
end Go.Proofs.YtlmhpamhhgogaaaGreat
